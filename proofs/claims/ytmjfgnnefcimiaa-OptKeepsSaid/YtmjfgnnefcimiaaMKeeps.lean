/- Fold, Copies, Dead and Opt leave the block that is handed to them as it is, and give the same result for a copy of it: for every input, without any condition. -/
import Derived.Laws.BytesString
import Derived.Test.YtmjfgnnefcimiaaK1
import Derived.Test.YtmjfgnnefcimiaaK12
import Derived.Test.YtmjfgnnefcimiaaK13
import Derived.Test.YtmjfgnnefcimiaaK14
import Derived.Test.YtmjfgnnefcimiaaK15
import Derived.Test.YtmjfgnnefcimiaaK16
import Derived.Test.YtmjfgnnefcimiaaK17
import Derived.Test.YtmjfgnnefcimiaaK18
import Derived.Test.YtmjfgnnefcimiaaK19
import Derived.Test.YtmjfgnnefcimiaaK20
import Derived.Test.YtmjfgnnefcimiaaK21
import Derived.Test.YtmjfgnnefcimiaaK22
import Derived.Test.YtmjfgnnefcimiaaK23
import Derived.Test.YtmjfgnnefcimiaaK24
import Derived.Test.YtmjfgnnefcimiaaK25
import Derived.Test.YtmjfgnnefcimiaaK26
import Derived.Test.YtmjfgnnefcimiaaK27
import Derived.Test.YtmjfgnnefcimiaaK28
import Derived.Test.YtmjfgnnefcimiaaK29
import Derived.Test.YtmjfgnnefcimiaaK3
import Derived.Test.YtmjfgnnefcimiaaK5
import Derived.Test.YtmjfgnnefcimiaaK6
namespace Go.Proofs.Ytmjfgnnefcimiaa
open Go.RowKit

/-- Whether a variable is live before the first of these operations. -/
def liveAtL : List BOp → Int → Bool
  | [], _ => false
  | o :: l, v => if memI v (reads o) || (observesB o && decide (v < 19)) then true else if writes o == v then false else liveAtL l v
theorem liveAtL_cons (o : BOp) (l : List BOp) (v : Int) : liveAtL (o :: l) v = (memI v (reads o) || (observesB o && decide (v < 19)) || (liveAtL l v && !(writes o == v))) := by
  show (if _ then _ else _) = _
  split
  · rename_i h; rw [h]; rfl
  · rename_i h
    have h' : (memI v (reads o) || (observesB o && decide (v < 19))) = false := by simpa using h
    rw [h', Bool.false_or]
    split
    · rename_i h2; rw [h2]; simp
    · rename_i h2; rw [show (writes o == v) = false by simpa using h2]; simp
theorem setM_bit (m k j : Nat) : (setM m k).testBit j = (m.testBit j || decide (k = j)) := by unfold setM; rw [Nat.testBit_or, Nat.testBit_two_pow]
theorem readsM_bit : ∀ (l : List Int) (m : Nat) (v : Nat), (∀ x ∈ l, 0 ≤ x) → (readsM m l).testBit v = (m.testBit v || memI (v : Int) l)
  | [], m, v, _ => by simp [readsM, memI]
  | x :: l, m, v, h => by
    have hx := h x (by simp)
    show (readsM (setM m x.toNat) l).testBit v = _
    rw [readsM_bit l _ v (fun y hy => h y (by simp [hy])), setM_bit]
    unfold memI
    rw [List.any_cons, Bool.or_assoc]
    congr 2
    rw [Bool.eq_iff_iff]; simp; omega
theorem clrM_bit {m d v : Nat} (hd : d < 32) (hv : v < 32) : (clrM m d).testBit v = (m.testBit v && !decide (d = v)) := by
  unfold clrM
  rw [Nat.testBit_and]
  have : (4294967295 - 2 ^ d).testBit v = !decide (d = v) := by
    have e : 4294967295 - 2 ^ d = 2 ^ 32 - (2 ^ d + 1) := by omega
    have h2 : 2 ^ d < 2 ^ 32 := Nat.pow_lt_pow_right (by omega) hd
    rw [e, Nat.testBit_two_pow_sub_succ h2, Nat.testBit_two_pow]
    simp [hv]
  rw [this]
theorem low19_bit (v : Nat) : (524287 : Nat).testBit v = decide (v < 19) := by
  rw [show (524287 : Nat) = 2 ^ 19 - 1 from rfl, Nat.testBit_two_pow_sub_one]
theorem writes_lt {o : BOp} (hf : formedB o = true) : writes o < 28 := by
  have := writes_var hf
  exact this
theorem beforeM_bit {o : BOp} (hf : formedB o = true) (m : Nat) {v : Nat} (hv : v < 28) : (beforeM o m).testBit v = (memI (v : Int) (reads o) || (observesB o && decide ((v : Int) < 19)) || (m.testBit v && !(writes o == (v : Int)))) := by
  have hr : ∀ x ∈ reads o, 0 ≤ x := fun x hx => (reads_var hf x hx).1
  have hw := writes_lt hf
  have hc : (if 0 ≤ writes o then clrM m (writes o).toNat else m).testBit v = (m.testBit v && !(writes o == (v : Int))) := by
    split
    · rename_i h0
      rw [clrM_bit (by omega) (by omega)]
      congr 2
      rw [Bool.eq_iff_iff]; simp; omega
    · rename_i h0
      have : (writes o == (v : Int)) = false := by rw [beq_eq_false_iff_ne]; omega
      rw [this]; simp
  have h19 : decide ((v : Int) < 19) = decide (v < 19) := by rw [decide_eq_decide]; omega
  unfold beforeM
  split
  · rename_i ho
    rw [Nat.testBit_or, readsM_bit _ _ _ hr, hc, low19_bit, ho, h19]
    cases memI (v : Int) (reads o) <;> cases decide (v < 19) <;> simp
  · rename_i ho
    have ho' : observesB o = false := by simpa using ho
    rw [readsM_bit _ _ _ hr, hc, ho']
    cases memI (v : Int) (reads o) <;> simp
/-- The mask says what is live. -/
def MaskIs (m : Nat) (l : List BOp) : Prop := ∀ v : Nat, v < 28 → m.testBit v = liveAtL l (v : Int)
theorem mask_nil : MaskIs 0 [] := fun v _ => by simp [liveAtL]
theorem mask_cons {o : BOp} (hf : formedB o = true) {m : Nat} {l : List BOp} (h : MaskIs m l) : MaskIs (beforeM o m) (o :: l) := fun v hv => by rw [beforeM_bit hf m hv, liveAtL_cons, h v hv]
end Go.Proofs.Ytmjfgnnefcimiaa
namespace Go.Proofs.Ytmjfgnnefcimiaa
open Go.RowKit

section
variable {w0 : World} {S : List Ow} {K : AV → List Ow → Prop} {b : Blk} {A1 A2 A3 : Option Addr} {n1 n2 n3 c1 c2 c3 : Nat}
/-- A pass over a block in plain memory. -/
theorem call_pass_pl {P : Program} {fid : FuncId} {F : Blk → List BOp} (hp : Pass P fid F) (hok : fnOk P fid = true) (hb : b.ok) (h0 : b.ops = [] → F b = []) (hn1 : b.at_.length = n1) (hn2 : b.pages.length = n2) (hn3 : b.ops.length = n3)
    (h1 : SlAt w0 w0.heap.size A1 (b.at_.map (.int .u32))) (h2 : SlAt w0 w0.heap.size A2 (b.pages.map (.int .i64))) (h3 : OpsAt w0 w0.heap.size A3 b.ops) (hc3 : n3 ≤ c3) (hm3 : c3 ≤ maxLen)
    (hK : K (.p (.agg [.v (.slice A1 n1 c1), .v (.slice A2 n2 c2), .row S.length])) (S ++ [.view viewT (F b).length ((F b).flatMap opC)])) :
    CallS P w0 Gs.nil fid [.p (.agg [.v (.slice A1 n1 c1), .v (.slice A2 n2 c2), .v (.slice A3 n3 c3)])] S K := by
  subst hn1; subst hn2; subst hn3
  refine ⟨hok, fun r w us hR hd => ?_⟩
  obtain ⟨u1, l1, rfl, d1, d2⟩ := hd
  obtain rfl : l1 = [] := d2
  obtain rfl := AV.val_den (x := .agg #[.slice A1 b.at_.length c1, .slice A2 b.pages.length c2, .slice A3 b.ops.length c3]) rfl d1
  refine (hp b A1 A2 A3 c1 c2 c3 w hb (sl_later h1 hR.toBelow) (sl_later h2 hR.toBelow) (sl_later h3 hR.toBelow) hc3 hm3).mono fun e w' ⟨A', c', he, ho, k1, k2, k3, hB⟩ => ?_
  refine ⟨.p (.agg [.v (.slice A1 b.at_.length c1), .v (.slice A2 b.pages.length c2), .row S.length]), _, _, r.set S.length none (some (.slice A' (F b).length c')), he, ⟨[.slice A1 b.at_.length c1, .slice A2 b.pages.length c2, .slice A' (F b).length c'], rfl, ?_⟩,
    hR.snoc (o := .view viewT (F b).length ((F b).flatMap opC)) hB (b := none) nofun ⟨A', c', by simp [Env.set], k1, ⟨k2, trivial⟩, by simp [Env.set], fun j u hj => ?_⟩, hR.le_new _ _, hK⟩
  · simp only [denL, CV.den]
    exact ⟨_, _, rfl, rfl, _, _, rfl, rfl, _, _, rfl, by simp [Env.set], rfl⟩
  · obtain ⟨b', off, e4, e5, e6⟩ := ho j u hj
    refine ⟨b', off, e4, e5, fun q hq => ?_, e6⟩
    simp only [Env.set] at hq
    split at hq
    · cases hq
    · rcases k3 with k3 | rfl
      · have := k3 b' off none e4
        have := (hR.new q b' hq).1
        omega
      · have hpos : 0 < b.ops.length := by
          rcases Nat.eq_zero_or_pos b.ops.length with h | h
          · rw [h0 (List.eq_nil_of_length_eq_zero h)] at hj; simp at hj
          · exact h
        have h5 := ops_lt (e4 ▸ h3) hpos
        exact absurd ((hR.new q b' hq).2 h5) (by simp)
theorem call_blkV2 {fid : FuncId} (i : Nat) {φ : Option Addr → Prop} {n : Nat} {xs : List Value} {x : Value} {s1 s2 t1 t2 t3 : Value} (hi : S[i]? = some (.view φ n xs)) (hok : fnOk Try.prog fid = true)
    (h : ∀ r w A c, Rel w0 Gs.nil S r w → SlAt w w.heap.size A xs → n ≤ c → c ≤ maxLen → Calls Try.prog fid #[.agg #[t1, t2, t3], .agg #[s1, s2, .slice A n c]] w fun e w' => e = .returned x ∧ Below w.heap.size w w') (hK : K (AV.of x) S) :
    CallS Try.prog w0 Gs.nil fid [.p (.agg [.v t1, .v t2, .v t3]), .p (.agg [.v s1, .v s2, .row i])] S K := by
  refine callS_val x hok (fun r w us hR hd => ?_) hK
  obtain ⟨u1, l1, rfl, d1, u2, l2, rfl, d2, d3⟩ := hd
  obtain rfl : l2 = [] := d3
  obtain rfl := AV.val_den (x := .agg #[t1, t2, t3]) rfl d1
  obtain ⟨us, rfl, hl'⟩ := den_agg d2
  simp only [denL, CV.den] at hl'
  obtain ⟨u1, l1, rfl, rfl, u2, l2, rfl, rfl, u3, l3, rfl, e3, rfl⟩ := hl'
  obtain ⟨A, c, rfl, s, k1, k2, _⟩ := viewAt hR hi e3
  exact h r w A c hR s k1 k2
end
theorem sameB_self (b : Blk) : sameB b b = true := by simp [sameB]
end Go.Proofs.Ytmjfgnnefcimiaa
namespace Go.Proofs.Ytmjfgnnefcimiaa
open Go.RowKit

theorem foldB_mark (f : Int → Option Int) {o : BOp} (ho : o.code = 20) : foldB f o = (o, true) := by
  unfold foldB
  have hb : isBin o.code = false := by rw [ho]; rfl
  have hm : memI o.code [3, 4, 6, 7, 8, 9, 10] = false := by rw [ho]; rfl
  rw [hb, hm, ho]
  simp
end Go.Proofs.Ytmjfgnnefcimiaa
namespace Go.Proofs.Ytmjfgnnefcimiaa
open Go.RowKit

/-- The variable of which v is a copy behind these operations, the last first; or -1. m: a mark has been passed; sk: what has been passed. -/
def copyF : Bool → List BOp → List BOp → Int → Int
  | _, [], _, _ => -1
  | m, o :: r, sk, v => if writes o = v then (if o.code ≠ 2 ∨ o.a = v then -1 else if m = true ∧ (20 ≤ v ∨ 20 ≤ o.a) then -1 else if (sk.any fun p => writes p == o.a) = true then -1 else o.a) else copyF (m || o.code == 20) r (o :: sk) v
def copyR (r : List BOp) (v : Int) : Int := copyF false r [] v
/-- The map says what is a copy; its values are no copies. -/
structure CopyIs (s : Int → Option Int) (r : List BOp) : Prop where
  fm : ∀ o ∈ r, o.code = 2 → 0 ≤ o.a
  some_ : ∀ v w, 0 ≤ v → v < 28 → s v = some w → copyR r v = w ∧ 0 ≤ w ∧ w < 28
  none_ : ∀ v, 0 ≤ v → v < 28 → s v = none → copyR r v < 0
  flat : ∀ v w, s v = some w → s w = none
theorem copyMark_not (s : Int → Option Int) {o : BOp} (ho : o.code ≠ 20) : copyMark s o = s := by unfold copyMark; rw [if_neg (by simpa using ho)]
end Go.Proofs.Ytmjfgnnefcimiaa
namespace Go.Proofs.Ytmjfgnnefcimiaa
open Go.RowKit

/-- The search for the last writing operation, under way. -/
structure CpAtSt (l : List BOp) (i : Nat) (v : Int) where
  m : Nat
  mq : Bool
  hm : m ≤ i
  h : copyR (l.take i).reverse v = copyF mq (l.take m).reverse ((l.take i).drop m) v
end Go.Proofs.Ytmjfgnnefcimiaa
namespace Go.Proofs.Ytmjfgnnefcimiaa
open Go.RowKit

/-- A step of the check, taken apart. -/
theorem ck_step {s s1 : Ck} {o : BOp} {x y : Bool} (h : ckNext s o x y = some s1) : formedB o = true ∧ placedB s o x y = true ∧ (o.code = 20 → o.n = (s.marks : Int) ∧ s1 = ⟨s.marks + 1, 0, false⟩) ∧
    (o.code ≠ 20 → (∀ v ∈ reads o, readB s v = true) ∧ s1 = ⟨s.marks, if 20 ≤ writes o then s.written ||| 2 ^ (writes o).toNat else s.written, s.changed || (stores o.code || decide (0 ≤ writes o ∧ writes o < 20))⟩) := by
  unfold ckNext at h
  by_cases hf : (formedB o && placedB s o x y) = true
  · rw [if_pos hf] at h
    simp only [Bool.and_eq_true] at hf
    refine ⟨hf.1, hf.2, fun hc => ?_, fun hc => ?_⟩
    · rw [if_pos (by simp [hc])] at h
      by_cases hn : (o.n == (s.marks : Int)) = true
      · rw [if_pos hn] at h; injection h with h; exact ⟨by simpa using hn, h.symm⟩
      · rw [if_neg hn] at h; cases h
    · rw [if_neg (by simpa using hc)] at h
      by_cases hr : (reads o).all (readB s) = true
      · rw [if_pos hr] at h; injection h with h; exact ⟨fun v hv => List.all_eq_true.1 hr v hv, h.symm⟩
      · rw [if_neg hr] at h; cases h
  · rw [if_neg hf] at h; cases h
theorem ck_mark {s : Ck} {o : BOp} {x y : Bool} (hf : formedB o = true) (hp : placedB s o x y = true) (hc : o.code = 20) (hn : o.n = (s.marks : Int)) : ckNext s o x y = some ⟨s.marks + 1, 0, false⟩ := by
  unfold ckNext
  rw [if_pos (by rw [hf, hp]; rfl), if_pos (by simp [hc]), if_pos (by simp [hn])]
theorem ck_op {s : Ck} {o : BOp} {x y : Bool} (hf : formedB o = true) (hp : placedB s o x y = true) (hc : o.code ≠ 20) (hr : ∀ v ∈ reads o, readB s v = true) :
    ckNext s o x y = some ⟨s.marks, if 20 ≤ writes o then s.written ||| 2 ^ (writes o).toNat else s.written, s.changed || (stores o.code || decide (0 ≤ writes o ∧ writes o < 20))⟩ := by
  unfold ckNext
  rw [if_pos (by rw [hf, hp]; rfl), if_neg (by simpa using hc), if_pos (List.all_eq_true.2 hr)]
theorem ck_cons {s s1 : Ck} {o : BOp} {l : List BOp} (h : ckNext s o l.isEmpty (exitNext l) = some s1) : ckRun s (o :: l) = ckRun s1 l := by
  show (match ckNext s o l.isEmpty (exitNext l) with | some s' => ckRun s' l | none => none) = _
  rw [h]
theorem ck_uncons {s s2 : Ck} {o : BOp} {l : List BOp} (h : ckRun s (o :: l) = some s2) : ∃ s1, ckNext s o l.isEmpty (exitNext l) = some s1 ∧ ckRun s1 l = some s2 := by
  change (match ckNext s o l.isEmpty (exitNext l) with | some s' => ckRun s' l | none => none) = _ at h
  cases h1 : ckNext s o l.isEmpty (exitNext l) with
  | none => rw [h1] at h; cases h
  | some s1 => rw [h1] at h; exact ⟨s1, rfl, h⟩
theorem placed_parts {s : Ck} {o : BOp} {x y : Bool} : placedB s o x y = true ↔ endsB o.code = x ∧ (o.code = 23 → y = true) ∧ (leaves o.code = true → s.changed = false) := by
  unfold placedB
  simp only [Bool.and_eq_true, Bool.not_eq_true', Bool.and_eq_false_iff, beq_iff_eq, Bool.not_eq_false', beq_eq_false_iff_ne]
  constructor
  · rintro ⟨⟨h1, h2⟩, h3⟩
    refine ⟨h1, fun e => ?_, fun e => ?_⟩
    · rcases h2 with h2 | h2
      · exact absurd e h2
      · exact h2
    · rcases h3 with h3 | h3
      · rw [e] at h3; cases h3
      · exact h3
  · rintro ⟨h1, h2, h3⟩
    refine ⟨⟨h1, ?_⟩, ?_⟩
    · by_cases e : o.code = 23
      · exact .inr (h2 e)
      · exact .inl e
    · by_cases e : leaves o.code = true
      · exact .inr (h3 e)
      · exact .inl (by simpa using e)
/-- What the check asks of what follows an operation. -/
structure Follows (l m : List BOp) : Prop where
  empty : m.isEmpty = l.isEmpty
  exit : exitNext l = true → exitNext m = true
theorem header_of {b : Blk} {l : List BOp} (h : headerB b = true) (h1 : 1 ≤ l.length) (h2 : l.length ≤ b.ops.length) (h3 : ∀ o, b.ops.head? = some o → o.code = 20 → ∃ p, l.head? = some p ∧ p.code = 20) : headerB ⟨b.at_, b.pages, l⟩ = true := by
  unfold headerB at h ⊢
  simp only [Bool.and_eq_true, decide_eq_true_eq] at h ⊢
  obtain ⟨⟨⟨k1, k2⟩, k3⟩, k4⟩ := h
  refine ⟨⟨⟨k1, k2⟩, by show 1 ≤ l.length ∧ l.length ≤ 2000; omega⟩, ?_⟩
  cases hb : b.ops with
  | nil => rw [hb] at k4; cases k4
  | cons o r =>
    rw [hb] at k4
    obtain ⟨p, hp, hc⟩ := h3 o (by rw [hb]; rfl) (by simpa using k4)
    cases l with
    | nil => cases hp
    | cons q m => injection hp with hp; subst hp; simp [hc]

/-! Fold. -/
theorem fold_nonempty : ∀ (l : List BOp) (f : Int → Option Int) {s s1 : Ck}, ckRun s l = some s1 → l ≠ [] → foldRun f l ≠ []
  | [], _, _, _, _, hl => absurd rfl hl
  | o :: l, f, s, s1, h, _ => by
    obtain ⟨s2, h1, h2⟩ := ck_uncons h
    unfold foldRun
    split
    · simp
    · rename_i hk
      refine fold_nonempty l _ h2 fun hl => ?_
      subst hl
      obtain ⟨hf, hp, _, _⟩ := ck_step h1
      have he := (placed_parts.1 hp).1
      unfold foldB at hk
      split at hk
      · simp at hk
      split at hk
      · simp at hk
      split at hk
      · simp at hk
      split at hk
      · rename_i hc
        simp only [Bool.and_eq_true, beq_iff_eq] at hc
        rw [hc.1.1] at he; cases he
      split at hk
      · rename_i hc
        simp only [Bool.and_eq_true, beq_iff_eq] at hc
        rw [hc.1] at he; cases he
      split at hk
      · simp at hk
      · simp at hk
theorem foldB_exit (f : Int → Option Int) {o : BOp} (h : o.code = 24) : foldB f o = (o, true) := by
  unfold foldB
  have hb : isBin o.code = false := by rw [h]; rfl
  have hm : memI o.code [3, 4, 6, 7, 8, 9, 10] = false := by rw [h]; rfl
  rw [hb, hm, h]
  simp
theorem fold_exit {l : List BOp} (f : Int → Option Int) (h : exitNext l = true) : exitNext (foldRun f l) = true := by
  cases l with
  | nil => cases h
  | cons o l =>
    have hc : o.code = 24 := by simpa [exitNext] using h
    unfold foldRun
    rw [foldB_exit _ hc]
    simp [exitNext, hc]
theorem placed_keep {s s1 : Ck} {o : BOp} {x y x' y' : Bool} (h : ckNext s o x y = some s1) (hx : x' = x) (hy : y = true → y' = true) : ckNext s o x' y' = some s1 := by
  subst hx
  obtain ⟨hf, hp, h1, h2⟩ := ck_step h
  obtain ⟨p1, p2, p3⟩ := placed_parts.1 hp
  have hp' : placedB s o x' y' = true := placed_parts.2 ⟨p1, fun e => hy (p2 e), p3⟩
  by_cases hc : o.code = 20
  · obtain ⟨e1, e2⟩ := h1 hc
    rw [e2]; exact ck_mark hf hp' hc e1
  · obtain ⟨e1, e2⟩ := h2 hc
    rw [e2]; exact ck_op hf hp' hc e1
/-- An operation that writes the same variable and no memory, in the place of another one. -/
theorem ck_put {s s1 : Ck} {o p : BOp} {x y y' : Bool} (h : ckNext s o x y = some s1) (hD : 2 ≤ o.code ∧ o.code ≤ 15) (hc : p.code = 1 ∨ p.code = 2) (hd : p.d = o.d) (hb : p.b = 0) (hn : p.code = 2 → p.n = 0) (ha : p.code = 1 → p.a = 0) (ha2 : p.code = 2 → p.a = o.a) : x = false ∧ ckNext s p x y' = some s1 := by
  obtain ⟨hf, hp, _, h2⟩ := ck_step h
  obtain ⟨p1, p2, p3⟩ := placed_parts.1 hp
  have hx : x = false := by
    rw [← p1]; unfold endsB; rw [decide_eq_false_iff_not]; omega
  refine ⟨hx, ?_⟩
  obtain ⟨hr, hs⟩ := h2 (by omega)
  have hDo : hasD o.code = true := by unfold hasD; rw [decide_eq_true_eq]; omega
  have hDp : hasD p.code = true := by unfold hasD; rw [decide_eq_true_eq]; omega
  have hAo : hasA o.code = true := by unfold hasA; rw [decide_eq_true_eq]; omega
  have hBp : hasB p.code = false := by unfold hasB; rw [decide_eq_false_iff_not]; omega
  have hwo : writes o = o.d := by unfold writes; rw [hDo]; rfl
  have hwp : writes p = o.d := by unfold writes; rw [hDp, if_pos rfl, hd]
  have hf' := hf
  unfold formedB at hf
  simp only [Bool.and_eq_true] at hf
  obtain ⟨⟨⟨⟨f1, f2⟩, f3⟩, f4⟩, f5⟩ := hf
  have hfp : formedB p = true := by
    unfold formedB
    simp only [Bool.and_eq_true]
    refine ⟨⟨⟨⟨by unfold isOp; rw [decide_eq_true_eq]; omega, by rw [hDp, hd]; rw [hDo] at f2; exact f2⟩, ?_⟩, by rw [hBp, hb]; rfl⟩, ?_⟩
    · rcases hc with hc | hc
      · rw [ha hc, hc]; rfl
      · rw [ha2 hc, show hasA p.code = hasA o.code by rw [hAo, hc]; rfl]; exact f3
    · rcases hc with hc | hc
      · rw [hc]; rfl
      · rw [hn hc]; simp
  have hrp : ∀ v ∈ reads p, readB s v = true := fun v hv => by
    unfold reads at hv
    rw [hBp] at hv
    rcases hc with hc | hc
    · rw [hc] at hv; simp [hasA] at hv
    · rw [hc, ha2 hc] at hv
      simp [hasA] at hv
      subst hv
      exact hr _ (by unfold reads; rw [hAo]; simp)
  have hst : stores o.code = false := by unfold stores; rw [decide_eq_false_iff_not]; omega
  have hsp : stores p.code = false := by unfold stores; rw [decide_eq_false_iff_not]; omega
  have hpl : placedB s p x y' = true := placed_parts.2 ⟨by rw [hx]; unfold endsB; rw [decide_eq_false_iff_not]; omega, fun e => by omega, fun e => by unfold leaves at e; rw [decide_eq_true_eq] at e; omega⟩
  rw [ck_op hfp hpl (by omega) hrp, hs, hwo, hwp, hst, hsp]
theorem ck_leave {s s1 : Ck} {o : BOp} {x y y' : Bool} {n : Int} (h : ckNext s o x y = some s1) (hc : o.code = 23 ∨ o.code = 25) : ckNext s ⟨24, 0, 0, 0, n⟩ true y' = some s1 := by
  obtain ⟨hf, hp, _, h2⟩ := ck_step h
  obtain ⟨hr, hs⟩ := h2 (by omega)
  have hwo : writes o = -1 := by unfold writes; rcases hc with hc | hc <;> rw [hc] <;> rfl
  have hst : stores o.code = false := by rcases hc with hc | hc <;> rw [hc] <;> rfl
  have hk := ck_op (s := s) (o := ⟨24, 0, 0, 0, n⟩) (x := true) (y := y') rfl (placed_parts.2 ⟨rfl, fun e => absurd (show (24 : Int) = 23 from e) (by decide), fun e => by cases e⟩) (show (24 : Int) ≠ 20 by decide) (fun v hv => by simp [reads, hasA, hasB] at hv)
  rw [hk, hs, hwo, hst]
  rfl
/-- What replaces an operation, for the check. -/
theorem foldB_step (f : Int → Option Int) {o : BOp} {s s1 : Ck} {x y : Bool} (h : ckNext s o x y = some s1) :
    foldB f o = (o, true) ∨ ((foldB f o).2 = true ∧ (foldB f o).1.code ≠ 24 ∧ x = false ∧ ∀ y', ckNext s (foldB f o).1 x y' = some s1) ∨ ((foldB f o).2 = true ∧ (foldB f o).1.code = 24 ∧ (o.code = 23 ∨ o.code = 25) ∧ ∀ y', ckNext s (foldB f o).1 true y' = some s1) ∨ ((foldB f o).2 = false ∧ s1 = s ∧ x = false) := by
  have hgone : o.code = 21 ∨ o.code = 23 → s1 = s ∧ x = false := fun hc => by
    obtain ⟨hf, hp, _, h2⟩ := ck_step h
    obtain ⟨p1, p2, p3⟩ := placed_parts.1 hp
    obtain ⟨hr, hs⟩ := h2 (by omega)
    have hwo : writes o = -1 := by unfold writes; rcases hc with hc | hc <;> rw [hc] <;> rfl
    have hst : stores o.code = false := by rcases hc with hc | hc <;> rw [hc] <;> rfl
    refine ⟨?_, by rw [← p1]; rcases hc with hc | hc <;> rw [hc] <;> rfl⟩
    rw [hs, hwo, hst]
    rw [if_neg (by decide), show (false || decide ((0 : Int) ≤ -1 ∧ (-1 : Int) < 20)) = false from rfl, Bool.or_false]
  unfold foldB
  by_cases c1 : (o.code == 2 && (f o.a).isSome) = true
  · rw [if_pos c1]
    simp only [Bool.and_eq_true, beq_iff_eq] at c1
    have := fun y' => ck_put (p := ⟨1, o.d, 0, 0, (f o.a).getD 0⟩) (y' := y') h (by omega) (.inl rfl) rfl rfl nofun (fun _ => rfl) nofun
    exact .inr (.inl ⟨rfl, (fun e => by cases e), (this false).1, fun y' => (this y').2⟩)
  rw [if_neg c1]
  by_cases c2 : (isBin o.code && (f o.a).isSome && (f o.b).isSome) = true
  · rw [if_pos c2]
    simp only [Bool.and_eq_true, isBin, decide_eq_true_eq] at c2
    have := fun y' => ck_put (p := ⟨1, o.d, 0, 0, wordOp o.code ((f o.a).getD 0) ((f o.b).getD 0)⟩) (y' := y') h (by omega) (.inl rfl) rfl rfl nofun (fun _ => rfl) nofun
    exact .inr (.inl ⟨rfl, (fun e => by cases e), (this false).1, fun y' => (this y').2⟩)
  rw [if_neg c2]
  by_cases c3 : ((f o.b).isSome && (f o.b).getD 0 == 0 && memI o.code [3, 4, 6, 7, 8, 9, 10]) = true
  · rw [if_pos c3]
    simp only [Bool.and_eq_true] at c3
    have hm := c3.2
    simp only [memI, List.any_cons, List.any_nil, Bool.or_false, Bool.or_eq_true, beq_iff_eq] at hm
    have := fun y' => ck_put (p := ⟨2, o.d, o.a, 0, 0⟩) (y' := y') h (by omega) (.inr rfl) rfl rfl (fun _ => rfl) nofun (fun _ => rfl)
    exact .inr (.inl ⟨rfl, (fun e => by cases e), (this false).1, fun y' => (this y').2⟩)
  rw [if_neg c3]
  by_cases c4 : (o.code == 21 && (f o.a).isSome && (f o.a).getD 0 != 0) = true
  · rw [if_pos c4]
    simp only [Bool.and_eq_true, beq_iff_eq] at c4
    exact .inr (.inr (.inr ⟨rfl, hgone (.inl c4.1.1)⟩))
  rw [if_neg c4]
  by_cases c5 : (o.code == 23 && (f o.a).isSome) = true
  · rw [if_pos c5]
    simp only [Bool.and_eq_true, beq_iff_eq] at c5
    cases hz : (f o.a).getD 0 != 0
    · exact .inr (.inr (.inr ⟨rfl, hgone (.inr c5.1)⟩))
    · exact .inr (.inr (.inl ⟨rfl, rfl, .inl c5.1, fun y' => ck_leave h (.inl c5.1)⟩))
  rw [if_neg c5]
  by_cases c6 : (o.code == 25 && (f o.a).isSome) = true
  · rw [if_pos c6]
    simp only [Bool.and_eq_true, beq_iff_eq] at c6
    exact .inr (.inr (.inl ⟨rfl, rfl, .inr c6.1, fun y' => ck_leave h (.inr c6.1)⟩))
  rw [if_neg c6]
  exact .inl rfl
theorem ck_empty {l : List BOp} (h : l.isEmpty = true) : l = [] := List.isEmpty_iff.1 h
theorem fold_follows {l : List BOp} (f : Int → Option Int) {s s1 : Ck} (h : ckRun s l = some s1) : (foldRun f l).isEmpty = l.isEmpty := by
  cases l with
  | nil => rfl
  | cons o l =>
    have := fold_nonempty (o :: l) f h (by simp)
    cases hr : foldRun f (o :: l) with
    | nil => exact absurd hr this
    | cons _ _ => rfl
theorem fold_ck : ∀ (l : List BOp) (f : Int → Option Int) {s s1 : Ck}, ckRun s l = some s1 → ∃ s2, ckRun s (foldRun f l) = some s2 ∧ s2.marks = s1.marks
  | [], f, s, s1, h => ⟨s1, h, rfl⟩
  | o :: l, f, s, s1, h => by
    obtain ⟨s2, h1, h2⟩ := ck_uncons h
    unfold foldRun
    rcases foldB_step (foldMark f o) h1 with e | ⟨e1, e2, e3, e4⟩ | ⟨e1, e2, e3, e4⟩ | ⟨e1, e2, e3⟩
    · rw [e, if_pos rfl]
      by_cases hc : (o.code == 24) = true
      · rw [if_pos hc]
        have hl : l = [] := ck_empty (by rw [← (placed_parts.1 (ck_step h1).2.1).1, show o.code = 24 by simpa using hc]; rfl)
        subst hl
        exact ⟨s1, h, rfl⟩
      · rw [if_neg hc]
        obtain ⟨s3, k1, k2⟩ := fold_ck l (foldUpd (foldMark f o) o) h2
        exact ⟨s3, by rw [ck_cons (placed_keep h1 (fold_follows _ h2) (fold_exit _))]; exact k1, k2⟩
    · rw [if_pos e1, if_neg (by simpa using e2)]
      obtain ⟨s3, k1, k2⟩ := fold_ck l (foldUpd (foldMark f o) (foldB (foldMark f o) o).1) h2
      refine ⟨s3, ?_, k2⟩
      rw [ck_cons (by rw [fold_follows _ h2]; exact e4 _)]; exact k1
    · rw [if_pos e1, if_pos (by simp [e2])]
      refine ⟨s2, by rw [ck_cons (e4 _)]; rfl, ?_⟩
      obtain ⟨_, hp, _, _⟩ := ck_step h1
      obtain ⟨p1, p2, _⟩ := placed_parts.1 hp
      rcases e3 with hc | hc
      · have hx := p2 hc
        cases l with
        | nil => cases hx
        | cons q r =>
          have hq : q.code = 24 := by simpa [exitNext] using hx
          obtain ⟨s3, h3, h4⟩ := ck_uncons h2
          obtain ⟨_, hp3, _, h5⟩ := ck_step h3
          have hr : r = [] := ck_empty (by rw [← (placed_parts.1 hp3).1, hq]; rfl)
          subst hr
          injection h4 with h4
          subst h4
          rw [(h5 (by omega)).2]
      · have hl : l = [] := ck_empty (by rw [← p1, hc]; rfl)
        subst hl
        injection h2 with h2
        rw [h2]
    · rw [if_neg (by rw [e1]; decide)]
      subst e2
      exact fold_ck l (foldMark f o) h2
theorem valid_parts {b : Blk} : validB b = true ↔ headerB b = true ∧ ∃ s, ckRun ⟨0, 0, false⟩ b.ops = some s ∧ s.marks = b.at_.length := by
  unfold validB
  rw [Bool.and_eq_true]
  constructor
  · rintro ⟨h1, h2⟩
    split at h2
    · rename_i s hs; exact ⟨h1, s, hs, by simpa using h2⟩
    · cases h2
  · rintro ⟨h1, s, h2, h3⟩
    rw [h2]
    exact ⟨h1, by simp [h3]⟩
theorem valid_of {b : Blk} {l : List BOp} (hv : validB b = true) (hne : b.ops ≠ [] → l ≠ []) (hlen : l.length ≤ b.ops.length) (hhead : ∀ o r, b.ops = o :: r → o.code = 20 → ∃ p, l.head? = some p ∧ p.code = 20) (hck : ∀ s1, ckRun ⟨0, 0, false⟩ b.ops = some s1 → ∃ s2, ckRun ⟨0, 0, false⟩ l = some s2 ∧ s2.marks = s1.marks) : validB ⟨b.at_, b.pages, l⟩ = true := by
  obtain ⟨h1, s, h2, h3⟩ := valid_parts.1 hv
  obtain ⟨s2, k1, k2⟩ := hck s h2
  have hpos := (valid_pos hv).1
  have hb : b.ops ≠ [] := fun e => by rw [e] at hpos; simp at hpos
  refine valid_parts.2 ⟨header_of h1 ?_ hlen (fun o ho hc => ?_), s2, k1, by rw [k2, h3]⟩
  · have := hne hb
    cases l with
    | nil => exact absurd rfl this
    | cons _ _ => simp
  · cases hbo : b.ops with
    | nil => exact absurd hbo hb
    | cons q r => rw [hbo] at ho; injection ho with ho; subst ho; exact hhead _ r hbo hc
theorem fold_valid {b : Blk} (hv : validB b = true) : validB (foldP b) = true := by
  unfold foldP foldAll
  rw [if_pos hv]
  obtain ⟨_, s, h2, _⟩ := valid_parts.1 hv
  refine valid_of hv (fun hb => fold_nonempty b.ops noneF h2 hb) (foldRun_length _ _) (fun o r hb hc => ?_) (fun s1 h => fold_ck b.ops noneF h)
  rw [hb]
  unfold foldRun
  rw [foldB_mark _ hc, if_pos rfl]
  exact ⟨o, rfl, hc⟩
end Go.Proofs.Ytmjfgnnefcimiaa
namespace Go.Proofs.Ytmjfgnnefcimiaa
open Go.RowKit

def ckAfter (s : Ck) (o : BOp) : Ck := ⟨s.marks, if 20 ≤ writes o then s.written ||| 2 ^ (writes o).toNat else s.written, s.changed || (stores o.code || decide (0 ≤ writes o ∧ writes o < 20))⟩
theorem readB_after (s : Ck) (o : BOp) (v : Int) : readB (ckAfter s o) v = (readB s v || decide (20 ≤ v ∧ writes o = v)) := by
  unfold readB ckAfter
  rw [Bool.eq_iff_iff]
  simp only [Bool.or_eq_true, decide_eq_true_eq]
  by_cases h : v < 20
  · simp [h]
  · split
    · rename_i hw
      rw [Nat.testBit_or, Nat.testBit_two_pow]
      simp only [Bool.or_eq_true, decide_eq_true_eq]
      constructor
      · rintro (h1 | h1 | h1)
        · exact .inl (.inl h1)
        · exact .inl (.inr h1)
        · right; omega
      · rintro ((h1 | h1) | h1)
        · exact .inl h1
        · exact .inr (.inl h1)
        · right; right; rw [h1.2]
    · rename_i hw
      constructor
      · intro h1; exact .inl h1
      · rintro (h1 | h1)
        · exact h1
        · omega
/-- What the check of the result knows, next to that of the block. -/
structure CkSim (s s' : Ck) : Prop where
  marks : s'.marks = s.marks
  known : ∀ v, readB s v = true → readB s' v = true
  ch : s'.changed = true → s.changed = true
theorem ckSim_refl (s : Ck) : CkSim s s := ⟨rfl, fun _ h => h, fun h => h⟩
def CopyInv (f : Int → Option Int) (s : Ck) : Prop := ∀ v w, f v = some w → (0 ≤ w ∧ w < 28 ∧ w ≠ 19) ∧ readB s w = true
theorem mem_reads {o : BOp} {v : Int} : v ∈ reads o ↔ (hasA o.code = true ∧ v = o.a) ∨ (hasB o.code = true ∧ v = o.b ∧ o.b ≠ o.a) := by
  unfold reads
  rw [List.mem_append]
  constructor
  · rintro (h | h)
    · split at h
      · rename_i hA; exact .inl ⟨hA, by simpa using h⟩
      · cases h
    · split at h
      · rename_i hB; simp at hB; exact .inr ⟨hB.1, by simpa using h, hB.2⟩
      · cases h
  · rintro (⟨h1, h2⟩ | ⟨h1, h2, h3⟩)
    · left; rw [h1, h2]; simp
    · right; rw [if_pos (by rw [h1]; simp [h3]), h2]; simp
theorem hasA_of_B {c : Int} (h : hasB c = true) : hasA c = true := by
  unfold hasB at h; unfold hasA; rw [decide_eq_true_eq] at h ⊢; omega
theorem twoB_hasB (c : Int) : twoB c = hasB c := by
  unfold twoB hasB isBin; rw [Bool.eq_iff_iff]; simp; omega
theorem reads_b {o : BOp} (h : hasB o.code = true) : o.b ∈ reads o := by
  by_cases e : o.b = o.a
  · exact mem_reads.2 (.inl ⟨hasA_of_B h, e⟩)
  · exact mem_reads.2 (.inr ⟨h, rfl, e⟩)
theorem origS_cases (f : Int → Option Int) (x : Bool) (v : Int) : origS f x v = v ∨ (x = true ∧ f v = some (origS f x v)) := by
  unfold origS
  by_cases h : (x && (f v).isSome) = true
  · rw [if_pos h]
    simp only [Bool.and_eq_true] at h
    obtain ⟨w, hw⟩ := Option.isSome_iff_exists.1 h.2
    right; rw [hw]; exact ⟨h.1, rfl⟩
  · rw [if_neg h]; exact .inl rfl
theorem formed_split {o : BOp} : formedB o = true ↔ isOp o.code = true ∧ fieldB (hasD o.code) o.d = true ∧ fieldB (hasA o.code) o.a = true ∧ fieldB (hasB o.code) o.b = true ∧ (hasN o.code || o.n == 0) = true := by
  unfold formedB
  simp only [Bool.and_eq_true]
  constructor
  · rintro ⟨⟨⟨⟨h1, h2⟩, h3⟩, h4⟩, h5⟩; exact ⟨h1, h2, h3, h4, h5⟩
  · rintro ⟨h1, h2, h3, h4, h5⟩; exact ⟨⟨⟨⟨h1, h2⟩, h3⟩, h4⟩, h5⟩
theorem copyOp_formed {f : Int → Option Int} {s : Ck} (hI : CopyInv f s) {o : BOp} (hf : formedB o = true) : formedB (copyOp f o) = true := by
  obtain ⟨h1, h2, h3, h4, h5⟩ := formed_split.1 hf
  refine formed_split.2 ⟨h1, h2, ?_, ?_, h5⟩
  · show fieldB (hasA o.code) (origS f (memI o.a (reads o) && o.code != 20) o.a) = true
    rcases origS_cases f (memI o.a (reads o) && o.code != 20) o.a with e | ⟨e1, e2⟩
    · rw [e]; exact h3
    · cases hA : hasA o.code
      · exfalso
        simp only [Bool.and_eq_true] at e1
        have hB : hasB o.code = false := by
          cases hB : hasB o.code
          · rfl
          · rw [hasA_of_B hB] at hA; cases hA
        have hr : reads o = [] := by unfold reads; rw [hA, hB]; rfl
        rw [hr] at e1; simp [memI] at e1
      · unfold fieldB; rw [if_pos rfl, decide_eq_true_eq]; exact (hI _ _ e2).1
  · show fieldB (hasB o.code) (origS f (twoB o.code) o.b) = true
    rcases origS_cases f (twoB o.code) o.b with e | ⟨e1, e2⟩
    · rw [e]; exact h4
    · rw [twoB_hasB] at e1
      rw [e1]
      unfold fieldB; rw [if_pos rfl, decide_eq_true_eq]; exact (hI _ _ e2).1
theorem copyOp_reads {f : Int → Option Int} {s : Ck} (hI : CopyInv f s) {o : BOp} (hr : ∀ v ∈ reads o, readB s v = true) : ∀ v ∈ reads (copyOp f o), readB s v = true := by
  intro v hv
  rcases mem_reads.1 hv with ⟨h1, h2⟩ | ⟨h1, h2, _⟩
  · have h1 : hasA o.code = true := h1
    rw [h2]
    rcases origS_cases f (memI o.a (reads o) && o.code != 20) o.a with e | ⟨_, e2⟩
    · show readB s (origS f (memI o.a (reads o) && o.code != 20) o.a) = true
      rw [e]; exact hr _ (mem_reads.2 (.inl ⟨h1, rfl⟩))
    · exact (hI _ _ e2).2
  · have h1 : hasB o.code = true := h1
    rw [h2]
    rcases origS_cases f (twoB o.code) o.b with e | ⟨_, e2⟩
    · show readB s (origS f (twoB o.code) o.b) = true
      rw [e]; exact hr _ (reads_b h1)
    · exact (hI _ _ e2).2
theorem copyOp_mark (f : Int → Option Int) {o : BOp} (h : o.code = 20) : copyOp f o = o := by
  have h1 : (memI o.a (reads o) && o.code != 20) = false := by rw [h]; simp
  have h2 : twoB o.code = false := by rw [h]; rfl
  unfold copyOp
  rw [h1, h2]
  unfold origS
  rfl
theorem copy_follows : ∀ (l : List BOp) (f : Int → Option Int) {s s1 : Ck}, ckRun s l = some s1 → (copyRun f l).isEmpty = l.isEmpty
  | [], _, _, _, _ => rfl
  | o :: l, f, s, s1, h => by
    obtain ⟨s2, h1, h2⟩ := ck_uncons h
    unfold copyRun
    split
    · rename_i hk
      rw [copy_follows l _ h2]
      cases l with
      | nil =>
        have he := (placed_parts.1 (ck_step h1).2.1).1
        unfold copySkip at hk
        simp only [Bool.and_eq_true, beq_iff_eq] at hk
        have : o.code = 2 := hk.1
        rw [this] at he; cases he
      | cons _ _ => rfl
    · rfl
theorem copy_exit {l : List BOp} (f : Int → Option Int) (h : exitNext l = true) : exitNext (copyRun f l) = true := by
  cases l with
  | nil => cases h
  | cons o l =>
    have hc : o.code = 24 := by simpa [exitNext] using h
    unfold copyRun
    rw [if_neg (by unfold copySkip; show ¬ (o.code == 2 && _) = true; rw [hc]; simp)]
    show (o.code == 24) = true
    rw [hc]; rfl
theorem copyUpd_inv {f : Int → Option Int} {s : Ck} (hI : CopyInv f s) {p : BOp} (hf : formedB p = true) (hr : ∀ v ∈ reads p, readB s v = true) : CopyInv (copyUpd f p) (ckAfter s p) := by
  have hup : ∀ w, readB s w = true → readB (ckAfter s p) w = true := fun w hw => by rw [readB_after, hw]; rfl
  have hkill : ∀ v w, copyKill f (writes p) v = some w → (0 ≤ w ∧ w < 28 ∧ w ≠ 19) ∧ readB (ckAfter s p) w = true := fun v w hv => by
    obtain ⟨h1, _⟩ := Option.filter_eq_some_iff.1 hv
    unfold mdel at h1
    split at h1
    · cases h1
    · exact ⟨(hI _ _ h1).1, hup _ (hI _ _ h1).2⟩
  intro v w hv
  unfold copyUpd at hv
  split at hv
  · exact ⟨(hI _ _ hv).1, hup _ (hI _ _ hv).2⟩
  split at hv
  · rename_i hc
    have hc : p.code = 2 := by simpa using hc
    unfold mput at hv
    split at hv
    · injection hv with hv; subst hv
      refine ⟨?_, hup _ (hr _ (mem_reads.2 (.inl ⟨by rw [hc]; rfl, rfl⟩)))⟩
      have h3 := (formed_split.1 hf).2.2.1
      rw [hc] at h3
      unfold fieldB at h3
      rw [if_pos (show hasA 2 = true from rfl), decide_eq_true_eq] at h3
      exact h3
    · exact hkill v w hv
  · exact hkill v w hv
theorem copy_ck : ∀ (l : List BOp) (f : Int → Option Int) {s s' s1 : Ck}, CkSim s s' → CopyInv f s' → ckRun s l = some s1 → ∃ s2, ckRun s' (copyRun f l) = some s2 ∧ s2.marks = s1.marks
  | [], f, s, s', s1, hS, hI, h => by
    injection h with h; subst h; exact ⟨s', rfl, hS.marks⟩
  | o :: l, f, s, s', s1, hS, hI, h => by
    obtain ⟨s2, h1, h2⟩ := ck_uncons h
    obtain ⟨hf, hp, hm, ho⟩ := ck_step h1
    obtain ⟨p1, p2, p3⟩ := placed_parts.1 hp
    have hpl : ∀ (p : BOp) (g : Int → Option Int), p.code = o.code → placedB s' p (copyRun g l).isEmpty (exitNext (copyRun g l)) = true := fun p g hc =>
      placed_parts.2 ⟨by rw [hc, copy_follows l g h2]; exact p1, fun e => copy_exit g (p2 (hc ▸ e)), fun e => by
        have := p3 (hc ▸ e)
        cases hc' : s'.changed
        · rfl
        · rw [hS.ch hc'] at this; cases this⟩
    unfold copyRun
    by_cases hc : o.code = 20
    · obtain ⟨e1, e2⟩ := hm hc
      have hw : writes o = -1 := by unfold writes; rw [hc]; rfl
      rw [copyOp_mark _ hc, if_neg (by unfold copySkip; rw [hc]; simp)]
      have hu : copyUpd (copyMark f o) o = copyMark f o := by unfold copyUpd; rw [if_pos (by rw [hw]; decide)]
      rw [hu]
      have hI' : CopyInv (copyMark f o) s2 := fun v w hv => by
        unfold copyMark at hv
        rw [if_pos (by simp [hc])] at hv
        obtain ⟨k1, k2⟩ := Option.filter_eq_some_iff.1 hv
        unfold fdel at k1
        split at k1
        · cases k1
        · refine ⟨(hI _ _ k1).1, ?_⟩
          unfold readB
          have : w < 20 := by simpa using k2
          simp [this]
      obtain ⟨s3, k1, k2⟩ := copy_ck l (copyMark f o) (ckSim_refl s2) hI' h2
      refine ⟨s3, ?_, k2⟩
      rw [ck_cons (ck_mark hf (hpl o _ rfl) hc (by rw [hS.marks]; exact e1)), hS.marks, ← e2]
      exact k1
    · obtain ⟨hr, e2⟩ := ho hc
      have e2 : s2 = ckAfter s o := e2
      have hr' : ∀ v ∈ reads o, readB s' v = true := fun v hv => hS.known v (hr v hv)
      rw [copyMark_not f hc]
      have hfp := copyOp_formed hI hf
      have hrp := copyOp_reads hI hr'
      have hwp : writes (copyOp f o) = writes o := rfl
      by_cases hk : copySkip (copyOp f o) = true
      · rw [if_pos hk]
        refine copy_ck l f (s' := s') ⟨by rw [e2]; exact hS.marks, fun v hv => ?_, fun hc' => by rw [e2]; show (s.changed || _) = true; rw [hS.ch hc']; rfl⟩ hI h2
        rw [e2, readB_after, Bool.or_eq_true, decide_eq_true_eq] at hv
        rcases hv with hv | ⟨_, hv⟩
        · exact hS.known v hv
        · unfold copySkip at hk
          simp only [Bool.and_eq_true, beq_iff_eq] at hk
          have hc2 : o.code = 2 := hk.1
          have hwd : writes o = o.d := by unfold writes; rw [hc2]; rfl
          have : v = (copyOp f o).a := by rw [← hk.2, ← hv, hwd]; rfl
          rw [this]
          exact hrp _ (mem_reads.2 (.inl ⟨by show hasA o.code = true; rw [hc2]; rfl, rfl⟩))
      · rw [if_neg hk]
        have hst : ckNext s' (copyOp f o) (copyRun (copyUpd f (copyOp f o)) l).isEmpty (exitNext (copyRun (copyUpd f (copyOp f o)) l)) = some (ckAfter s' (copyOp f o)) := ck_op hfp (hpl _ _ rfl) hc hrp
        rw [ck_cons hst]
        refine copy_ck l _ ⟨by rw [e2]; exact hS.marks, fun v hv => ?_, fun hc' => ?_⟩ (copyUpd_inv hI hfp hrp) h2
        · rw [e2, readB_after] at hv
          rw [readB_after, hwp]
          rw [Bool.or_eq_true] at hv ⊢
          rcases hv with hv | hv
          · exact .inl (hS.known v hv)
          · exact .inr hv
        · rw [e2]
          have hc' : (s'.changed || (stores o.code || decide (0 ≤ writes o ∧ writes o < 20))) = true := hc'
          show (s.changed || (stores o.code || decide (0 ≤ writes o ∧ writes o < 20))) = true
          rw [Bool.or_eq_true] at hc' ⊢
          rcases hc' with h | h
          · exact .inl (hS.ch h)
          · exact .inr h
theorem copy_valid {b : Blk} (hv : validB b = true) : validB (copyP b) = true := by
  unfold copyP copyAll
  rw [if_pos hv]
  obtain ⟨_, s, h2, _⟩ := valid_parts.1 hv
  refine valid_of hv (fun hb => ?_) (copyRun_length _ _) (fun o r hb hc => ?_) (fun s1 h => copy_ck b.ops noneF (ckSim_refl _) (fun v w h => by cases h) h)
  · intro he
    have := copy_follows b.ops noneF h2
    rw [he] at this
    exact hb (ck_empty this.symm)
  · rw [hb]
    unfold copyRun
    rw [copyOp_mark _ hc, if_neg (by unfold copySkip; rw [hc]; simp)]
    exact ⟨o, rfl, hc⟩

/-! Dead. -/
def rD (l : List BOp) : List BOp := (deadRun l.reverse).out.reverse
def mD (l : List BOp) : Nat := (deadRun l.reverse).live
theorem rD_cons (o : BOp) (l : List BOp) : rD (o :: l) = if deadB o (mD l) = true then rD l else o :: rD l := by
  unfold rD mD
  rw [List.reverse_cons, deadRun_snoc]
  unfold deadStep
  split <;> simp
theorem mD_cons (o : BOp) (l : List BOp) : mD (o :: l) = if deadB o (mD l) = true then mD l else beforeM o (mD l) := by
  unfold mD
  rw [List.reverse_cons, deadRun_snoc]
  unfold deadStep
  split <;> simp
theorem mD_is : ∀ (l : List BOp), (∀ o ∈ l, formedB o = true) → MaskIs (mD l) (rD l)
  | [], _ => mask_nil
  | o :: l, h => by
    have ih := mD_is l fun p hp => h p (by simp [hp])
    rw [mD_cons, rD_cons]
    split
    · exact ih
    · exact mask_cons (h o (by simp)) ih
theorem dead_not {o : BOp} (hf : formedB o = true) {l : List BOp} (hl : ∀ p ∈ l, formedB p = true) (hd : deadB o (mD l) = true) : pureB o = true ∧ writes o = o.d ∧ liveAtL (rD l) o.d = false := by
  unfold deadB at hd
  simp only [Bool.and_eq_true, Bool.not_eq_true'] at hd
  obtain ⟨d0, d1⟩ := pure_formed_d hf hd.1
  refine ⟨hd.1, ?_, ?_⟩
  · have := hd.1
    unfold pureB writes at this
    unfold writes
    split at this
    · rename_i h; rw [if_pos h]
    · simp at this
  · have := mD_is l hl o.d.toNat (by omega)
    rw [hd.2, show ((o.d.toNat : Nat) : Int) = o.d by omega] at this
    exact this.symm
theorem dead_follows : ∀ (l : List BOp) {s s1 : Ck}, ckRun s l = some s1 → (rD l).isEmpty = l.isEmpty
  | [], _, _, _ => rfl
  | o :: l, s, s1, h => by
    obtain ⟨s2, h1, h2⟩ := ck_uncons h
    rw [rD_cons]
    split
    · rename_i hk
      rw [dead_follows l h2]
      cases l with
      | nil =>
        have he := (placed_parts.1 (ck_step h1).2.1).1
        unfold deadB at hk
        simp only [Bool.and_eq_true] at hk
        have := pure_code hk.1
        unfold endsB at he
        change decide _ = true at he
        rw [decide_eq_true_eq] at he
        omega
      | cons _ _ => rfl
    · rfl
theorem dead_exit {l : List BOp} (h : exitNext l = true) : exitNext (rD l) = true := by
  cases l with
  | nil => cases h
  | cons o l =>
    have hc : o.code = 24 := by simpa [exitNext] using h
    rw [rD_cons, if_neg (fun hk => by
      unfold deadB at hk
      simp only [Bool.and_eq_true] at hk
      have := pure_code hk.1
      omega)]
    show (o.code == 24) = true
    rw [hc]; rfl
structure DeadSim (s s' : Ck) (r : List BOp) : Prop where
  marks : s'.marks = s.marks
  known : ∀ v, liveAtL r v = true → readB s v = true → readB s' v = true
  ch : s'.changed = true → s.changed = true
theorem dead_ck : ∀ (l : List BOp) {s s' s1 : Ck}, DeadSim s s' (rD l) → ckRun s l = some s1 → ∃ s2, ckRun s' (rD l) = some s2 ∧ s2.marks = s1.marks
  | [], s, s', s1, hS, h => by
    injection h with h; subst h; exact ⟨s', rfl, hS.marks⟩
  | o :: l, s, s', s1, hS, h => by
    obtain ⟨s2, h1, h2⟩ := ck_uncons h
    obtain ⟨hf, hp, hm, ho⟩ := ck_step h1
    have hfl := run_formed h2
    obtain ⟨p1, p2, p3⟩ := placed_parts.1 hp
    rw [rD_cons] at hS ⊢
    by_cases hd : deadB o (mD l) = true
    · rw [if_pos hd] at hS ⊢
      obtain ⟨d1, d2, d3⟩ := dead_not hf hfl hd
      have hc := pure_code d1
      obtain ⟨hr, e2⟩ := ho (by omega)
      have e2 : s2 = ckAfter s o := e2
      refine dead_ck l (s' := s') ⟨by rw [e2]; exact hS.marks, fun v hl hv => ?_, fun hc' => by rw [e2]; show (s.changed || _) = true; rw [hS.ch hc']; rfl⟩ h2
      rw [e2, readB_after, Bool.or_eq_true, decide_eq_true_eq] at hv
      rcases hv with hv | ⟨_, hv⟩
      · exact hS.known v hl hv
      · rw [← hv, d2, d3] at hl; cases hl
    · rw [if_neg hd] at hS ⊢
      have hpl : placedB s' o (rD l).isEmpty (exitNext (rD l)) = true :=
        placed_parts.2 ⟨by rw [dead_follows l h2]; exact p1, fun e => dead_exit (p2 e), fun e => by
          have := p3 e
          cases hc' : s'.changed
          · rfl
          · rw [hS.ch hc'] at this; cases this⟩
      by_cases hc : o.code = 20
      · obtain ⟨e1, e2⟩ := hm hc
        rw [ck_cons (ck_mark hf hpl hc (by rw [hS.marks]; exact e1)), hS.marks, ← e2]
        exact dead_ck l ⟨rfl, fun _ _ h => h, fun h => h⟩ h2
      · obtain ⟨hr, e2⟩ := ho hc
        have e2 : s2 = ckAfter s o := e2
        have hrp : ∀ v ∈ reads o, readB s' v = true := fun v hv => hS.known v (by
          rw [liveAtL_cons]
          have : memI v (reads o) = true := by unfold memI; rw [List.any_eq_true]; exact ⟨v, hv, by simp⟩
          rw [this]; rfl) (hr v hv)
        have hst : ckNext s' o (rD l).isEmpty (exitNext (rD l)) = some (ckAfter s' o) := ck_op hf hpl hc hrp
        rw [ck_cons hst]
        refine dead_ck l ⟨by rw [e2]; exact hS.marks, fun v hl hv => ?_, fun hc' => ?_⟩ h2
        · rw [e2, readB_after] at hv
          rw [readB_after]
          rw [Bool.or_eq_true, decide_eq_true_eq] at hv ⊢
          by_cases hw : 20 ≤ v ∧ writes o = v
          · exact .inr hw
          · rcases hv with hv | hv
            · left
              by_cases h20 : v < 20
              · unfold readB; simp [h20]
              · refine hS.known v ?_ hv
                rw [liveAtL_cons, hl]
                have : (writes o == v) = false := by rw [beq_eq_false_iff_ne]; intro e; exact hw ⟨by omega, e⟩
                rw [this]; simp
            · exact absurd hv hw
        · rw [e2]
          have hc' : (s'.changed || (stores o.code || decide (0 ≤ writes o ∧ writes o < 20))) = true := hc'
          show (s.changed || (stores o.code || decide (0 ≤ writes o ∧ writes o < 20))) = true
          rw [Bool.or_eq_true] at hc' ⊢
          rcases hc' with h | h
          · exact .inl (hS.ch h)
          · exact .inr h
theorem dead_valid {b : Blk} (hv : validB b = true) : validB (deadP b) = true := by
  unfold deadP deadAll
  rw [if_pos hv]
  obtain ⟨_, s, h2, _⟩ := valid_parts.1 hv
  show validB ⟨b.at_, b.pages, rD b.ops⟩ = true
  refine valid_of hv (fun hb => ?_) ?_ (fun o r hb hc => ?_) (fun s1 h => dead_ck b.ops ⟨rfl, fun _ _ h => h, fun h => h⟩ h)
  · intro he
    have := dead_follows b.ops h2
    rw [he] at this
    exact hb (ck_empty this.symm)
  · have := deadAll_length b
    unfold deadAll at this
    rw [if_pos hv] at this
    exact this
  · rw [hb, rD_cons, if_neg (fun hk => by
      unfold deadB at hk
      simp only [Bool.and_eq_true] at hk
      have := pure_code hk.1
      omega)]
    exact ⟨o, rfl, hc⟩

/-! The result of Opt. -/
theorem once_valid {b : Blk} (hv : validB b = true) : validB (onceP b) = true := dead_valid (copy_valid (fold_valid hv))
theorem optN_keeps {mu : Blk → Nat} (hmu : ∀ b, b.ok → (onceP b).ops ≠ b.ops → mu (onceP b) < mu b) : ∀ (n : Nat) {b : Blk}, b.ok → validB b = true → mu b ≤ n → validB (optN n b) = true ∧ (optN n b).ok ∧ (optN n b).at_ = b.at_ ∧ (optN n b).pages = b.pages ∧ (onceP (optN n b)).ops = (optN n b).ops ∧ (optN n b).ops.length ≤ b.ops.length
  | 0, b, hb, hv, hn => by
    have e : optN 0 b = b := rfl
    rw [e]
    refine ⟨hv, hb, rfl, rfl, ?_, Nat.le_refl _⟩
    by_cases h : (onceP b).ops = b.ops
    · exact h
    · have := hmu b hb h; omega
  | n + 1, b, hb, hv, hn => by
    by_cases h : (onceP b).ops = b.ops
    · have e : optN (n + 1) b = b := optN_same h _
      rw [e]; exact ⟨hv, hb, rfl, rfl, h, Nat.le_refl _⟩
    · have hm := hmu b hb h
      have e : optN (n + 1) b = optN n (onceP b) := if_neg h
      rw [e]
      obtain ⟨h1, h2, h3, h4, h5, h6⟩ := optN_keeps hmu n (onceP_ok hb) (once_valid hv) (by omega)
      refine ⟨h1, h2, h3, h4, h5, Nat.le_trans h6 ?_⟩
      exact Nat.le_trans (deadAll_length _) (Nat.le_trans (copyAll_length _) (foldAll_length b))
theorem once_parts {b : Blk} (hb : b.ok) (h : (onceP b).ops = b.ops) : foldAll b = b.ops ∧ copyAll b = b.ops ∧ deadAll b = b.ops := by
  have h1 := fold_mu hb
  have h2 := copy_mu (foldP_ok hb)
  have h3 := dead_mu (copyP_ok (foldP_ok hb))
  have e2 : (foldP b).ops = foldAll b := rfl
  have e3 : (copyP (foldP b)).ops = copyAll (foldP b) := rfl
  have e4 : (onceP b).ops = deadAll (copyP (foldP b)) := rfl
  rw [e2] at h2
  rw [e3] at h3
  rw [e4] at h
  rw [h] at h3
  have k1 : muO b.ops ≤ muO (copyAll (foldP b)) := by
    rcases h3 with h3 | h3
    · rw [h3]; exact Nat.le_refl _
    · omega
  have k2 : muO (copyAll (foldP b)) ≤ muO (foldAll b) := by
    rcases h2 with h2 | h2
    · rw [h2]; exact Nat.le_refl _
    · omega
  have f1 : foldAll b = b.ops := by
    rcases h1 with h1 | h1
    · exact h1
    · omega
  have f0 : foldP b = b := by unfold foldP; rw [f1]
  rw [f0] at h2 h3 k1
  have f2 : copyAll b = b.ops := by
    rcases h2 with h2 | h2
    · rw [h2, f1]
    · rw [f1] at h2; omega
  have f3 : copyP b = b := by unfold copyP; rw [f2]
  rw [f0, f3] at h
  exact ⟨f1, f2, h⟩
def optB (mu : Blk → Nat) (b : Blk) : Blk := ⟨b.at_, b.pages, optAll mu b⟩
/-- What Opt leaves: valid, and none of the passes changes it. -/
theorem opt_fixed {mu : Blk → Nat} (hmu : ∀ b, b.ok → (onceP b).ops ≠ b.ops → mu (onceP b) < mu b) {b : Blk} (hb : b.ok) (hv : validB b = true) : validB (optB mu b) = true ∧ (optB mu b).ok ∧ foldAll (optB mu b) = optAll mu b ∧ copyAll (optB mu b) = optAll mu b ∧ deadAll (optB mu b) = optAll mu b ∧ optAll mu (optB mu b) = optAll mu b ∧ (optAll mu b).length ≤ b.ops.length := by
  obtain ⟨h1, h2, h3, h4, h5, h6⟩ := optN_keeps hmu (mu b) hb hv (Nat.le_refl _)
  have e : optB mu b = optN (mu b) b := by
    unfold optB optAll
    rw [if_pos hv, ← h3, ← h4]
  have eo : optAll mu b = (optN (mu b) b).ops := by unfold optAll; rw [if_pos hv]
  rw [e, eo]
  obtain ⟨k1, k2, k3⟩ := once_parts h2 h5
  refine ⟨h1, h2, k1, k2, k3, ?_, h6⟩
  unfold optAll
  rw [if_pos h1, optN_same h5]
end Go.Proofs.Ytmjfgnnefcimiaa
namespace Go.Proofs.Ytmjfgnnefcimiaa
open Go.RowKit

theorem opt_none {mu : Blk → Nat} {b : Blk} (h : b.ops = []) : optAll mu b = [] := by
  have hv : validB b = false := by
    cases hv : validB b
    · rfl
    · have := (valid_pos hv).1; rw [h] at this; simp at this
  unfold optAll; rw [hv]; exact h
section
variable {w0 : World} {S : List Ow} {K : AV → List Ow → Prop} {b : Blk} {A1 A2 A3 : Option Addr} {n1 n2 n3 c1 c2 c3 : Nat}
end
/-- A block of plain slices and a view that a cell holds, seen as plain memory. -/
theorem own_blkView {w0 : World} {G : Gs} {S : List Ow} {r : Env} {w : World} (hR : Rel w0 G S r w) (i io : Nat) {t : TypeId} {s1 s2 : Value} {l : List BOp} (hi : S[i]? = some (.cells t [.v s1, .v s2, .row io])) (ho : S[io]? = some (.view viewT l.length (l.flatMap opC))) :
    ∃ g A3 c3, r.blk i = some g ∧ CellsAt w Gs.nil g 0 [s1, s2, .slice A3 l.length c3] ∧ OpsAt w w.heap.size A3 l ∧ l.length ≤ c3 ∧ c3 ≤ maxLen := by
  obtain ⟨g, us, h1, h2, h3⟩ := own_cellsAt hR i hi
  simp only [denL, CV.den] at h2
  obtain ⟨u1, l1, rfl, rfl, u2, l2, rfl, rfl, u3, l3, rfl, e3, rfl⟩ := h2
  obtain ⟨A3, c3, rfl, s3, k1, k2, _⟩ := viewAt hR ho e3
  exact ⟨g, A3, c3, h1, h3, s3, k1, k2⟩
theorem cells_later {w w' : World} {g o : Nat} {xs : List Value} (h : CellsAt w Gs.nil g o xs) (hB : Below w.heap.size w w') : CellsAt w' Gs.nil g o xs := ⟨Nat.lt_of_lt_of_le h.1 hB.size, h.2.1, fun j u hj => (hB.cell h.1).trans (h.2.2 j u hj)⟩
end Go.Proofs.Ytmjfgnnefcimiaa
namespace Go.Proofs.Ytmjfgnnefcimiaa
open Go.RowKit

def envOf (gs : List Nat) : Env := ⟨fun i => gs[i]?, fun _ => Option.none⟩
/-- The blocks gs hold these entries. -/
structure ObjsAt (w : World) (gs : List Nat) (U : List Ow) : Prop where
  len : U.length = gs.length
  nodup : ∀ (i j b : Nat), gs[i]? = some b → gs[j]? = some b → i = j
  lt : ∀ g ∈ gs, g < w.heap.size
  own : ∀ (i : Nat) (o : Ow), U[i]? = some o → o.holds (envOf gs) w i
/-- Nothing but these blocks, and new ones, has turned. -/
structure GrownBys (w w' : World) (gs : List Nat) : Prop where
  os : w'.os = w.os
  tape : w'.tape = w.tape
  output : w'.output = w.output
  size : w.heap.size ≤ w'.heap.size
  block : ∀ k, k < w.heap.size → k ∉ gs → w'.heap[k]? = w.heap[k]?
/-- A cell that is known by the blocks of the first n entries. -/
def CV.ob (n : Nat) : CV → Bool
  | .v _ => true
  | .ref i _ => Nat.blt i n
  | .sl i _ _ _ => Nat.blt i n
  | _ => false
def CV.sh (k : Nat) : CV → CV
  | .ref i o => .ref (k + i) o
  | .sl i o n c => .sl (k + i) o n c
  | c => c
/-- The same entries, k places further. -/
def Ow.Sh (k : Nat) : Ow → Ow → Prop
  | .cells t l, .cells t' l' => t = t' ∧ l' = l.map (CV.sh k)
  | _, _ => False
def ShAll (k : Nat) : List Ow → List Ow → Prop
  | [], [] => True
  | o :: U, o' :: V => o.Sh k o' ∧ ShAll k U V
  | _, _ => False
theorem ShAll.length {k : Nat} : ∀ {U V : List Ow}, ShAll k U V → U.length = V.length
  | [], [], _ => rfl
  | _ :: _, _ :: _, h => by simp [h.2.length]
  | [], _ :: _, h => h.elim
  | _ :: _, [], h => h.elim
theorem ShAll.get {k : Nat} : ∀ {U V : List Ow} (i : Nat), ShAll k U V → ∀ {o}, U[i]? = some o → ∃ o', V[i]? = some o' ∧ o.Sh k o'
  | [], [], i, _, o, h => by simp at h
  | a :: U, b :: V, 0, hs, o, h => by simp at h; subst h; exact ⟨b, rfl, hs.1⟩
  | a :: U, b :: V, i + 1, hs, o, h => by simpa using ShAll.get i hs.2 (by simpa using h)
  | [], _ :: _, _, h, _, _ => h.elim
  | _ :: _, [], _, h, _, _ => h.elim
section
variable {P : Program} {w0 : World} {G : Gs} {N : Nat} {c : Code} {fn : Func} {R : Ending → World → Prop}
end
/-- What the caller knows of old memory, seen by the callee. -/
def OldKeeps (w0 : World) (G : Gs) (w : World) (gs : List Nat) : Prop := ∀ b, b < w0.heap.size → b ∉ G → b < w.heap.size ∧ b ∉ gs ∧ w.heap[b]? = w0.heap[b]?
theorem OldKeeps.cells {w0 : World} {G : Gs} {w : World} {gs : List Nat} (h : OldKeeps w0 G w gs) {b off : Nat} {xs : List Value} (hc : CellsAt w0 G b off xs) : CellsAt w ⟨gs, []⟩ b off xs := by
  obtain ⟨h1, h2, h3⟩ := hc
  obtain ⟨k1, k2, k3⟩ := h b h1 h2
  refine ⟨k1, ?_, fun j u hj => ?_⟩
  · rintro (h4 | h4)
    · exact k2 h4
    · cases h4
  · have := h3 j u hj
    unfold World.cell? at this ⊢
    rw [k3]; exact this
end Go.Proofs.Ytmjfgnnefcimiaa
namespace Go.Proofs.Ytmjfgnnefcimiaa
open Go.RowKit

/-- A memory that is not coherent. -/
structure MemP where
  data : List Int
  image : List Int
  oldData : List Int
  oldImage : List Int
  rights : List Int
structure MemP.ok (M : MemP) (n p : Nat) : Prop where
  ld : M.data.length = n
  li : M.image.length = n
  lr : M.rights.length = p
  np : n = 256 * p
  pmax : p ≤ 4096
  db : ∀ x ∈ M.data, 0 ≤ x ∧ x < 256
  ib : ∀ x ∈ M.image, 0 ≤ x ∧ x < 256
  rb : ∀ x ∈ M.rights, 0 ≤ x ∧ x < 8
section
variable {w0 : World} {G : Gs} {fid : FuncId} {S : List Ow} {K : AV → List Ow → Prop} {pre suf : List AV} {xs ys : List Value} {P : Program}
end
def MemP.right (M : MemP) (a r : Int) : Bool := decide (a < (M.data.length : Int)) && (((M.rights[(a / 256).toNat]?).getD 0) / r % 2 == 1)
end Go.Proofs.Ytmjfgnnefcimiaa
namespace Go.Proofs.Ytmjfgnnefcimiaa
open Go.RowKit

/-- The first of k addresses from a + i on that lacks a right. -/
def MemP.bad (M : MemP) (a r : Int) : Nat → Nat → Option Int
  | _, 0 => none
  | i, k + 1 => if M.right ((a + i) % 4294967296) r = true then M.bad a r (i + 1) k else some ((a + i) % 4294967296)
end Go.Proofs.Ytmjfgnnefcimiaa
namespace Go.Proofs.Ytmjfgnnefcimiaa
open Go.RowKit

def MemP.get (M : MemP) (x : Int) : Int := (M.data[x.toNat]?).getD 0
/-- The word of k bytes from a + i on. -/
def MemP.load (M : MemP) (a : Int) : Nat → Nat → Int
  | _, 0 => 0
  | i, k + 1 => (M.load a (i + 1) k * 256 + M.get ((a + i) % 4294967296)) % 4294967296
theorem load_word (M : MemP) (a : Int) (i k : Nat) : word (M.load a i k) := by
  cases k with
  | zero => exact word0
  | succ k => exact word_mod _
end Go.Proofs.Ytmjfgnnefcimiaa
namespace Go.Proofs.Ytmjfgnnefcimiaa
open Go.RowKit

def MemP.put (M : MemP) (y v : Int) : MemP := { M with data := M.data.set y.toNat v }
def MemP.store (a : Int) : Nat → Nat → Int → MemP → MemP
  | _, 0, _, M => M
  | i, k + 1, x, M => MemP.store a (i + 1) k (x / 256) (M.put ((a + i) % 4294967296) (x % 256))
def MemP.storeM (M : MemP) (a : Int) (m : Nat) (x : Int) : MemP := match M.bad a 2 0 m with | none => MemP.store a 0 m x M | some _ => M
end Go.Proofs.Ytmjfgnnefcimiaa
namespace Go.Proofs.Ytmjfgnnefcimiaa
open Go.RowKit

def guestsL (vs : List Int) : List Int := vs.take 19 ++ List.replicate (vs.length - 19) 0
end Go.Proofs.Ytmjfgnnefcimiaa
namespace Go.Proofs.Ytmjfgnnefcimiaa
open Go.RowKit

def getV (vs : List Int) (i : Int) : Int := (vs[i.toNat]?).getD 0
def szN (c : Int) : Nat := if c = 17 ∨ c = 19 then 1 else 4
/-- What an operation leaves: the variables, whether the block goes on, the memory. -/
structure Ap where
  vs : List Int
  stays : Bool
  mem : MemP
def applyP (o : BOp) (vs : List Int) (M : MemP) : Ap :=
  if o.code = 1 then ⟨vs.set o.d.toNat o.n, true, M⟩
  else if o.code = 2 then ⟨vs.set o.d.toNat (getV vs o.a), true, M⟩
  else if o.code = 16 ∨ o.code = 17 then (match M.bad ((getV vs o.a + o.n) % 4294967296) 1 0 (szN o.code) with
    | none => ⟨vs.set o.d.toNat (M.load ((getV vs o.a + o.n) % 4294967296) 0 (szN o.code)), true, M⟩
    | some _ => ⟨vs, false, M⟩)
  else if o.code = 18 ∨ o.code = 19 then ⟨vs, (M.bad ((getV vs o.a + o.n) % 4294967296) 2 0 (szN o.code)).isNone, M.storeM ((getV vs o.a + o.n) % 4294967296) (szN o.code) (getV vs o.b)⟩
  else if o.code = 21 then ⟨vs, getV vs o.a != 0, M⟩
  else if o.code = 22 then ⟨vs, false, M⟩
  else if isBin o.code = true then ⟨vs.set o.d.toNat (wordOp o.code (getV vs o.a) (getV vs o.b)), true, M⟩
  else ⟨vs, true, M⟩
structure Outc where
  leaves : Bool
  index : Int
  done : Int
  pc : Int
  vars : List Int
def Outc.zero : Outc := ⟨false, 0, 0, 0, List.replicate 28 0⟩
structure EvR where
  out : Outc
  mem : MemP
def markI (o : BOp) (i : Int) : Int := if o.code = 20 then o.n else i
def evalL (ats : List Int) : List BOp → Int → List Int → MemP → EvR
  | [], _, _, M => ⟨Outc.zero, M⟩
  | o :: l, i, vs, M =>
    if o.code = 24 ∨ (o.code = 23 ∧ getV vs o.a ≠ 0) then ⟨⟨false, 0, ats.length, o.n, guestsL vs⟩, M⟩
    else if o.code = 25 then ⟨⟨false, 0, ats.length, getV vs o.a, guestsL vs⟩, M⟩
    else if (applyP o vs M).stays = true then evalL ats l (markI o i) (applyP o vs M).vs (applyP o vs M).mem
    else ⟨⟨true, markI o i, markI o i, (ats[(markI o i).toNat]?).getD 0, guestsL vs⟩, (applyP o vs M).mem⟩
def evalBlk (b : Blk) (vs : List Int) (M : MemP) : EvR := if validB b = true then evalL b.at_ b.ops 0 vs M else ⟨Outc.zero, M⟩
structure VarsOk (vs : List Int) : Prop where
  len : vs.length = 28
  word : ∀ x ∈ vs, word x
theorem getV_word {vs : List Int} (h : VarsOk vs) (i : Int) : word (getV vs i) := by
  unfold getV
  cases hi : vs[i.toNat]? with
  | none => exact word0
  | some x => exact h.word x (List.mem_of_getElem? hi)
theorem getV_set_ne {vs : List Int} {d v x : Int} (hd : 0 ≤ d) (hv : 0 ≤ v) (hne : v ≠ d) : getV (vs.set d.toNat x) v = getV vs v := by
  unfold getV; rw [List.getElem?_set_ne (by omega)]
theorem getV_set {vs : List Int} (h : VarsOk vs) {d x : Int} (hd : 0 ≤ d ∧ d < 28) : getV (vs.set d.toNat x) d = x := by
  unfold getV; rw [List.getElem?_set_self (by rw [h.len]; omega)]; rfl
theorem set_ok {vs : List Int} (h : VarsOk vs) (i : Nat) {x : Int} (hx : Go.Proofs.Ytmjfgnnefcimiaa.word x) : VarsOk (vs.set i x) := ⟨by rw [List.length_set]; exact h.len, fun y hy => by
  rcases List.mem_or_eq_of_mem_set hy with h1 | h1
  · exact h.word y h1
  · rw [h1]; exact hx⟩
theorem set_getV {vs : List Int} (h : VarsOk vs) {d : Int} (hd : 0 ≤ d ∧ d < 28) : vs.set d.toNat (getV vs d) = vs := by
  have hlt : d.toNat < vs.length := by rw [h.len]; omega
  unfold getV
  rw [List.getElem?_eq_getElem hlt]
  exact List.set_getElem_self hlt
theorem applyP_ok {o : BOp} {vs : List Int} {M : MemP} (h : VarsOk vs) (hn : word o.n) : VarsOk (applyP o vs M).vs := by
  unfold applyP
  split
  · exact set_ok h _ hn
  split
  · exact set_ok h _ (getV_word h _)
  split
  · split
    · exact set_ok h _ (load_word M _ _ _)
    · exact h
  split
  · exact h
  split
  · exact h
  split
  · exact h
  split
  · exact set_ok h _ (wordOp_word (getV_word h _) (getV_word h _))
  · exact h
/-- The fields of a well-formed operation. -/
theorem formed_d {o : BOp} (hf : formedB o = true) (hD : hasD o.code = true) : 0 ≤ o.d ∧ o.d < 28 ∧ writes o = o.d := by
  have h2 := (formed_split.1 hf).2.1
  rw [hD] at h2
  simp [fieldB] at h2
  refine ⟨by omega, by omega, ?_⟩
  unfold writes; rw [hD]; rfl
theorem formed_a {o : BOp} (hf : formedB o = true) : 0 ≤ o.a ∧ o.a < 28 := by
  have h := (formed_split.1 hf).2.2.1
  cases hA : hasA o.code <;> rw [hA] at h <;> simp [fieldB] at h <;> omega
theorem formed_b {o : BOp} (hf : formedB o = true) : 0 ≤ o.b ∧ o.b < 28 := by
  have h := (formed_split.1 hf).2.2.2.1
  cases hB : hasB o.code <;> rw [hB] at h <;> simp [fieldB] at h <;> omega
theorem formed_d' {o : BOp} (hf : formedB o = true) : 0 ≤ o.d ∧ o.d < 28 := by
  have h := (formed_split.1 hf).2.1
  cases hD : hasD o.code <;> rw [hD] at h <;> simp [fieldB] at h <;> omega
/-- What an operation does to the variables: at most it sets the one that it writes. -/
theorem applyP_vs {o : BOp} (hf : formedB o = true) (vs : List Int) (M : MemP) : (applyP o vs M).vs = vs ∨ (hasD o.code = true ∧ writes o = o.d ∧ ∃ x, (applyP o vs M).vs = vs.set o.d.toNat x) := by
  have hD : hasD o.code = true → writes o = o.d := fun h => (formed_d hf h).2.2
  have hd : 1 ≤ o.code → o.code ≤ 17 → hasD o.code = true := fun h1 h2 => by unfold hasD; rw [decide_eq_true_eq]; exact ⟨h1, h2⟩
  unfold applyP
  split
  · rename_i h; have := hd (by omega) (by omega); exact .inr ⟨this, hD this, _, rfl⟩
  split
  · rename_i h; have := hd (by omega) (by omega); exact .inr ⟨this, hD this, _, rfl⟩
  split
  · rename_i h; have := hd (by omega) (by omega)
    split
    · exact .inr ⟨this, hD this, _, rfl⟩
    · exact .inl rfl
  split
  · exact .inl rfl
  split
  · exact .inl rfl
  split
  · exact .inl rfl
  split
  · rename_i h
    have h' : 3 ≤ o.code ∧ o.code ≤ 15 := by unfold isBin at h; simpa using h
    have := hd (by omega) (by omega); exact .inr ⟨this, hD this, _, rfl⟩
  · exact .inl rfl
theorem applyP_other {o : BOp} (hf : formedB o = true) (vs : List Int) (M : MemP) {v : Int} (hv : 0 ≤ v) (hne : writes o ≠ v) : getV (applyP o vs M).vs v = getV vs v := by
  rcases applyP_vs hf vs M with h | ⟨h1, h2, x, h⟩
  · rw [h]
  · rw [h]
    have := formed_d' hf
    exact getV_set_ne this.1 hv (fun e => hne (by rw [h2, e]))
/-- A pure operation: one variable is set. -/
theorem applyP_const {o : BOp} (h : o.code = 1) (vs : List Int) (M : MemP) : applyP o vs M = ⟨vs.set o.d.toNat o.n, true, M⟩ := by unfold applyP; rw [if_pos h]
theorem applyP_move {o : BOp} (h : o.code = 2) (vs : List Int) (M : MemP) : applyP o vs M = ⟨vs.set o.d.toNat (getV vs o.a), true, M⟩ := by unfold applyP; rw [if_neg (by omega), if_pos h]
theorem applyP_bin {o : BOp} (h : isBin o.code = true) (vs : List Int) (M : MemP) : applyP o vs M = ⟨vs.set o.d.toNat (wordOp o.code (getV vs o.a) (getV vs o.b)), true, M⟩ := by
  have h' : 3 ≤ o.code ∧ o.code ≤ 15 := by unfold isBin at h; simpa using h
  unfold applyP; rw [if_neg (by omega), if_neg (by omega), if_neg (by omega), if_neg (by omega), if_neg (by omega), if_neg (by omega), if_pos h]
theorem applyP_none {o : BOp} (h : o.code = 20 ∨ o.code = 23) (vs : List Int) (M : MemP) : applyP o vs M = ⟨vs, true, M⟩ := by
  have hb : ¬ isBin o.code = true := by unfold isBin; rw [decide_eq_true_eq]; omega
  unfold applyP; rw [if_neg (by omega), if_neg (by omega), if_neg (by omega), if_neg (by omega), if_neg (by omega), if_neg (by omega), if_neg hb]
theorem applyP_guard {o : BOp} (h : o.code = 21) (vs : List Int) (M : MemP) : applyP o vs M = ⟨vs, getV vs o.a != 0, M⟩ := by
  unfold applyP; rw [if_neg (by omega), if_neg (by omega), if_neg (by omega), if_neg (by omega), if_pos h]
theorem evalL_go {ats : List Int} {o : BOp} {l : List BOp} {i : Int} {vs : List Int} {M : MemP} (h1 : ¬ (o.code = 24 ∨ (o.code = 23 ∧ getV vs o.a ≠ 0))) (h2 : o.code ≠ 25) (h3 : (applyP o vs M).stays = true) : evalL ats (o :: l) i vs M = evalL ats l (markI o i) (applyP o vs M).vs (applyP o vs M).mem := by
  show (if _ then _ else _) = _
  rw [if_neg h1, if_neg h2, if_pos h3]
/-- An operation in the place of another that does the same. -/
theorem evalL_head {ats : List Int} {o p : BOp} {l m : List BOp} {i : Int} {vs : List Int} {M : MemP} (hc : p.code = o.code) (hn : p.n = o.n) (ha : getV vs p.a = getV vs o.a) (hA : applyP p vs M = applyP o vs M) (hl : evalL ats l (markI o i) (applyP o vs M).vs (applyP o vs M).mem = evalL ats m (markI o i) (applyP o vs M).vs (applyP o vs M).mem) : evalL ats (p :: l) i vs M = evalL ats (o :: m) i vs M := by
  have hm : markI p i = markI o i := by unfold markI; rw [hc, hn]
  show (if _ then _ else _) = (if _ then _ else _)
  rw [hc, hn, ha, hA, hm, hl]

/-! Fold. -/
def FoldSem (f : Int → Option Int) (vs : List Int) : Prop := ∀ v x, 0 ≤ v → v < 28 → f v = some x → getV vs v = x
theorem foldSem_none (vs : List Int) : FoldSem noneF vs := nofun
theorem foldSem_mark {f : Int → Option Int} {vs : List Int} (h : FoldSem f vs) (o : BOp) : FoldSem (foldMark f o) vs := by
  unfold foldMark
  split
  · intro v x h0 h1 hv
    unfold fdel at hv
    split at hv
    · cases hv
    · exact h v x h0 h1 hv
  · exact h
theorem foldSem_upd {f : Int → Option Int} {vs : List Int} (h : FoldSem f vs) (hv : VarsOk vs) {p : BOp} (hf : formedB p = true) (M : MemP) : FoldSem (foldUpd f p) (applyP p vs M).vs := by
  have key : FoldSem (if 0 ≤ writes p then mdel f (writes p) else f) (applyP p vs M).vs := by
    intro v x h0 h1 hx
    have hne : writes p ≠ v ∧ f v = some x := by
      split at hx
      · unfold mdel at hx
        split at hx
        · cases hx
        · rename_i hne; exact ⟨fun e => hne (by rw [e]), hx⟩
      · exact ⟨fun e => by omega, hx⟩
    rw [applyP_other hf vs M h0 hne.1]
    exact h v x h0 h1 hne.2
  unfold foldUpd
  split
  · rename_i hc
    have hc' : p.code = 1 := by simpa using hc
    have hD : hasD p.code = true := by rw [hc']; rfl
    obtain ⟨d0, d1, dw⟩ := formed_d hf hD
    intro v x h0 h1 hx
    unfold mput at hx
    split at hx
    · rename_i he
      injection hx with hx
      rw [applyP_const hc', he, dw, ← hx]
      exact getV_set hv ⟨d0, d1⟩
    · exact key v x h0 h1 hx
  · exact key
theorem wordOp_zero {c a : Int} (hc : memI c [3, 4, 6, 7, 8, 9, 10] = true) (ha : word a) : wordOp c a 0 = a := by
  have ha' : 0 ≤ a ∧ a < 4294967296 := ha
  have hz : ((0 : Int) % 32).toNat = 0 := rfl
  have h1 : (2 : Int) ^ 0 = 1 := rfl
  simp only [memI, List.any_cons, List.any_nil, Bool.or_false, Bool.or_eq_true, beq_iff_eq] at hc
  rcases hc with h | h | h | h | h | h | h <;> subst h
  · show (a + 0) % 4294967296 = a; omega
  · show (a - 0) % 4294967296 = a; omega
  · show orI a 0 = a; unfold orI; simp; omega
  · show xorI a 0 = a; unfold xorI; simp; omega
  · show a * 2 ^ ((0 : Int) % 32).toNat % 4294967296 = a; rw [hz, h1]; omega
  · show a / 2 ^ ((0 : Int) % 32).toNat = a; rw [hz, h1]; omega
  · show signedI a / 2 ^ ((0 : Int) % 32).toNat % 4294967296 = a
    rw [hz, h1]
    unfold signedI
    split <;> omega
theorem const_formed {d n : Int} (hd : fieldB true d = true) : formedB ⟨1, d, 0, 0, n⟩ = true := formed_split.2 ⟨rfl, hd, rfl, rfl, rfl⟩
theorem move_formed {d a : Int} (hd : fieldB true d = true) (ha : fieldB true a = true) : formedB ⟨2, d, a, 0, 0⟩ = true := formed_split.2 ⟨rfl, hd, ha, rfl, rfl⟩
theorem field_d {o : BOp} (hf : formedB o = true) (hD : hasD o.code = true) : fieldB true o.d = true := by have := (formed_split.1 hf).2.1; rwa [hD] at this
theorem field_a {o : BOp} (hf : formedB o = true) (hA : hasA o.code = true) : fieldB true o.a = true := by have := (formed_split.1 hf).2.2.1; rwa [hA] at this
theorem fold_eval (ats : List Int) : ∀ (l : List BOp) (f : Int → Option Int) (i : Int) (vs : List Int) (M : MemP), VarsOk vs → FoldSem f vs → (∀ o ∈ l, formedB o = true) → (∀ o ∈ l, o.ok) → evalL ats (foldRun f l) i vs M = evalL ats l i vs M
  | [], _, _, _, _, _, _, _, _ => rfl
  | o :: l, f, i, vs, M, hv, hs, hf, hok => by
    have hfo := hf o (by simp)
    have hoo := hok o (by simp)
    have hfl : ∀ p ∈ l, formedB p = true := fun p hp => hf p (by simp [hp])
    have hol : ∀ p ∈ l, p.ok := fun p hp => hok p (by simp [hp])
    have hs1 := foldSem_mark hs o
    have ha := formed_a hfo
    have hb := formed_b hfo
    have haw := getV_word hv o.a
    generalize hg : foldMark f o = f1 at hs1
    have ih : ∀ (g : Int → Option Int) (j : Int) (us : List Int) (Q : MemP), VarsOk us → FoldSem g us → evalL ats (foldRun g l) j us Q = evalL ats l j us Q := fun g j us Q h1 h2 => fold_eval ats l g j us Q h1 h2 hfl hol
    -- a pure operation in the place of this one
    have pure : ∀ p : BOp, formedB p = true → word p.n → p.code = 1 ∨ p.code = 2 → 1 ≤ o.code ∧ o.code ≤ 15 → applyP p vs M = applyP o vs M → evalL ats (p :: (if (p.code == 24) = true then [] else foldRun (foldUpd f1 p) l)) i vs M = evalL ats (o :: l) i vs M := by
      intro p hp hpn hc ho hA
      have h24 : ¬ (p.code == 24) = true := by rw [beq_iff_eq]; omega
      have hst : (applyP p vs M).stays = true := by
        rcases hc with h | h
        · rw [applyP_const h]
        · rw [applyP_move h]
      rw [if_neg h24, evalL_go (by omega) (by omega) hst, evalL_go (by omega) (by omega) (by rw [← hA]; exact hst), ih _ _ _ _ (applyP_ok hv hpn) (foldSem_upd hs1 hv hp M), hA]
      have e1 : markI p i = i := if_neg (by omega)
      have e2 : markI o i = i := if_neg (by omega)
      rw [e1, e2]
    have e0 : foldRun f (o :: l) = if (foldB f1 o).2 then (foldB f1 o).1 :: (if (foldB f1 o).1.code == 24 then [] else foldRun (foldUpd f1 (foldB f1 o).1) l) else foldRun f1 l := by rw [← hg]; rfl
    rw [e0]
    have some_of : ∀ {v : Int}, (f1 v).isSome = true → 0 ≤ v → v < 28 → getV vs v = (f1 v).getD 0 := fun {v} h h0 h1 => by
      obtain ⟨x, hx⟩ := Option.isSome_iff_exists.1 h
      rw [hs1 v x h0 h1 hx, hx]; rfl
    have f1w : ∀ {v : Int}, (f1 v).isSome = true → 0 ≤ v → v < 28 → word ((f1 v).getD 0) := fun {v} h h0 h1 => by rw [← some_of h h0 h1]; exact getV_word hv v
    unfold foldB
    by_cases c1 : (o.code == 2 && (f1 o.a).isSome) = true
    · rw [if_pos c1]
      simp only [Bool.and_eq_true, beq_iff_eq] at c1
      have hD : hasD o.code = true := by rw [c1.1]; rfl
      refine pure _ (const_formed (field_d hfo hD)) (f1w c1.2 ha.1 ha.2) (.inl rfl) (by omega) ?_
      rw [applyP_const (by rfl), applyP_move c1.1, some_of c1.2 ha.1 ha.2]
    rw [if_neg c1]
    by_cases c2 : (isBin o.code && (f1 o.a).isSome && (f1 o.b).isSome) = true
    · rw [if_pos c2]
      simp only [Bool.and_eq_true] at c2
      have h' : 3 ≤ o.code ∧ o.code ≤ 15 := by have := c2.1.1; unfold isBin at this; simpa using this
      have hD : hasD o.code = true := by unfold hasD; rw [decide_eq_true_eq]; omega
      refine pure _ (const_formed (field_d hfo hD)) (wordOp_word (f1w c2.1.2 ha.1 ha.2) (f1w c2.2 hb.1 hb.2)) (.inl rfl) (by omega) ?_
      rw [applyP_const (by rfl), applyP_bin c2.1.1, some_of c2.1.2 ha.1 ha.2, some_of c2.2 hb.1 hb.2]
    rw [if_neg c2]
    by_cases c3 : ((f1 o.b).isSome && (f1 o.b).getD 0 == 0 && memI o.code [3, 4, 6, 7, 8, 9, 10]) = true
    · rw [if_pos c3]
      simp only [Bool.and_eq_true, beq_iff_eq] at c3
      have hm := c3.2
      simp only [memI, List.any_cons, List.any_nil, Bool.or_false, Bool.or_eq_true, beq_iff_eq] at hm
      have hbin : isBin o.code = true := by unfold isBin; rw [decide_eq_true_eq]; omega
      have hD : hasD o.code = true := by unfold hasD; rw [decide_eq_true_eq]; omega
      have hA' : hasA o.code = true := by unfold hasA; rw [decide_eq_true_eq]; omega
      refine pure _ (move_formed (field_d hfo hD) (field_a hfo hA')) word0 (.inr rfl) (by omega) ?_
      rw [applyP_move (by rfl), applyP_bin hbin, some_of c3.1.1 hb.1 hb.2, c3.1.2, wordOp_zero c3.2 haw]
    rw [if_neg c3]
    by_cases c4 : (o.code == 21 && (f1 o.a).isSome && (f1 o.a).getD 0 != 0) = true
    · rw [if_pos c4]
      simp only [Bool.and_eq_true, beq_iff_eq] at c4
      have e : applyP o vs M = ⟨vs, true, M⟩ := by rw [applyP_guard c4.1.1, some_of c4.1.2 ha.1 ha.2, c4.2]
      show evalL ats (foldRun f1 l) i vs M = _
      rw [evalL_go (by omega) (by omega) (by rw [e]), e, ih _ _ _ _ hv hs1, show markI o i = i from if_neg (by omega)]
    rw [if_neg c4]
    by_cases c5 : (o.code == 23 && (f1 o.a).isSome) = true
    · rw [if_pos c5]
      simp only [Bool.and_eq_true, beq_iff_eq] at c5
      by_cases hz : ((f1 o.a).getD 0 != 0) = true
      · rw [hz]
        show evalL ats (⟨24, 0, 0, 0, o.n⟩ :: _) i vs M = _
        have hz' : getV vs o.a ≠ 0 := by rw [some_of c5.2 ha.1 ha.2]; simpa using hz
        show (if _ then _ else _) = (if _ then _ else _)
        rw [if_pos (.inl rfl), if_pos (.inr ⟨c5.1, hz'⟩)]
      · have hz2 : ((f1 o.a).getD 0 != 0) = false := by simpa using hz
        rw [hz2]
        have hz' : getV vs o.a = 0 := by rw [some_of c5.2 ha.1 ha.2]; simpa using hz
        have e : applyP o vs M = ⟨vs, true, M⟩ := applyP_none (.inr c5.1) vs M
        show evalL ats (foldRun f1 l) i vs M = _
        rw [evalL_go (by omega) (by omega) (by rw [e]), e, ih _ _ _ _ hv hs1, show markI o i = i from if_neg (by omega)]
    rw [if_neg c5]
    by_cases c6 : (o.code == 25 && (f1 o.a).isSome) = true
    · rw [if_pos c6]
      simp only [Bool.and_eq_true, beq_iff_eq] at c6
      show evalL ats (⟨24, 0, 0, 0, (f1 o.a).getD 0⟩ :: _) i vs M = _
      show (if _ then _ else _) = (if _ then _ else _)
      rw [if_pos (.inl rfl), if_neg (by omega), if_pos c6.1, some_of c6.2 ha.1 ha.2]
    rw [if_neg c6]
    show evalL ats (o :: (if (o.code == 24) = true then [] else foldRun (foldUpd f1 o) l)) i vs M = _
    by_cases h24 : o.code = 24
    · show (if _ then _ else _) = (if _ then _ else _)
      rw [if_pos (.inl h24), if_pos (.inl h24)]
    · rw [if_neg (show ¬ (o.code == 24) = true by simpa using h24)]
      exact evalL_head rfl rfl rfl rfl (ih _ _ _ _ (applyP_ok hv hoo.n) (foldSem_upd hs1 hv hfo M))

/-! Copies. -/
def CopySem (s : Int → Option Int) (vs : List Int) : Prop := ∀ v w, s v = some w → (0 ≤ w ∧ w < 28 ∧ w ≠ 19) ∧ (0 ≤ v → v < 28 → getV vs v = getV vs w)
theorem copySem_none (vs : List Int) : CopySem noneF vs := nofun
theorem copySem_mark {s : Int → Option Int} {vs : List Int} (h : CopySem s vs) (o : BOp) : CopySem (copyMark s o) vs := by
  unfold copyMark
  split
  · intro v w hv
    obtain ⟨h1, _⟩ := Option.filter_eq_some_iff.1 hv
    unfold fdel at h1
    split at h1
    · cases h1
    · exact h v w h1
  · exact h
theorem origS_sem {s : Int → Option Int} {vs : List Int} (h : CopySem s vs) (x : Bool) {v : Int} (h0 : 0 ≤ v) (h1 : v < 28) : getV vs (origS s x v) = getV vs v ∧ 0 ≤ origS s x v ∧ origS s x v < 28 := by
  rcases origS_cases s x v with e | ⟨_, e⟩
  · rw [e]; exact ⟨rfl, h0, h1⟩
  · obtain ⟨h2, h3⟩ := h _ _ e
    exact ⟨(h3 h0 h1).symm, h2.1, h2.2.1⟩
theorem copySem_upd {s : Int → Option Int} {vs : List Int} (h : CopySem s vs) (hv : VarsOk vs) {p : BOp} (hf : formedB p = true) (hk : copySkip p = false) (M : MemP) : CopySem (copyUpd s p) (applyP p vs M).vs := by
  unfold copyUpd
  by_cases hw : writes p < 0
  · rw [if_pos hw]
    intro v w hs
    obtain ⟨h1, h2⟩ := h v w hs
    refine ⟨h1, fun v0 v1 => ?_⟩
    rw [applyP_other hf vs M v0 (by omega), applyP_other hf vs M h1.1 (by omega)]
    exact h2 v0 v1
  rw [if_neg hw]
  have key : ∀ v w, copyKill s (writes p) v = some w → (0 ≤ w ∧ w < 28 ∧ w ≠ 19) ∧ (0 ≤ v → v < 28 → getV (applyP p vs M).vs v = getV (applyP p vs M).vs w) := by
    intro v w hs
    unfold copyKill at hs
    obtain ⟨h1, h2⟩ := Option.filter_eq_some_iff.1 hs
    have h2 : w ≠ writes p := by simpa using h2
    unfold mdel at h1
    split at h1
    · cases h1
    · rename_i hne
      obtain ⟨h3, h4⟩ := h v w h1
      refine ⟨h3, fun v0 v1 => ?_⟩
      rw [applyP_other hf vs M v0 (fun e => hne e.symm), applyP_other hf vs M h3.1 (fun e => h2 e.symm)]
      exact h4 v0 v1
  split
  · rename_i hc
    have hc' : p.code = 2 := by simpa using hc
    have hD : hasD p.code = true := by rw [hc']; rfl
    obtain ⟨d0, d1, dw⟩ := formed_d hf hD
    have ha := formed_a hf
    have hne : p.d ≠ p.a := by
      unfold copySkip at hk
      rw [hc, Bool.true_and] at hk
      simpa using hk
    intro v w hs
    unfold mput at hs
    split at hs
    · rename_i he
      injection hs with hs
      subst hs
      have hA := (formed_split.1 hf).2.2.1
      rw [hc'] at hA
      have hA : 0 ≤ p.a ∧ p.a < 28 ∧ p.a ≠ 19 := by simpa [fieldB, hasA] using hA
      refine ⟨hA, fun _ _ => ?_⟩
      rw [he, dw, applyP_move hc']
      show getV (vs.set p.d.toNat (getV vs p.a)) p.d = getV (vs.set p.d.toNat (getV vs p.a)) p.a
      rw [getV_set hv ⟨d0, d1⟩, getV_set_ne d0 ha.1 (fun e => hne e.symm)]
    · exact key v w hs
  · exact key
theorem applyP_cong {o p : BOp} {vs us : List Int} (M : MemP) (hc : p.code = o.code) (hd : p.d = o.d) (hn : p.n = o.n) (ha : getV us p.a = getV vs o.a) (hb : getV us p.b = getV vs o.b) (hv : us = vs) : applyP p us M = applyP o vs M := by
  subst hv
  unfold applyP
  rw [hc, hd, hn, ha, hb]
theorem copyOp_formed' {f : Int → Option Int} (hI : ∀ v w, f v = some w → 0 ≤ w ∧ w < 28 ∧ w ≠ 19) {o : BOp} (hf : formedB o = true) : formedB (copyOp f o) = true := by
  obtain ⟨h1, h2, h3, h4, h5⟩ := formed_split.1 hf
  refine formed_split.2 ⟨h1, h2, ?_, ?_, h5⟩
  · show fieldB (hasA o.code) (origS f (memI o.a (reads o) && o.code != 20) o.a) = true
    rcases origS_cases f (memI o.a (reads o) && o.code != 20) o.a with e | ⟨e1, e2⟩
    · rw [e]; exact h3
    · cases hA : hasA o.code
      · exfalso
        simp only [Bool.and_eq_true] at e1
        have hB : hasB o.code = false := by
          cases hB : hasB o.code
          · rfl
          · rw [hasA_of_B hB] at hA; cases hA
        have hr : reads o = [] := by unfold reads; rw [hA, hB]; rfl
        rw [hr] at e1; simp [memI] at e1
      · unfold fieldB; rw [if_pos rfl, decide_eq_true_eq]; exact hI _ _ e2
  · show fieldB (hasB o.code) (origS f (twoB o.code) o.b) = true
    rcases origS_cases f (twoB o.code) o.b with e | ⟨e1, e2⟩
    · rw [e]; exact h4
    · rw [twoB_hasB] at e1
      rw [e1]
      unfold fieldB; rw [if_pos rfl, decide_eq_true_eq]; exact hI _ _ e2
theorem copy_eval (ats : List Int) : ∀ (l : List BOp) (s : Int → Option Int) (i : Int) (vs : List Int) (M : MemP), VarsOk vs → CopySem s vs → (∀ o ∈ l, formedB o = true) → (∀ o ∈ l, o.ok) → evalL ats (copyRun s l) i vs M = evalL ats l i vs M
  | [], _, _, _, _, _, _, _, _ => rfl
  | o :: l, s, i, vs, M, hv, hs, hf, hok => by
    have hfo := hf o (by simp)
    have hoo := hok o (by simp)
    have hs1 := copySem_mark hs o
    have ha := formed_a hfo
    have hb := formed_b hfo
    generalize hg : copyMark s o = s1 at hs1
    have ih : ∀ (g : Int → Option Int) (j : Int) (us : List Int) (Q : MemP), VarsOk us → CopySem g us → evalL ats (copyRun g l) j us Q = evalL ats l j us Q := fun g j us Q h1 h2 => copy_eval ats l g j us Q h1 h2 (fun p hp => hf p (by simp [hp])) (fun p hp => hok p (by simp [hp]))
    have e0 : copyRun s (o :: l) = if copySkip (copyOp s1 o) then copyRun s1 l else copyOp s1 o :: copyRun (copyUpd s1 (copyOp s1 o)) l := by rw [← hg]; rfl
    rw [e0]
    obtain ⟨a1, a2, a3⟩ := origS_sem hs1 (memI o.a (reads o) && o.code != 20) ha.1 ha.2
    obtain ⟨b1, b2, b3⟩ := origS_sem hs1 (twoB o.code) hb.1 hb.2
    have hA : applyP (copyOp s1 o) vs M = applyP o vs M := applyP_cong M rfl rfl rfl a1 b1 rfl
    by_cases hk : copySkip (copyOp s1 o) = true
    · rw [if_pos hk]
      unfold copySkip at hk
      simp only [Bool.and_eq_true, beq_iff_eq] at hk
      have hc : o.code = 2 := hk.1
      have hda : o.d = (copyOp s1 o).a := hk.2
      have hD : hasD o.code = true := by rw [hc]; rfl
      obtain ⟨d0, d1, _⟩ := formed_d hfo hD
      have e : applyP o vs M = ⟨vs, true, M⟩ := by
        rw [applyP_move hc]
        have : getV vs o.a = getV vs o.d := by rw [hda]; exact a1.symm
        rw [this, set_getV hv ⟨d0, d1⟩]
      rw [evalL_go (by omega) (by omega) (by rw [e]), e, ih _ _ _ _ hv hs1, show markI o i = i from if_neg (by omega)]
    · rw [if_neg hk]
      have hpf : formedB (copyOp s1 o) = true := copyOp_formed' (fun v w h => (hs1 v w h).1) hfo
      refine evalL_head rfl rfl a1 hA (ih _ _ _ _ (applyP_ok hv hoo.n) ?_)
      rw [← hA]
      exact copySem_upd hs1 hv hpf (by simpa using hk) M
end Go.Proofs.Ytmjfgnnefcimiaa
namespace Go.Proofs.Ytmjfgnnefcimiaa
open Go.RowKit

/-- The variables of a mask have the same values. -/
def Agree (m : Nat) (vs us : List Int) : Prop := ∀ v : Nat, v < 28 → m.testBit v = true → getV vs (v : Int) = getV us (v : Int)
theorem getV_eq {vs us : List Int} (h1 : vs.length = 28) (h2 : us.length = 28) {k : Nat} (hk : k < 28) (h : getV vs (k : Int) = getV us (k : Int)) : vs[k]? = us[k]? := by
  unfold getV at h
  rw [Int.toNat_natCast, List.getElem?_eq_getElem (by omega), List.getElem?_eq_getElem (by omega)] at h
  rw [List.getElem?_eq_getElem (by omega), List.getElem?_eq_getElem (by omega)]
  simpa using h
theorem guests_eq {vs us : List Int} (h1 : vs.length = 28) (h2 : us.length = 28) (h : ∀ v : Nat, v < 19 → getV vs (v : Int) = getV us (v : Int)) : guestsL vs = guestsL us := by
  unfold guestsL
  rw [h1, h2]
  congr 1
  refine List.ext_getElem? fun k => ?_
  rw [List.getElem?_take, List.getElem?_take]
  split
  · rename_i hk; exact getV_eq h1 h2 (by omega) (h k hk)
  · rfl
theorem memI_reads_a {o : BOp} (hA : hasA o.code = true) : memI o.a (reads o) = true := by
  unfold memI; rw [List.any_eq_true]; exact ⟨o.a, mem_reads.2 (.inl ⟨hA, rfl⟩), by simp⟩
theorem memI_reads_b {o : BOp} (hB : hasB o.code = true) : memI o.b (reads o) = true := by
  unfold memI; rw [List.any_eq_true]; exact ⟨o.b, reads_b hB, by simp⟩
theorem bit_of {o : BOp} (hf : formedB o = true) {m : Nat} {v : Int} (h0 : 0 ≤ v) (h1 : v < 28) (h : (memI v (reads o) || (observesB o && decide (v < 19)) || (m.testBit v.toNat && !(writes o == v))) = true) : (beforeM o m).testBit v.toNat = true := by
  rw [beforeM_bit hf m (by omega), Int.toNat_of_nonneg h0]; exact h
/-- An operation over variables of which those agree that are live before it. -/
structure StepSame (o : BOp) (m : Nat) (vs us : List Int) (M : MemP) : Prop where
  a : hasA o.code = true → getV us o.a = getV vs o.a
  stays : (applyP o us M).stays = (applyP o vs M).stays
  mem : (applyP o us M).mem = (applyP o vs M).mem
  agree : (applyP o vs M).stays = true → Agree m (applyP o vs M).vs (applyP o us M).vs
  guests : observesB o = true → guestsL us = guestsL vs
theorem step_same {o : BOp} (hf : formedB o = true) {m : Nat} {vs us : List Int} (hv : VarsOk vs) (hu : VarsOk us) (h : Agree (beforeM o m) vs us) (M : MemP) : StepSame o m vs us M := by
  have ha := formed_a hf
  have hb := formed_b hf
  have hd := formed_d' hf
  have eA : hasA o.code = true → getV us o.a = getV vs o.a := fun hA => by
    have := h o.a.toNat (by omega) (bit_of hf ha.1 ha.2 (by rw [memI_reads_a hA]; rfl))
    rw [Int.toNat_of_nonneg ha.1] at this; exact this.symm
  have eB : hasB o.code = true → getV us o.b = getV vs o.b := fun hB => by
    have := h o.b.toNat (by omega) (bit_of hf hb.1 hb.2 (by rw [memI_reads_b hB]; rfl))
    rw [Int.toNat_of_nonneg hb.1] at this; exact this.symm
  have keep : ∀ v : Nat, v < 28 → m.testBit v = true → writes o ≠ (v : Int) → getV vs (v : Int) = getV us (v : Int) := fun v hv hm hw => by
    refine h v hv ?_
    have := bit_of (v := (v : Int)) hf (m := m) (by omega) (by omega) (by rw [Int.toNat_natCast, hm, show (writes o == (v : Int)) = false by simpa using hw]; simp)
    rwa [Int.toNat_natCast] at this
  have same : writes o < 0 → Agree m vs us := fun hw v hv hm => keep v hv hm (by omega)
  have setA : ∀ x : Int, writes o = o.d → Agree m (vs.set o.d.toNat x) (us.set o.d.toNat x) := fun x hw v hv' hm => by
    by_cases e : (v : Int) = o.d
    · rw [e, getV_set hv hd, getV_set hu hd]
    · rw [getV_set_ne hd.1 (by omega) e, getV_set_ne hd.1 (by omega) e]
      exact keep v hv' hm (fun h => e (by rw [← h, hw]))
  have wD : 1 ≤ o.code → o.code ≤ 17 → writes o = o.d := fun h1 h2 => (formed_d hf (by unfold hasD; rw [decide_eq_true_eq]; exact ⟨h1, h2⟩)).2.2
  have wN : ¬ (1 ≤ o.code ∧ o.code ≤ 17) → writes o < 0 := fun hn => by
    have : hasD o.code = false := by unfold hasD; rw [decide_eq_false_iff_not]; exact hn
    unfold writes; rw [this]; exact (by decide : (-1 : Int) < 0)
  have gs : observesB o = true → guestsL us = guestsL vs := fun ho => by
    refine guests_eq hu.len hv.len fun v hv19 => ?_
    have := h v (by omega) (by
      have := bit_of (v := (v : Int)) hf (m := m) (by omega) (by omega) (by rw [ho]; simp; omega)
      rwa [Int.toNat_natCast] at this)
    exact this.symm
  by_cases c1 : o.code = 1
  · exact ⟨eA, by rw [applyP_const c1, applyP_const c1], by rw [applyP_const c1, applyP_const c1], fun _ => by rw [applyP_const c1, applyP_const c1]; exact setA _ (wD (by omega) (by omega)), gs⟩
  by_cases c2 : o.code = 2
  · have hA : hasA o.code = true := by rw [c2]; rfl
    exact ⟨eA, by rw [applyP_move c2, applyP_move c2], by rw [applyP_move c2, applyP_move c2], fun _ => by rw [applyP_move c2, applyP_move c2, eA hA]; exact setA _ (wD (by omega) (by omega)), gs⟩
  by_cases c3 : isBin o.code = true
  · have h' : 3 ≤ o.code ∧ o.code ≤ 15 := by unfold isBin at c3; simpa using c3
    have hA : hasA o.code = true := by unfold hasA; rw [decide_eq_true_eq]; omega
    have hB : hasB o.code = true := by unfold hasB; rw [decide_eq_true_eq]; omega
    exact ⟨eA, by rw [applyP_bin c3, applyP_bin c3], by rw [applyP_bin c3, applyP_bin c3], fun _ => by rw [applyP_bin c3, applyP_bin c3, eA hA, eB hB]; exact setA _ (wD (by omega) (by omega)), gs⟩
  by_cases c4 : o.code = 16 ∨ o.code = 17
  · have hA : hasA o.code = true := by unfold hasA; rw [decide_eq_true_eq]; omega
    have e : ∀ ws : List Int, applyP o ws M = (match M.bad ((getV ws o.a + o.n) % 4294967296) 1 0 (szN o.code) with
        | none => ⟨ws.set o.d.toNat (M.load ((getV ws o.a + o.n) % 4294967296) 0 (szN o.code)), true, M⟩
        | some _ => ⟨ws, false, M⟩) := fun ws => by
      unfold applyP; rw [if_neg c1, if_neg c2, if_pos c4]
      all_goals (cases M.bad ((getV ws o.a + o.n) % 4294967296) 1 0 (szN o.code) <;> rfl)
    have ho : observesB o = true := by
      have : leaves o.code = true := by unfold leaves; rw [decide_eq_true_eq]; omega
      unfold observesB; rw [this]; rfl
    have e1 := e vs
    have e2 := e us
    rw [eA hA] at e2
    cases hbad : M.bad ((getV vs o.a + o.n) % 4294967296) 1 0 (szN o.code) with
    | none =>
      rw [hbad] at e1 e2
      exact ⟨eA, by rw [e1, e2], by rw [e1, e2], fun _ => by rw [e1, e2]; exact setA _ (wD (by omega) (by omega)), gs⟩
    | some y =>
      rw [hbad] at e1 e2
      exact ⟨eA, by rw [e1, e2], by rw [e1, e2], fun hst => (by rw [e1] at hst; cases hst), gs⟩
  have hw : writes o < 0 := wN (by
    unfold isBin at c3
    rw [decide_eq_true_eq] at c3
    omega)
  have hs := same hw
  by_cases c5 : o.code = 18 ∨ o.code = 19
  · have hA : hasA o.code = true := by unfold hasA; rw [decide_eq_true_eq]; omega
    have hB : hasB o.code = true := by unfold hasB; rw [decide_eq_true_eq]; omega
    have e : ∀ ws : List Int, applyP o ws M = ⟨ws, (M.bad ((getV ws o.a + o.n) % 4294967296) 2 0 (szN o.code)).isNone, M.storeM ((getV ws o.a + o.n) % 4294967296) (szN o.code) (getV ws o.b)⟩ := fun ws => by
      unfold applyP; rw [if_neg c1, if_neg c2, if_neg c4, if_pos c5]
    have e1 := e vs
    have e2 := e us
    rw [eA hA, eB hB] at e2
    exact ⟨eA, by rw [e1, e2], by rw [e1, e2], fun _ => by rw [e1, e2]; exact hs, gs⟩
  by_cases c6 : o.code = 21
  · have hA : hasA o.code = true := by rw [c6]; rfl
    have e1 := applyP_guard c6 vs M
    have e2 := applyP_guard c6 us M
    rw [eA hA] at e2
    exact ⟨eA, by rw [e1, e2], by rw [e1, e2], fun _ => by rw [e1, e2]; exact hs, gs⟩
  have e : ∀ ws : List Int, applyP o ws M = ⟨ws, !decide (o.code = 22), M⟩ := fun ws => by
    unfold applyP
    rw [if_neg c1, if_neg c2, if_neg c4, if_neg c5, if_neg c6]
    by_cases c7 : o.code = 22
    · rw [if_pos c7]; simp [c7]
    · rw [if_neg c7, if_neg c3]; simp [c7]
  have e1 := e vs
  have e2 := e us
  exact ⟨eA, by rw [e1, e2], by rw [e1, e2], fun _ => by rw [e1, e2]; exact hs, gs⟩
theorem leaves_of {o : BOp} (_hf : formedB o = true) {vs : List Int} {M : MemP} (h : ¬ (applyP o vs M).stays = true) : leaves o.code = true := by
  unfold leaves
  rw [decide_eq_true_eq]
  by_cases c1 : o.code = 1
  · rw [applyP_const c1] at h; exact absurd rfl h
  by_cases c2 : o.code = 2
  · rw [applyP_move c2] at h; exact absurd rfl h
  by_cases c3 : isBin o.code = true
  · rw [applyP_bin c3] at h; exact absurd rfl h
  by_cases c4 : 16 ≤ o.code ∧ o.code ≤ 19 ∨ o.code = 21 ∨ o.code = 22
  · exact c4
  exfalso
  refine h ?_
  unfold applyP
  rw [if_neg c1, if_neg c2, if_neg (by omega), if_neg (by omega), if_neg (by omega), if_neg (by omega), if_neg c3]
/-- A block's rest over variables of which those agree that are live: one step. -/
theorem evalL_step {ats : List Int} {o : BOp} {l r : List BOp} {i : Int} {vs us : List Int} {M : MemP} (hf : formedB o = true) (ho : o.ok) {m : Nat} (hv : VarsOk vs) (hu : VarsOk us) (h : Agree (beforeM o m) vs us)
    (ih : ∀ (j : Int) (vs us : List Int) (Q : MemP), VarsOk vs → VarsOk us → Agree m vs us → evalL ats r j us Q = evalL ats l j vs Q) : evalL ats (o :: r) i us M = evalL ats (o :: l) i vs M := by
  have hs := step_same hf hv hu h M
  show (if _ then _ else _) = (if _ then _ else _)
  by_cases c1 : o.code = 24
  · rw [if_pos (.inl c1), if_pos (.inl c1), hs.guests (by unfold observesB; rw [c1]; rfl)]
  by_cases c2 : o.code = 25
  · have hn : ∀ ws : List Int, ¬ (o.code = 24 ∨ (o.code = 23 ∧ getV ws o.a ≠ 0)) := by
      rintro ws (h | ⟨h, _⟩) <;> omega
    rw [if_neg (hn us), if_neg (hn vs), if_pos c2, if_pos c2, hs.guests (by unfold observesB; rw [c2]; rfl), hs.a (by rw [c2]; rfl)]
  by_cases c3 : o.code = 23
  · rw [hs.a (by rw [c3]; rfl)]
    by_cases c4 : getV vs o.a = 0
    · have hn : ¬ (o.code = 24 ∨ (o.code = 23 ∧ getV vs o.a ≠ 0)) := by
        rintro (h | ⟨_, h⟩)
        · exact c1 h
        · exact h c4
      rw [if_neg hn, if_neg hn, if_neg c2, if_neg c2, hs.stays]
      have hst : (applyP o vs M).stays = true := by rw [applyP_none (.inr c3)]
      rw [if_pos hst, if_pos hst, hs.mem]
      exact ih _ _ _ _ (applyP_ok hv ho.n) (applyP_ok hu ho.n) (hs.agree hst)
    · rw [if_pos (.inr ⟨c3, c4⟩), if_pos (.inr ⟨c3, c4⟩), hs.guests (by unfold observesB; rw [c3]; rfl)]
  · have hn : ∀ ws : List Int, ¬ (o.code = 24 ∨ (o.code = 23 ∧ getV ws o.a ≠ 0)) := by
      rintro ws (h | ⟨h, _⟩)
      · exact c1 h
      · exact c3 h
    rw [if_neg (hn us), if_neg (hn vs), if_neg c2, if_neg c2, hs.stays, hs.mem]
    by_cases hst : (applyP o vs M).stays = true
    · rw [if_pos hst, if_pos hst]
      exact ih _ _ _ _ (applyP_ok hv ho.n) (applyP_ok hu ho.n) (hs.agree hst)
    · rw [if_neg hst, if_neg hst]
      have hob : observesB o = true := by
        have : leaves o.code = true := leaves_of hf hst
        unfold observesB; rw [this]; rfl
      rw [hs.guests hob]
theorem dead_eval (ats : List Int) : ∀ (l : List BOp) (i : Int) (vs us : List Int) (M : MemP), (∀ o ∈ l, formedB o = true) → (∀ o ∈ l, o.ok) → VarsOk vs → VarsOk us → Agree (mD l) vs us → evalL ats (rD l) i us M = evalL ats l i vs M
  | [], _, _, _, _, _, _, _, _, _ => rfl
  | o :: l, i, vs, us, M, hf, hok, hv, hu, h => by
    have hfo := hf o (by simp)
    have hoo := hok o (by simp)
    have hfl : ∀ p ∈ l, formedB p = true := fun p hp => hf p (by simp [hp])
    have hol : ∀ p ∈ l, p.ok := fun p hp => hok p (by simp [hp])
    have ih := fun (j : Int) (vs us : List Int) (Q : MemP) (h1 : VarsOk vs) (h2 : VarsOk us) (h3 : Agree (mD l) vs us) => dead_eval ats l j vs us Q hfl hol h1 h2 h3
    rw [rD_cons]
    rw [mD_cons] at h
    by_cases hd : deadB o (mD l) = true
    · rw [if_pos hd] at h ⊢
      obtain ⟨hp, hw, _⟩ := dead_not hfo hfl hd
      obtain ⟨k1, k2, _⟩ := pure_code hp
      have hbit : (mD l).testBit o.d.toNat = false := by
        unfold deadB at hd
        simp only [Bool.and_eq_true] at hd
        simpa using hd.2
      have hst : (applyP o vs M).stays = true ∧ (applyP o vs M).mem = M := by
        by_cases c1 : o.code = 1
        · rw [applyP_const c1]; exact ⟨rfl, rfl⟩
        by_cases c2 : o.code = 2
        · rw [applyP_move c2]; exact ⟨rfl, rfl⟩
        · rw [applyP_bin (by unfold isBin; rw [decide_eq_true_eq]; omega)]; exact ⟨rfl, rfl⟩
      rw [evalL_go (by omega) (by omega) hst.1, hst.2, show markI o i = i from if_neg (by omega)]
      refine ih _ _ _ _ (applyP_ok hv hoo.n) hu fun v hv28 hm => ?_
      have hne : writes o ≠ (v : Int) := fun e => by
        rw [hw] at e
        rw [e, Int.toNat_natCast, hm] at hbit
        cases hbit
      rw [applyP_other hfo vs M (by omega) hne]
      exact h v hv28 hm
    · rw [if_neg hd] at h ⊢
      exact evalL_step hfo hoo hv hu h ih
/-- The passes keep the evaluation of a valid block. -/
theorem fold_same {b : Blk} (hb : b.ok) (hv : validB b = true) {vs : List Int} (hvs : VarsOk vs) (M : MemP) : evalBlk (foldP b) vs M = evalBlk b vs M := by
  unfold evalBlk
  rw [if_pos (fold_valid hv), if_pos hv]
  show evalL b.at_ (foldAll b) 0 vs M = _
  unfold foldAll
  rw [if_pos hv]
  exact fold_eval b.at_ b.ops noneF 0 vs M hvs (foldSem_none vs) (valid_formed hv) hb.ops
theorem copy_same {b : Blk} (hb : b.ok) (hv : validB b = true) {vs : List Int} (hvs : VarsOk vs) (M : MemP) : evalBlk (copyP b) vs M = evalBlk b vs M := by
  unfold evalBlk
  rw [if_pos (copy_valid hv), if_pos hv]
  show evalL b.at_ (copyAll b) 0 vs M = _
  unfold copyAll
  rw [if_pos hv]
  exact copy_eval b.at_ b.ops noneF 0 vs M hvs (copySem_none vs) (valid_formed hv) hb.ops
theorem dead_same {b : Blk} (hb : b.ok) (hv : validB b = true) {vs : List Int} (hvs : VarsOk vs) (M : MemP) : evalBlk (deadP b) vs M = evalBlk b vs M := by
  unfold evalBlk
  rw [if_pos (dead_valid hv), if_pos hv]
  show evalL b.at_ (deadAll b) 0 vs M = _
  unfold deadAll
  rw [if_pos hv]
  exact dead_eval b.at_ b.ops 0 vs vs M (valid_formed hv) hb.ops hvs hvs fun _ _ _ => rfl
theorem once_same {b : Blk} (hb : b.ok) (hv : validB b = true) {vs : List Int} (hvs : VarsOk vs) (M : MemP) : evalBlk (onceP b) vs M = evalBlk b vs M := by
  unfold onceP
  rw [dead_same (copyP_ok (foldP_ok hb)) (copy_valid (fold_valid hv)) hvs, copy_same (foldP_ok hb) (fold_valid hv) hvs, fold_same hb hv hvs]
end Go.Proofs.Ytmjfgnnefcimiaa
namespace Go.Proofs.Ytmjfgnnefcimiaa
open Go.RowKit

/-! Opt. -/
theorem optN_same_eval {mu : Blk → Nat} (hmu : ∀ b, b.ok → (onceP b).ops ≠ b.ops → mu (onceP b) < mu b) {vs : List Int} (hvs : VarsOk vs) (M : MemP) : ∀ (n : Nat) {b : Blk}, b.ok → validB b = true → evalBlk (optN n b) vs M = evalBlk b vs M
  | 0, b, _, _ => rfl
  | n + 1, b, hb, hv => by
    unfold optN
    split
    · rfl
    · rw [optN_same_eval hmu hvs M n (onceP_ok hb) (once_valid hv), once_same hb hv hvs]
end Go.Proofs.Ytmjfgnnefcimiaa
namespace Go.Proofs.Ytmjfgnnefcimiaa
open Go.RowKit

/-- The result of Opt. -/
structure OptOk (b : Blk) (l : List BOp) : Prop where
  valid : validB ⟨b.at_, b.pages, l⟩ = true
  ok : (⟨b.at_, b.pages, l⟩ : Blk).ok
  same : ∀ vs M, VarsOk vs → evalBlk ⟨b.at_, b.pages, l⟩ vs M = evalBlk b vs M
theorem optN_length {mu : Blk → Nat} (hmu : ∀ b, b.ok → (onceP b).ops ≠ b.ops → mu (onceP b) < mu b) : ∀ (n : Nat) (b : Blk), (optN n b).ops.length ≤ b.ops.length
  | 0, b => Nat.le_refl _
  | n + 1, b => by
    unfold optN
    split
    · exact Nat.le_refl _
    · refine Nat.le_trans (optN_length hmu n (onceP b)) ?_
      show (deadAll (copyP (foldP b))).length ≤ _
      exact Nat.le_trans (deadAll_length _) (Nat.le_trans (copyAll_length _) (foldAll_length _))
theorem opt_ok {mu : Blk → Nat} (hmu : ∀ b, b.ok → (onceP b).ops ≠ b.ops → mu (onceP b) < mu b) {b : Blk} (hb : b.ok) (hv : validB b = true) : OptOk b (optAll mu b) ∧ (optAll mu b).length ≤ b.ops.length := by
  obtain ⟨h1, h2, _⟩ := opt_fixed hmu hb hv
  refine ⟨⟨h1, h2, fun vs M hvs => ?_⟩, ?_⟩
  · obtain ⟨_, _, k3, k4, _⟩ := optN_keeps hmu (mu b) hb hv (Nat.le_refl _)
    have e : (⟨b.at_, b.pages, optAll mu b⟩ : Blk) = optN (mu b) b := by
      unfold optAll
      rw [if_pos hv]
      cases hq : optN (mu b) b with
      | mk a p l => rw [hq] at k3 k4; simp at k3 k4; rw [k3, k4]
    rw [e]
    exact optN_same_eval hmu hvs M (mu b) hb hv
  · unfold optAll
    rw [if_pos hv]
    exact optN_length hmu _ b
end Go.Proofs.Ytmjfgnnefcimiaa
namespace Go.Proofs.Ytmjfgnnefcimiaa
open Go.RowKit

theorem QRun.useD {P : Program} {w0 : World} {G : Gs} {S : List Ow} {f : Fr} {o : Oper} {K : AV → Prop} (h : QRun P w0 G S f o K) {r : Env} {D : World → Prop} (hD : ∀ w, D w → Rel w0 G S r w) {w1 : World} (_ : D w1) {a : Act} (hf : FDen r f a) :
    ∃ v u, K v ∧ v.den r u ∧ ∀ w : World, D w → (execOp a.eval o).run P w = .ok (.value u) w := by
  obtain ⟨v, hK, hr⟩ := h.out
  obtain ⟨u, hd, hrun⟩ := hr r a hf
  exact ⟨v, u, hK, hd, fun w hw => hrun w (hD w hw)⟩
set_option maxHeartbeats 1000000 in
theorem qop_held {P : Program} {w0 : World} {G : Gs} {S : List Ow} {f : Fr} {o : Oper} {K : AV → Prop} (h : qop P w0 G S f o K) (hty : opTy P o.op = true) (hS0 : S = []) {r : Env} {D : World → Prop} (hD : ∀ w, D w → Rel w0 G S r w) {w1 : World} (hw1 : D w1) {a : Act} (hf : FDen r f a) :
    ∃ v u, K v ∧ v.den r u ∧ ∀ w : World, D w → (execOp a.eval o).run P w = .ok (.value u) w := by
  have hR := hD w1 hw1
  unfold qop at h
  split at h
  · -- move
    rename_i x hop
    have hx := hf.ev x
    refine ⟨f.ev x, a.eval x, ?_, hx, fun w _ => by simp [execOp, hop]⟩
    split at h <;> (rename_i he; rw [he]; exact h)
  · rename_i x hop
    have hx := hf.ev x
    refine ⟨f.ev x, a.eval x, ?_, hx, fun w _ => by simp [execOp, hop]⟩
    split at h <;> (rename_i he; rw [he]; exact h)
  · -- pick
    rename_i c x y hop
    have hc := hf.ev c
    have hx := hf.ev x
    have hy := hf.ev y
    split at h
    · rename_i b eb
      rw [eb] at hc
      have e1 := den_v hc
      have hrun : ∀ w : World, (execOp a.eval o).run P w = .ok (.value (if b then a.eval x else a.eval y)) w := fun w => by simp [execOp, hop, e1, asBool]
      split at h
      · rename_i p ep
        rw [ep] at hx
        have e2 := den_v hx
        split at h
        · rename_i q eq
          rw [eq] at hy
          have e3 := den_v hy
          refine ⟨_, _, h, den_one r _, fun w _ => ?_⟩
          rw [hrun w, e2, e3]
          cases b <;> rfl
        · cases b with
          | true => exact ⟨_, _, h, den_one r _, fun w _ => by rw [hrun w, e2]; rfl⟩
          | false => exact ⟨_, _, h, hy, fun w _ => by rw [hrun w]; rfl⟩
      · cases b with
        | true => exact ⟨_, _, h, hx, fun w _ => by rw [hrun w]; rfl⟩
        | false => exact ⟨_, _, h, hy, fun w _ => by rw [hrun w]; rfl⟩
    · exact h.elim
  · -- load
    rename_i t x hop
    have hx := hf.ev x
    subst hS0
    unfold loadK at h
    split at h
    · simp at h
    · simp at h
    · rename_i b off he
      rw [he] at hx
      have hu := den_v hx
      obtain ⟨v, u, hK, hd, hrun⟩ := oldK_sound h r
      exact ⟨v, u, hK, hd, fun w hw => by simp [execOp, hop, hu, hrun [] r w (hD w hw)]⟩
    · exact h.elim
  · -- nilCheck
    rename_i x hop
    have hx := hf.ev x
    split at h
    · rename_i i off he
      rw [he] at hx
      refine ⟨_, _, h, hx, fun w _ => ?_⟩
      obtain ⟨b, hb, hu⟩ := den_ref hx
      simp [execOp, hop, hu]
    · rename_i fn cap he
      rw [he] at hx
      refine ⟨_, _, h, hx, fun w _ => ?_⟩
      obtain ⟨us, hu, _⟩ := den_clo hx
      simp [execOp, hop, hu]
    · rename_i p he
      rw [he] at hx
      refine ⟨_, _, h, hx, fun w _ => ?_⟩
      have hu := den_v hx
      simp [execOp, hop, hu]
    · exact QRun.useD h hD hw1 hf
  · -- binOp
    rename_i op t x y t' hop
    have hx := hf.ev x
    have hy := hf.ev y
    split at h
    · rename_i k p ep
      rw [ep] at hx
      have e1 := den_v hx
      split at h
      · rename_i k' q eq
        rw [eq] at hy
        have e2 := den_v hy
        have hg : ∀ w : World, (eqGuard op t x y (.int k p) (.int k' q)).run P w = .ok () w := fun w => by
          unfold eqGuard; cases op <;> simp
        split at h
        · obtain ⟨u, hK, hrun⟩ := shiftK_sound (P := P) (t := t) (k' := k') h
          exact ⟨_, u, hK, den_one r u, fun w _ => by simp [execOp, hop, e1, e2, hg w, hrun w]⟩
        · obtain ⟨u, hK, hrun⟩ := shiftK_sound (P := P) (t := t) (k' := k') h
          exact ⟨_, u, hK, den_one r u, fun w _ => by simp [execOp, hop, e1, e2, hg w, hrun w]⟩
        · split at h
          · rename_i hk
            have hk := of_decide_eq_true hk
            subst hk
            obtain ⟨u, hK, hrun⟩ := binK_sound (P := P) (t := t) h
            exact ⟨_, u, hK, den_one r u, fun w _ => by simp [execOp, hop, e1, e2, hg w, hrun w]⟩
          · exact h.elim
      · exact QRun.useD h hD hw1 hf
    · exact QRun.useD h hD hw1 hf
  · -- unOp
    rename_i op t x hop
    have hx := hf.ev x
    split at h
    · rename_i p ep
      rw [ep] at hx
      have e1 := den_v hx
      exact ⟨_, _, h, den_one r _, fun w _ => by simp [execOp, hop, e1, Op.unary]⟩
    · exact QRun.useD h hD hw1 hf
  · -- convert
    rename_i src dst x hop
    have hx := hf.ev x
    split at h
    · rename_i k n ep
      rw [ep] at hx
      have e1 := den_v hx
      split at h
      · rename_i q0 hq0
        split at h
        · rename_i q hq
          obtain ⟨m, hm, hK⟩ := h
          exact ⟨_, _, hK, den_one r _, fun w _ => by simp [execOp, hop, e1, convert, underlying, hq0, hq, Conv.intToInt, hm]⟩
        · exact QRun.useD h hD hw1 hf
      · exact QRun.useD h hD hw1 hf
    · exact QRun.useD h hD hw1 hf
  · -- fieldAddr
    rename_i s x k hop
    have hx := hf.ev x
    split at h
    · rename_i i off he
      rw [he] at hx
      obtain ⟨b, hb, hu⟩ := den_ref hx
      split at h
      · rename_i n hn
        exact ⟨_, _, h, den_mk_ref hb, fun w _ => by simp [execOp, hop, hu, run_fieldAt hn]⟩
      · exact h.elim
    · rename_i b off he
      rw [he] at hx
      have hu := den_v hx
      split at h
      · rename_i n hn
        exact ⟨_, _, h, den_one r _, fun w _ => by simp [execOp, hop, hu, run_fieldAt hn]⟩
      · exact h.elim
    · exact h.elim
  · -- field
    rename_i t x k hop
    have hx := hf.ev x
    split at h
    · rename_i l he
      rw [he] at hx
      obtain ⟨us, hu, hl⟩ := den_agg hx
      unfold fldK at h
      split at h
      · rename_i fs hs
        split at h
        · rename_i fl hfl
          obtain ⟨v, u, hK, hd, hrun⟩ := run_part h hl
          exact ⟨v, u, hK, hd, fun w _ => by simp [execOp, hop, hu, Instr.field, underlying, hs, hfl, asAgg, hrun w]⟩
        · exact h.elim
      · exact h.elim
    · exact h.elim
  · -- extract
    rename_i x k hop
    have hx := hf.ev x
    split at h
    · rename_i l he
      rw [he] at hx
      obtain ⟨us, hu, hl⟩ := hx
      split at h
      · rename_i p hp
        obtain ⟨u, h1, h2⟩ := pdenL_at hl hp
        exact ⟨_, u, h, h2, fun w _ => by simp [execOp, hop, hu, Instr.extract, h1]⟩
      · exact h.elim
    · exact h.elim
  · -- build
    rename_i t parts hop
    obtain ⟨v, u, hK, hd, hrun⟩ := buildK_sound hR hf h
    exact ⟨v, u, hK, hd, fun w _ => by simp only [execOp, hop, Sem.run_bind, hrun w, Result.andThen_ok, Sem.run_pure]⟩
  · -- makeFunc
    rename_i fn first cap hop
    split at h
    · rename_i hfirst
      have ef : first = #[] := Array.ext' hfirst
      split at h
      · rename_i hcap
        have ec : cap = #[] := Array.ext' hcap
        exact ⟨_, .func (.func fn) #[] #[], h, by simp [AV.den, Pc.den, CV.den, denL], fun w _ => by simp [execOp, hop, Instr.makeFunc, ef, ec]⟩
      · rename_i x hcap
        have ec : cap = #[x] := Array.ext' hcap
        have hx := hf.ev x
        split at h
        · rename_i c he
          rw [he] at hx
          refine ⟨_, .func (.func fn) #[] #[a.eval x], h, ?_, fun w _ => by simp [execOp, hop, Instr.makeFunc, ef, ec]⟩
          simp only [AV.den, Pc.den, CV.den, denL]
          exact ⟨[a.eval x], rfl, _, _, rfl, hx, rfl⟩
        · exact h.elim
      · exact QRun.useD h hD hw1 hf
    · exact QRun.useD h hD hw1 hf
  · -- indexAddr
    rename_i t x ix hop
    rw [hop] at hty
    have hx := hf.ev x
    have hi := hf.ev ix
    split at h
    · rename_i b off n c he
      rw [he] at hx
      have hu := den_v hx
      split at h
      · rename_i q k hk
        rw [hk] at hi
        have hu2 := den_v hi
        split at h
        · rename_i e ht
          simp only [opTy, ht] at hty
          obtain ⟨i, hie⟩ := Option.isSome_iff_exists.1 hty
          obtain ⟨⟨h0, h1⟩, hK⟩ := h
          refine ⟨_, _, hK, den_one r _, fun w _ => ?_⟩
          simp only [execOp, hop, hu, hu2, Sem.run_bind, run_indexAt_slice ht hie h0 h1, Result.andThen_ok, Sem.run_pure, tsz_sizeOf hie]
        · exact h.elim
      · exact h.elim
    · rename_i i he
      rw [he] at hx
      split at h
      · rename_i q k hk
        rw [hk] at hi
        have hu2 := den_v hi
        split at h
        · rename_i e ht
          simp only [opTy, ht] at hty
          obtain ⟨i', hie⟩ := Option.isSome_iff_exists.1 hty
          split at h
          · rename_i e' size n xs hS
            obtain ⟨⟨h0, h1⟩, hK⟩ := h
            obtain ⟨v, hv1, hv2, hv3⟩ := hR.own i _ hS
            have hux : r.val i = some (a.eval x) := by simpa only [AV.den, Pc.den, CV.den] using hx
            rw [hux] at hv1; injection hv1 with hv1
            rcases hv3.2 with ⟨hn, hz⟩ | ⟨g, cap, cur, hv, _⟩
            · omega
            · rw [← hv1] at hv hv2
              have hb : r.blk i = some g := by rw [← hv2, hv]; rfl
              refine ⟨_, _, hK, den_mk_ref hb, fun w _ => ?_⟩
              simp only [execOp, hop, hv, hu2, Sem.run_bind, run_indexAt_slice ht hie h0 h1, Result.andThen_ok, Sem.run_pure, tsz_sizeOf hie, Nat.zero_add]
          · rename_i n xs hS
            obtain ⟨⟨h0, h1, hpos⟩, hK⟩ := h
            obtain ⟨A, c, hv1, hv2, hv3, hv4, hv5⟩ := hR.own i _ hS
            have hux : r.val i = some (a.eval x) := by simpa only [AV.den, Pc.den, CV.den] using hx
            obtain ⟨b, off, hA, _⟩ := hv5 0 xs[0] (by simp [hpos])
            subst hA
            rw [hux] at hv1; injection hv1 with hv1
            refine ⟨_, .pointer (some ⟨b, off + k.toNat * i'.size, none⟩), hK, ?_, fun w _ => ?_⟩
            · simp only [AV.den, Pc.den, CV.den]
              exact ⟨b, off, n, c, by rw [hux, hv1], by rw [tsz_sizeOf hie]⟩
            · simp only [execOp, hop, hv1, hu2, Sem.run_bind, run_indexAt_slice ht hie h0 h1, Result.andThen_ok, Sem.run_pure]
          · exact h.elim
        · exact h.elim
      · exact h.elim
    · rename_i i off n c he
      rw [he] at hx
      have hux : ∃ b, r.blk i = some b ∧ a.eval x = .slice (some ⟨b, off, none⟩) n c := by simpa only [AV.den, Pc.den, CV.den] using hx
      obtain ⟨b, hb, hu⟩ := hux
      split at h
      · rename_i q k hk
        rw [hk] at hi
        have hu2 := den_v hi
        split at h
        · rename_i e ht
          simp only [opTy, ht] at hty
          obtain ⟨i', hie⟩ := Option.isSome_iff_exists.1 hty
          obtain ⟨⟨h0, h1⟩, hK⟩ := h
          refine ⟨_, _, hK, den_mk_ref hb, fun w _ => ?_⟩
          simp only [execOp, hop, hu, hu2, Sem.run_bind, run_indexAt_slice ht hie h0 h1, Result.andThen_ok, Sem.run_pure, tsz_sizeOf hie]
        · exact h.elim
      · exact h.elim
    · rename_i i off he
      rw [he] at hx
      obtain ⟨b, hb, hu⟩ := den_ref hx
      split at h
      · rename_i q k hk
        rw [hk] at hi
        have hu2 := den_v hi
        split at h
        · rename_i n e ht
          simp only [opTy, ht] at hty
          obtain ⟨i', hie⟩ := Option.isSome_iff_exists.1 hty
          obtain ⟨⟨h0, h1⟩, hK⟩ := h
          refine ⟨_, _, hK, den_mk_ref hb, fun w _ => ?_⟩
          simp only [execOp, hop, hu, hu2, Sem.run_bind, run_indexAt_array ht hie h0 h1, Result.andThen_ok, Sem.run_pure, tsz_sizeOf hie]
        · exact h.elim
      · exact h.elim
    · exact QRun.useD h hD hw1 hf
  · -- index
    rename_i t x ix hop
    rw [hop] at hty
    have hx := hf.ev x
    have hi := hf.ev ix
    split at h
    · rename_i l he
      rw [he] at hx
      obtain ⟨us, hu, hl⟩ := den_agg hx
      split at h
      · rename_i q k hk
        rw [hk] at hi
        have hu2 := den_v hi
        split at h
        · rename_i n e ht
          simp only [opTy, ht] at hty
          obtain ⟨i', hie⟩ := Option.isSome_iff_exists.1 hty
          obtain ⟨⟨h0, h1⟩, hK⟩ := h
          obtain ⟨v, u, hK', hd, hrun⟩ := run_part hK hl
          refine ⟨v, u, hK', hd, fun w _ => ?_⟩
          have e3 := hrun w
          rw [tsz_sizeOf hie] at e3
          simp [execOp, hop, hu, hu2, Instr.index, asIntOf, underlying, ht, h0, h1, run_sizeOf P e w hie, e3]
        · exact h.elim
      · exact h.elim
    · exact QRun.useD h hD hw1 hf
  · -- len
    rename_i args tys hop
    split at h
    · rename_i x hargs
      have ea : args = #[x] := Array.ext' hargs
      split at h
      · rename_i t htys
        have et : tys = #[t] := Array.ext' htys
        split at h
        · rename_i e ht
          have hx := hf.ev x
          split at h
          · rename_i A n c he
            rw [he] at hx
            have hu := den_v hx
            exact ⟨_, _, h, den_one r _, fun w _ => by simp [execOp, hop, ea, et, resolve, invoke, builtin, Builtin.len_, underlying, ht, hu, goInt]⟩
          · rename_i i off n c he
            rw [he] at hx
            have hux : ∃ b, r.blk i = some b ∧ a.eval x = .slice (some ⟨b, off, none⟩) n c := by simpa only [AV.den, Pc.den, CV.den] using hx
            obtain ⟨b, hb, hu⟩ := hux
            exact ⟨_, _, h, den_one r _, fun w _ => by simp [execOp, hop, ea, et, resolve, invoke, builtin, Builtin.len_, underlying, ht, hu, goInt]⟩
          · rename_i i he
            rw [he] at hx
            split at h
            · rename_i e' size n xs hS
              obtain ⟨v, hv1, hv2, hv3⟩ := hR.own i _ hS
              have hux : r.val i = some (a.eval x) := by simpa only [AV.den, Pc.den, CV.den] using hx
              rw [hux] at hv1; injection hv1 with hv1
              obtain ⟨A, c, hv⟩ := row_slice hv3
              rw [← hv1] at hv
              exact ⟨_, _, h, den_one r _, fun w _ => by simp [execOp, hop, ea, et, resolve, invoke, builtin, Builtin.len_, underlying, ht, hv, goInt]⟩
            · rename_i n xs hS
              obtain ⟨A, c, hv1, _⟩ := hR.own i _ hS
              have hux : r.val i = some (a.eval x) := by simpa only [AV.den, Pc.den, CV.den] using hx
              rw [hux] at hv1; injection hv1 with hv1
              exact ⟨_, _, h, den_one r _, fun w _ => by simp [execOp, hop, ea, et, resolve, invoke, builtin, Builtin.len_, underlying, ht, hv1, goInt]⟩
            · exact h.elim
          · exact h.elim
        · exact QRun.useD h hD hw1 hf
      · exact h.elim
    · exact h.elim
  · exact QRun.useD h hD hw1 hf
end Go.Proofs.Ytmjfgnnefcimiaa
namespace Go.Proofs.Ytmjfgnnefcimiaa
open Go.RowKit
/-- Old memory that is not in G is as it was. -/
structure Held (W : World) (G : Gs) (w : World) : Prop where
  os : w.os = W.os
  tape : w.tape = W.tape
  output : w.output = W.output
  size : W.heap.size ≤ w.heap.size
  old : ∀ k, k < W.heap.size → k ∉ G → w.heap[k]? = W.heap[k]?
def Gs.flat (G : Gs) : Gs := ⟨[], G.fix ++ G.ext⟩
theorem flat_mem {G : Gs} {b : Nat} : b ∈ G.flat ↔ b ∈ G := by
  constructor
  · rintro (h | h)
    · cases h
    · exact List.mem_append.1 h
  · intro h; exact .inr (List.mem_append.2 h)
theorem Rel.held {W : World} {G : Gs} {S : List Ow} {r : Env} {w : World} (h : Rel W G S r w) : Held W G w := ⟨h.os, h.tape, h.output, h.size, h.old⟩
theorem Held.rel {W : World} {G : Gs} {w : World} (h : Held W G w) : Rel W G.flat [] Env.none w :=
  ⟨h.os, h.tape, h.output, h.size, fun k hk hn => h.old k hk (fun hm => hn (flat_mem.2 hm)), by simp, nofun, nofun, fun _ _ => rfl, fun _ _ => rfl, (by intro i g h; simp [Gs.flat] at h)⟩
/-- What a slot holds, if it names no own entry. -/
def plainAV (x : AV) : AV := match x.fx (fun _ => false) with | true => x | false => .p (.c .any)
def plainG : Fr → Fr
  | [] => []
  | (d, x) :: f => (d, plainAV x) :: plainG f
theorem plainG_den {r : Env} {f : Fr} {a : Act} (hf : FDen r f a) : FDen Env.none (plainG f) a := by
  have key : ∀ f : Fr, ∀ k u, (f.get k).den r u → ((plainG f).get k).den Env.none u := by
    intro f
    induction f with
    | nil => intro k u _; simp [plainG, Fr.get, AV.den, Pc.den, CV.den]
    | cons p f ih =>
      obtain ⟨d, x⟩ := p
      intro k u h
      unfold plainG
      cases hk : Nat.beq d k <;> simp only [Fr.get, hk] at h ⊢
      · exact ih k u h
      · unfold plainAV
        cases hx : x.fx (fun _ => false)
        · simp [AV.den, Pc.den, CV.den]
        · exact AV.den_fx (ok := fun _ => false) (fun i b hi => by cases hi) hx h
  exact fun k => key f k _ (hf k)
section
variable (P : Program) (W : World) (G : Gs) (N : Nd)
/-- What is taken first: it yields the same whatever comes before it. -/
def firstG (f : Fr) (T : List Ow) (o : Oper) (K : AV → Prop) : Prop :=
  match o.op with
  | .move x => forceAV (f.ev x) K
  | .assign x => forceAV (f.ev x) K
  | .fieldAddr s x k => (match f.ev x with
    | .p (.c (.ref i off)) => (match fldOff P s k with | some n => K (.p (.c (.ref i (off + n)))) | none => False)
    | _ => (match opTy P o.op with | true => qop P W G.flat [] (plainG f) o K | false => False))
  | .nilCheck x => (match f.ev x with
    | .p (.c (.ref i off)) => K (.p (.c (.ref i off)))
    | _ => (match opTy P o.op with | true => qop P W G.flat [] (plainG f) o K | false => False))
  | .build t parts => buildK P T f t parts K
  | _ => (match opTy P o.op with | true => qop P W G.flat [] (plainG f) o K | false => False)
end
section
variable {P : Program} {W : World} {G : Gs} {N : Nd} {ops : Array Oper} {l : List Oper}
theorem firstG_sound {f : Fr} {T : List Ow} {o : Oper} {K : AV → Prop} (h : firstG P W G f T o K) {r : Env} {w : World} (hR : Rel W G T r w) {a : Act} (hf : FDen r f a) :
    ∃ v u, K v ∧ v.den r u ∧ ∀ w', Held W G w' → (execOp a.eval o).run P w' = .ok (.value u) w' := by
  have plain : (match opTy P o.op with | true => qop P W G.flat [] (plainG f) o K | false => False) → ∃ v u, K v ∧ v.den r u ∧ ∀ w', Held W G w' → (execOp a.eval o).run P w' = .ok (.value u) w' := fun h => by
    split at h
    · rename_i hty
      obtain ⟨v, u, hK, hden, hrun⟩ := qop_held h hty rfl (D := Held W G) (fun w hw => hw.rel) hR.held (plainG_den hf)
      exact ⟨v, u, hK, AV.den_mono ⟨(fun i b h => by cases h), (fun i b h => by cases h)⟩ _ _ hden, hrun⟩
    · exact h.elim
  unfold firstG at h
  split at h
  · rename_i x hop
    exact ⟨_, _, forceAV_iff.1 h, hf.ev x, fun w' _ => by simp [execOp, hop]⟩
  · rename_i x hop
    exact ⟨_, _, forceAV_iff.1 h, hf.ev x, fun w' _ => by simp [execOp, hop]⟩
  · rename_i s x k hop
    split at h
    · rename_i i off he
      split at h
      · rename_i n hn
        have hx := hf.ev x
        rw [he] at hx
        obtain ⟨b, hb, hu⟩ := den_ref hx
        exact ⟨_, _, h, den_mk_ref hb, fun w' _ => by simp [execOp, hop, hu, run_fieldAt hn]⟩
      · exact h.elim
    · exact plain h
  · rename_i x hop
    split at h
    · rename_i i off he
      have hx := hf.ev x
      rw [he] at hx
      obtain ⟨b, hb, hu⟩ := den_ref hx
      exact ⟨_, _, h, den_mk_ref hb, fun w' _ => by simp [execOp, hop, hu]⟩
    · exact plain h
  · rename_i t parts hop
    obtain ⟨v, u, hK, hd, hrun⟩ := buildK_sound hR hf h
    exact ⟨v, u, hK, hd, fun w' _ => by simp [execOp, hop, hrun w']⟩
  · exact plain h
end
/-- What may come up in a state: all have come; number i is taken first; one of these, each with the state that it leads to. -/
inductive Nx (α : Type) where
  | done
  | q (i : Nat) (y : α)
  | alts (l : List (Nat × α))
/-- The states as they should be: what has come, what may come up. -/
structure DagOk {α : Type} (ops : Array Oper) (listed : α → Array Bool) (nx : α → Nx α) (left : α → Nat) (x : α) : Prop where
  done : nx x = .done → Region.ready .any ops (listed x) = []
  q : ∀ i y, nx x = .q i y → Region.free .any ops (listed x) i = true ∧ (Region.ready .any ops (listed x)).contains i = true ∧ listed y = (listed x).setIfInBounds i true ∧ left y < left x
  alts : ∀ l, nx x = .alts l → Region.ready .any ops (listed x) = l.map Prod.fst ∧ l ≠ [] ∧ ∀ p ∈ l, listed p.2 = (listed x).setIfInBounds p.1 true ∧ left p.2 < left x
def eqBools : List Bool → List Bool → Bool
  | [], [] => true
  | a :: l, b :: m => match a, b with | true, true => eqBools l m | false, false => eqBools l m | _, _ => false
  | _, _ => false
theorem eqBools_eq : ∀ {l m : List Bool}, eqBools l m = true → l = m
  | [], [], _ => rfl
  | a :: l, b :: m, h => by
    cases a <;> cases b <;> simp only [eqBools] at h <;> first | cases h | rw [eqBools_eq h]
  | [], _ :: _, h => by cases h
  | _ :: _, [], h => by cases h
def dagB {α : Type} (ops : Array Oper) (listed : α → Array Bool) (nx : α → Nx α) (left : α → Nat) (x : α) : Bool :=
  match nx x with
  | .done => (Region.ready .any ops (listed x)).isEmpty
  | .q i y => Region.free .any ops (listed x) i && (Region.ready .any ops (listed x)).contains i && eqBools (listed y).toList ((listed x).setIfInBounds i true).toList && Nat.blt (left y) (left x)
  | .alts l => (Region.ready .any ops (listed x) == l.map Prod.fst) && !l.isEmpty && l.all fun p => eqBools (listed p.2).toList ((listed x).setIfInBounds p.1 true).toList && Nat.blt (left p.2) (left x)
theorem dagB_ok {α : Type} {ops : Array Oper} {listed : α → Array Bool} {nx : α → Nx α} {left : α → Nat} {x : α} (h : dagB ops listed nx left x = true) : DagOk ops listed nx left x := by
  unfold dagB at h
  refine ⟨fun e => ?_, fun i y e => ?_, fun l e => ?_⟩
  · rw [e] at h; simpa using h
  · rw [e] at h
    simp only [Bool.and_eq_true] at h
    exact ⟨h.1.1.1, h.1.1.2, Array.ext' (eqBools_eq h.1.2), by simpa [Nat.blt_eq] using h.2⟩
  · rw [e] at h
    simp only [Bool.and_eq_true, List.all_eq_true] at h
    refine ⟨by simpa using h.1.1, by simpa using h.1.2, fun p hp => ?_⟩
    obtain ⟨h1, h2⟩ := h.2 p hp
    exact ⟨Array.ext' (eqBools_eq h1), by simpa [Nat.blt_eq] using h2⟩
section
variable (P : Program) (W : World) (G : Gs) (N : Nd) {α : Type}
/-- What is to be shown of a state. -/
def nodeK (ops : Array Oper) (l : List Oper) (T : α → Fr) (U : α → List Ow) (K : Fr → List Ow → Prop) (x : α) : Nx α → Prop
  | .done => K (T x) (U x)
  | .q i y => (match l[i]? with
    | none => False
    | some o => (match dstOk N.n o.dst with
      | false => False
      | true => (match guardOf ops (T x) o with
        | some true => firstG P W G (T x) (U x) o fun v => (T x).putK o.dst v fun f' => Ent W G N f' (U x) (T y) (U y)
        | some false => (T x).putK o.dst (.p (.c .any)) fun f' => Ent W G N f' (U x) (T y) (U y)
        | none => False)))
  | .alts m => ∀ p ∈ m, (match l[p.1]? with
    | none => False
    | some o => (match guardOf ops (T x) o with
        | some true => opK P W G N o (T x) (U x) fun f' S' => Ent W G N f' S' (T p.2) (U p.2)
        | _ => False))
end
section
variable {P : Program} {W : World} {G : Gs} {N : Nd} {ops : Array Oper} {l : List Oper} {α : Type}
theorem dag_sound {listed : α → Array Bool} {nx : α → Nx α} {left : α → Nat} {T : α → Fr} {U : α → List Ow} (hl : ∀ i : Nat, l[i]? = ops[i]?) (hns : Region.noSelect ops = true) {K : Fr → List Ow → Prop} {Q : Exit → Act → World → Prop} (hQ0 : ∀ c a w, ¬ Q (.panic c) a w) (hQ : ∀ f T a w, K f T → Good W G N f T a w → Q .normal a w)
    (hB : ∀ x, dagB ops listed nx left x = true) (hnode : ∀ x, nodeK P W G N ops l T U K x (nx x)) :
    ∀ (n : Nat) (x : α) (a : Act) (w : World), left x ≤ n → Good W G N (T x) (U x) a w → wpAnyH P .any ops Q (Held W G) n (listed x) a w := by
  intro n
  induction n with
  | zero =>
    intro x a w hn hg
    have hb := dagB_ok (hB x)
    have hk := hnode x
    cases hx : nx x with
    | done => rw [hx] at hk; exact wpAnyH_done (hb.done hx) (hQ _ _ a w hk hg) _
    | q i y => have := (hb.q i y hx).2.2.2; omega
    | alts m =>
      obtain ⟨_, h2, h3⟩ := hb.alts m hx
      obtain ⟨p, hp⟩ := List.exists_mem_of_ne_nil m h2
      have := (h3 p hp).2
      omega
  | succ n ih =>
    intro x a w hn hg
    have hb := dagB_ok (hB x)
    have hk := hnode x
    cases hx : nx x with
    | done => rw [hx] at hk; exact wpAnyH_done (hb.done hx) (hQ _ _ a w hk hg) _
    | q i y =>
      rw [hx] at hk
      obtain ⟨h1, h2, h3, h4⟩ := hb.q i y hx
      simp only [nodeK] at hk
      split at hk
      · exact hk.elim
      · rename_i o ho
        rw [hl] at ho
        split at hk
        · exact hk.elim
        · rename_i hdst
          obtain ⟨r, hR, hf, hN, hd⟩ := hg
          split at hk
          · rename_i hgd
            have hw := guard_wanted hf hgd
            obtain ⟨v, u, hK, hden, hrun⟩ := firstG_sound hk hR hf
            have hK := putK_iff.1 hK
            refine wpAnyH_take (v := u) ho hns h1 h2 (fun c a w h => absurd h (hQ0 c _ w)) (.inl ⟨hw, hrun⟩) hR.held ?_
            rw [← h3]
            exact ih y _ w (by omega) (hK.out _ w ⟨r, hR, hf.put hden (by rw [hN]; exact hdst), (put_size a _ _).trans hN, (put_defers a _ _).trans hd⟩)
          · rename_i hgd
            have hw := guard_wanted hf hgd
            have hK := putK_iff.1 hk
            refine wpAnyH_take (v := undef) ho hns h1 h2 (fun c a w h => absurd h (hQ0 c _ w)) (.inr ⟨hw, rfl⟩) hR.held ?_
            rw [← h3]
            exact ih y _ w (by omega) (hK.out _ w ⟨r, hR, hf.putAny _ (by rw [hN]; exact hdst), (put_size a _ _).trans hN, (put_defers a _ _).trans hd⟩)
          · exact hk.elim
    | alts m =>
      rw [hx] at hk
      obtain ⟨h1, h2, h3⟩ := hb.alts m hx
      refine wpAnyH_all h1 (by simpa using h2) fun i hi => ?_
      obtain ⟨p, hp, rfl⟩ := List.mem_map.1 hi
      have hk := hk p hp
      obtain ⟨h4, h5⟩ := h3 p hp
      split at hk
      · exact hk.elim
      · rename_i o ho
        rw [hl] at ho
        obtain ⟨r, hR, hf, hN, hd⟩ := hg
        split at hk
        · rename_i hgd
          have hw := guard_wanted hf hgd
          unfold wpOp
          simp only [ho, hw, if_true]
          refine .inl (se_wp ((opK_sound hk).out r a w hR hf hN hd (fun a' w' => Held W G w' ∧ wpAnyH P .any ops Q (Held W G) n ((listed x).setIfInBounds p.1 true) a' w') Q fun f' T' a' w' hke hg' => ?_) fun _ _ h => h)
          have hg2 := hke.out a' w' hg'
          refine ⟨?_, ?_⟩
          · obtain ⟨r', hR', _⟩ := hg2
            exact hR'.held
          · rw [← h4]; exact ih p.2 a' w' (by omega) hg2
        · exact hk.elim
/-- A drawn region, by the sets of what has come. -/
theorem sat_dag {id : Nat} {f : Fr} {S : List Ow} {K : Exit → Fr → List Ow → Prop} (listed : α → Array Bool) (nx : α → Nx α) (left : α → Nat) (T : α → Fr) (U : α → List Ow) (x0 : α) (hm : P.follows .mixedOrders = true) (hns : Region.noSelect l.toArray = true) (h0 : (eqBools (listed x0).toList (List.replicate l.length false) && Nat.ble (left x0) l.length) = true) (hB : ∀ x, dagB l.toArray listed nx left x = true)
    (hent : Ent W G N f S (T x0) (U x0)) (hnode : ∀ x, nodeK P W G N l.toArray l T U (K .normal) x (nx x)) : Sat none P W G N (.region id l.toArray true) f S K := by
  refine ⟨fun n a w hg => wpIn_wide.2 ?_⟩
  simp only [Bool.and_eq_true] at h0
  obtain ⟨r, hR, hf, hN, hd⟩ := hent.out a w hg
  refine Code.wp_mono (Q := fun e a w => match e with | .normal => PostK W G N K .normal a w | _ => False) (fun e a w h => by cases e <;> first | exact h | exact h.elim) (wp_region_held (S := Held W G) hm ?_)
  have := dag_sound (P := P) (W := W) (N := N) (ops := l.toArray) (l := l) (Q := fun e a w => match e with | .normal => PostK W G N K .normal a w | _ => False) (fun i => by simp) hns (fun c a w h => h) (fun f T a w hk hg => ⟨f, T, hk, hg⟩) hB hnode l.length x0 a w.drew (Nat.le_of_ble_eq_true h0.2) ⟨r, hR.drew, hf, hN, hd⟩
  have e : listed x0 = Array.replicate l.toArray.size false := Array.ext' (by rw [eqBools_eq h0.1]; simp)
  rw [e] at this
  simpa using this
end
/-- Entries of which nothing is known yet. -/
theorem rel_gone {w0 : World} {G : Gs} {r : Env} {w : World} (n : Nat) {S : List Ow} (h : Rel w0 G S r w) : Rel w0 G (S ++ List.replicate n .gone) r w := by
  have hl : (S ++ List.replicate n Ow.gone).length = S.length + n := by simp
  refine ⟨h.os, h.tape, h.output, h.size, h.old, fun i o ho => ?_, h.inj, h.new, fun i hi => h.outB i (by omega), fun i hi => h.outV i (by omega), h.first⟩
  rcases Nat.lt_or_ge i S.length with h1 | h1
  · rw [List.getElem?_append_left h1] at ho; exact h.own i o ho
  · rw [List.getElem?_append_right h1, List.getElem?_replicate] at ho
    split at ho
    · injection ho with ho; subst ho; trivial
    · cases ho
theorem ent_gone {w0 : World} {G : Gs} {N : Nd} {f : Fr} {S : List Ow} (n : Nat) : Ent w0 G N f S f (S ++ List.replicate n .gone) := ⟨fun _a _w ⟨r, hR, hf, hN, hd⟩ => ⟨r, rel_gone n hR, hf, hN, hd⟩⟩
end Go.Proofs.Ytmjfgnnefcimiaa
namespace Go.Proofs.Ytmjfgnnefcimiaa
open Go.RowKit
inductive K5 where
  | k0 | k1 | k2 | k3 | k4
/-- Loads taken; then calls made and boxes there; then stores made. -/
inductive KSt where
  | l0 | l1 | l2 | l3
  | c (k : K5) (a b c d : Bool)
  | s1 | s2 | s3 | s4
def K5.ge : K5 → Nat → Bool
  | .k0, _ => false
  | .k1, i => Nat.beq i 0
  | .k2, i => Nat.blt i 2
  | .k3, i => Nat.blt i 3
  | .k4, _ => true
def K5.left : K5 → Nat
  | .k0 => 4
  | .k1 => 3
  | .k2 => 2
  | .k3 => 1
  | .k4 => 0
def KSt.listed : KSt → Array Bool
  | .l0 => #[false, false, false, false, false, false, false, false, false, false, false, false, false, false, false, false]
  | .l1 => #[true, false, false, false, false, false, false, false, false, false, false, false, false, false, false, false]
  | .l2 => #[true, false, true, false, false, false, false, false, false, false, false, false, false, false, false, false]
  | .l3 => #[true, false, true, false, true, false, false, false, false, false, false, false, false, false, false, false]
  | .c k a b e d => #[true, k.ge 0, true, k.ge 1, true, k.ge 2, true, k.ge 3, a, b, e, d, false, false, false, false]
  | .s1 => #[true, true, true, true, true, true, true, true, true, true, true, true, true, false, false, false]
  | .s2 => #[true, true, true, true, true, true, true, true, true, true, true, true, true, true, false, false]
  | .s3 => #[true, true, true, true, true, true, true, true, true, true, true, true, true, true, true, false]
  | .s4 => #[true, true, true, true, true, true, true, true, true, true, true, true, true, true, true, true]
def KSt.calls (a b e d : Bool) : K5 → List (Nat × KSt)
  | .k0 => [(1, .c .k1 a b e d)]
  | .k1 => [(3, .c .k2 a b e d)]
  | .k2 => [(5, .c .k3 a b e d)]
  | .k3 => [(7, .c .k4 a b e d)]
  | .k4 => []
def KSt.box (i : Nat) (y : KSt) : Bool → List (Nat × KSt)
  | false => [(i, y)]
  | true => []
def KSt.last : K5 → Bool → Bool → Bool → Bool → List (Nat × KSt)
  | .k4, true, true, true, true => [(12, .s1)]
  | _, _, _, _, _ => []
def KSt.nx : KSt → Nx KSt
  | .l0 => .q 0 .l1
  | .l1 => .q 2 .l2
  | .l2 => .q 4 .l3
  | .l3 => .q 6 (.c .k0 false false false false)
  | .c k a b e d => .alts (KSt.calls a b e d k ++ (KSt.box 8 (.c k true b e d) a ++ (KSt.box 9 (.c k a true e d) b ++ (KSt.box 10 (.c k a b true d) e ++ (KSt.box 11 (.c k a b e true) d ++ KSt.last k a b e d)))))
  | .s1 => .alts [(13, .s2)]
  | .s2 => .alts [(14, .s3)]
  | .s3 => .alts [(15, .s4)]
  | .s4 => .done
def bleft : Bool → Nat
  | true => 0
  | false => 1
def KSt.left : KSt → Nat
  | .l0 => 16
  | .l1 => 15
  | .l2 => 14
  | .l3 => 13
  | .c k a b e d => 4 + k.left + bleft a + bleft b + bleft e + bleft d
  | .s1 => 3
  | .s2 => 2
  | .s3 => 1
  | .s4 => 0
section
variable (P : Program) (W : World) (G : Gs) (N : Nd) {α : Type}
/-- One of the operations that may come up. -/
def altK (ops : Array Oper) (l : List Oper) (T : α → Fr) (U : α → List Ow) (x : α) (i : Nat) (y : α) : Prop :=
  match l[i]? with
  | none => False
  | some o => (match guardOf ops (T x) o with
    | some true => opK P W G N o (T x) (U x) fun f' S' => Ent W G N f' S' (T y) (U y)
    | _ => False)
end
section
variable {P : Program} {W : World} {G : Gs} {N : Nd} {l : List Oper} {T : KSt → Fr} {U : KSt → List Ow}
theorem sat_k {id : Nat} {f : Fr} {S : List Ow} {K : Exit → Fr → List Ow → Prop} (T : KSt → Fr) (U : KSt → List Ow) (hm : P.follows .mixedOrders = true) (hns : Region.noSelect l.toArray = true) (hlen : l.length = 16) (hB : ∀ x, dagB l.toArray KSt.listed KSt.nx KSt.left x = true)
    (hent : Ent W G N f S (T .l0) (U .l0))
    (h0 : nodeK P W G N l.toArray l T U (K .normal) .l0 (.q 0 .l1)) (h1 : nodeK P W G N l.toArray l T U (K .normal) .l1 (.q 2 .l2)) (h2 : nodeK P W G N l.toArray l T U (K .normal) .l2 (.q 4 .l3)) (h3 : nodeK P W G N l.toArray l T U (K .normal) .l3 (.q 6 (.c .k0 false false false false)))
    (c0 : ∀ a b c d, altK P W G N l.toArray l T U (.c .k0 a b c d) 1 (.c .k1 a b c d)) (c1 : ∀ a b c d, altK P W G N l.toArray l T U (.c .k1 a b c d) 3 (.c .k2 a b c d)) (c2 : ∀ a b c d, altK P W G N l.toArray l T U (.c .k2 a b c d) 5 (.c .k3 a b c d)) (c3 : ∀ a b c d, altK P W G N l.toArray l T U (.c .k3 a b c d) 7 (.c .k4 a b c d))
    (a0 : ∀ k b c d, altK P W G N l.toArray l T U (.c k false b c d) 8 (.c k true b c d)) (a1 : ∀ k a c d, altK P W G N l.toArray l T U (.c k a false c d) 9 (.c k a true c d)) (a2 : ∀ k a b d, altK P W G N l.toArray l T U (.c k a b false d) 10 (.c k a b true d)) (a3 : ∀ k a b c, altK P W G N l.toArray l T U (.c k a b c false) 11 (.c k a b c true))
    (s0 : altK P W G N l.toArray l T U (.c .k4 true true true true) 12 .s1) (s1 : altK P W G N l.toArray l T U .s1 13 .s2) (s2 : altK P W G N l.toArray l T U .s2 14 .s3) (s3 : altK P W G N l.toArray l T U .s3 15 .s4)
    (he : K .normal (T .s4) (U .s4)) : Sat none P W G N (.region id l.toArray true) f S K := by
  have one : ∀ {x y : KSt} {i : Nat}, altK P W G N l.toArray l T U x i y → ∀ p ∈ [(i, y)], altK P W G N l.toArray l T U x p.1 p.2 := fun h p hp => by
    obtain rfl := List.mem_singleton.1 hp; exact h
  refine sat_dag KSt.listed KSt.nx KSt.left T U .l0 hm hns (by rw [hlen]; rfl) hB hent fun x => ?_
  have app : ∀ {x : KSt} {m n : List (Nat × KSt)}, (∀ p ∈ m, altK P W G N l.toArray l T U x p.1 p.2) → (∀ p ∈ n, altK P W G N l.toArray l T U x p.1 p.2) → ∀ p ∈ m ++ n, altK P W G N l.toArray l T U x p.1 p.2 := fun h k p hp => (List.mem_append.1 hp).elim (h p) (k p)
  cases x with
  | l0 => exact h0
  | l1 => exact h1
  | l2 => exact h2
  | l3 => exact h3
  | s1 => exact one s1
  | s2 => exact one s2
  | s3 => exact one s3
  | s4 => exact he
  | c k a b c d =>
    refine app ?_ (app ?_ (app ?_ (app ?_ (app ?_ ?_))))
    · cases k with
      | k0 => exact one (c0 a b c d)
      | k1 => exact one (c1 a b c d)
      | k2 => exact one (c2 a b c d)
      | k3 => exact one (c3 a b c d)
      | k4 => exact fun p hp => by cases hp
    · cases a with
      | false => exact one (a0 k b c d)
      | true => exact fun p hp => by cases hp
    · cases b with
      | false => exact one (a1 k a c d)
      | true => exact fun p hp => by cases hp
    · cases c with
      | false => exact one (a2 k a b d)
      | true => exact fun p hp => by cases hp
    · cases d with
      | false => exact one (a3 k a b c)
      | true => exact fun p hp => by cases hp
    · unfold KSt.last
      split
      · exact one s0
      · exact fun p hp => by cases hp
end
end Go.Proofs.Ytmjfgnnefcimiaa
namespace Go.Proofs.Ytmjfgnnefcimiaa
open Go.RowKit
def kpR (s1 s2 : Value) (i : Nat) : Bool → AV
  | true => .p (.agg [.v s1, .v s2, .row i])
  | false => .p (.c .any)
def kpB (i : Nat) : Bool → AV
  | true => .p (.c (.ref i 0))
  | false => .p (.c .any)
def kpV (l : List BOp) : Bool → Ow
  | true => .view viewT l.length (l.flatMap opC)
  | false => .gone
def kpX : Bool → Ow
  | true => .cells 32 [.v (.slice none 0 0), .v (.slice none 0 0), .v (.slice none 0 0)]
  | false => .gone
def kpO (s1 s2 : Value) (i : Nat) : Bool → Ow
  | true => .cells 32 [.v s1, .v s2, .row i]
  | false => .cells 32 [.v (.slice none 0 0), .v (.slice none 0 0), .v (.slice none 0 0)]
/-- The slots. -/
def kpF (h : Bool) (g6 g7 : Nat) (s1 s2 s3 : Value) (q0 q1 q2 q3 a b e d : Bool) : Fr :=
  [(5, one (.bool h)), (6, one (.pointer (some ⟨g6, 0, none⟩))), (7, one (.pointer (some ⟨g7, 0, none⟩))), (20, .p (.agg [.v s1, .v s2, .v s3])), (22, .p (.agg [.v s1, .v s2, .v s3])), (24, .p (.agg [.v s1, .v s2, .v s3])), (26, .p (.agg [.v s1, .v s2, .v s3])), (21, kpR s1 s2 0 q0), (23, kpR s1 s2 1 q1), (25, kpR s1 s2 2 q2), (27, kpR s1 s2 3 q3), (8, kpB 4 a), (9, kpB 5 b), (10, kpB 6 e), (11, kpB 7 d)]
def kpT (g6 g7 : Nat) (s1 s2 s3 : Value) : KSt → Fr
  | .l0 => [(5, one (.bool true)), (6, one (.pointer (some ⟨g6, 0, none⟩))), (7, one (.pointer (some ⟨g7, 0, none⟩)))]
  | .l1 => [(5, one (.bool true)), (6, one (.pointer (some ⟨g6, 0, none⟩))), (7, one (.pointer (some ⟨g7, 0, none⟩))), (20, .p (.agg [.v s1, .v s2, .v s3]))]
  | .l2 => [(5, one (.bool true)), (6, one (.pointer (some ⟨g6, 0, none⟩))), (7, one (.pointer (some ⟨g7, 0, none⟩))), (20, .p (.agg [.v s1, .v s2, .v s3])), (22, .p (.agg [.v s1, .v s2, .v s3]))]
  | .l3 => [(5, one (.bool true)), (6, one (.pointer (some ⟨g6, 0, none⟩))), (7, one (.pointer (some ⟨g7, 0, none⟩))), (20, .p (.agg [.v s1, .v s2, .v s3])), (22, .p (.agg [.v s1, .v s2, .v s3])), (24, .p (.agg [.v s1, .v s2, .v s3]))]
  | .c k a b e d => kpF true g6 g7 s1 s2 s3 (k.ge 0) (k.ge 1) (k.ge 2) (k.ge 3) a b e d
  | _ => kpF true g6 g7 s1 s2 s3 true true true true true true true true
def kpU (s1 s2 : Value) (L1 L2 L3 L4 : List BOp) : KSt → List Ow
  | .c k a b e d => [kpV L1 (k.ge 0), kpV L2 (k.ge 1), kpV L3 (k.ge 2), kpV L4 (k.ge 3), kpX a, kpX b, kpX e, kpX d]
  | .s1 => [kpV L1 true, kpV L2 true, kpV L3 true, kpV L4 true, kpO s1 s2 0 true, kpX true, kpX true, kpX true]
  | .s2 => [kpV L1 true, kpV L2 true, kpV L3 true, kpV L4 true, kpO s1 s2 0 true, kpO s1 s2 1 true, kpX true, kpX true]
  | .s3 => [kpV L1 true, kpV L2 true, kpV L3 true, kpV L4 true, kpO s1 s2 0 true, kpO s1 s2 1 true, kpO s1 s2 2 true, kpX true]
  | .s4 => [kpV L1 true, kpV L2 true, kpV L3 true, kpV L4 true, kpO s1 s2 0 true, kpO s1 s2 1 true, kpO s1 s2 2 true, kpO s1 s2 3 true]
  | _ => [.gone, .gone, .gone, .gone, .gone, .gone, .gone, .gone]
section
variable {w0 : World} {S : List Ow} {K : AV → List Ow → Prop} {b : Blk} {A1 A2 A3 D1 D2 : Option Addr} {n1 n2 n3 c1 c2 c3 d1 d2 : Nat}
/-- Two blocks of the same words are the same, wherever they lie; the second one's operations are in a view. -/
theorem call_same_two (i : Nat) (l1 : b.at_.length ≤ 1000000) (l2 : b.pages.length ≤ 1000000) (l3 : b.ops.length ≤ 1000000) (hn1 : b.at_.length = n1) (hn2 : b.pages.length = n2) (hn3 : b.ops.length = n3)
    (h1 : SlAt w0 w0.heap.size A1 (b.at_.map (.int .u32))) (h2 : SlAt w0 w0.heap.size A2 (b.pages.map (.int .i64))) (h3 : OpsAt w0 w0.heap.size A3 b.ops)
    (k1 : SlAt w0 w0.heap.size D1 (b.at_.map (.int .u32))) (k2 : SlAt w0 w0.heap.size D2 (b.pages.map (.int .i64))) (hi : S[i]? = some (.view viewT n3 (b.ops.flatMap opC)))
    (hK : K (one (.bool true)) S) : CallS Try.prog w0 Gs.nil 23 [.p (.agg [.v (.slice A1 n1 c1), .v (.slice A2 n2 c2), .v (.slice A3 n3 c3)]), .p (.agg [.v (.slice D1 n1 d1), .v (.slice D2 n2 d2), .row i])] S K := by
  subst hn1; subst hn2; subst hn3
  refine call_blkV2 (x := .bool true) i hi (by kernel_rfl) (fun r w' A4 c4 hR h4 e1 e2 => ?_) hK
  refine (same_ref A1 A2 A3 D1 D2 A4 c1 c2 c3 d1 d2 c4 b b w' l1 l2 l3 (sl_later h1 hR.toBelow) (sl_later h2 hR.toBelow) (sl_later h3 hR.toBelow) (sl_later k1 hR.toBelow) (sl_later k2 hR.toBelow) h4).mono fun e w'' ⟨h, hB⟩ => ⟨?_, hB⟩
  rw [h, sameB_self]
end
set_option maxRecDepth 100000 in
set_option maxHeartbeats 16000000 in
theorem keeps_law {mu : Blk → Nat} (hmu : ∀ b, b.ok → (onceP b).ops ≠ b.ops → mu (onceP b) < mu b) (A : Option Addr) (n c : Nat) (xs : List Int) (q0 q1 q2 : Int) (w : World) (hs : SlAt w w.heap.size A (xs.map (.int .i64))) (hl : xs.length = n) (hnc : n ≤ c) :
    Calls Try.prog 13 #[.slice A n c, .agg #[.int .i64 q0, .int .i64 q1, .int .i64 q2]] w fun e w' => e = .returned (.bool true) ∧ Below w.heap.size w w' := by
  refine calls_satq [.slice A n c, .agg #[.int .i64 q0, .int .i64 q1, .int .i64 q2]] Try.func13 Try.ntmps13 rfl (by simp) ?_
  refine satq_seq ?_
  conv => whnf
  refine satq_seq ?_
  conv => whnf
  refine call_con rfl (by kernel_rfl) (fun r w' hR => sanity_law w') ?_
  conv => whnf
  refine satq_restart fun r w1 hR => ?_
  obtain ⟨g3, us3, b3, d3, k3⟩ := own_cellsAt hR 0 rfl
  obtain rfl := denL_vals_inv (us := [.int .i64 q0, .int .i64 q1, .int .i64 q2]) d3
  have hB0 := hR.toBelow
  refine ⟨slotFr [(0, .slice A n c), (3, .pointer (some ⟨g3, 0, none⟩)), (5, .bool true)], fun a hf => slots_den ⟨slot_val hf rfl, slot_ref hf 3 rfl b3, slot_val hf rfl, trivial⟩, ?_⟩
  have hs1 := sl_later hs hB0
  clear hR b3 d3
  refine satq_mid (α := { y : Blk // TurnOk y }) (fun y => [(5, one (.bool true)), (6, .p (.c (.ref 3 0)))]) (fun y => blkRows y.1 ++ [.cells 32 [.row 0, .row 1, .row 2]]) ?_ fun y => ?_
  · refine satq_vc ?_
    refine sat_any (.q 0 (.q 2 (.alt 1 (.alt 3 (.alt 4 (.alt 5 .done .no) .no) (.alt 4 (.alt 3 (.alt 5 .done .no) .no) .no)) (.alt 4 (.alt 1 (.alt 3 (.alt 5 .done .no) .no) .no) .no)))) mixed (by kernel_rfl) (by kernel_rfl) ?_
    conv => whnf
    refine ⟨_, k3, rfl, ?_⟩
    conv => whnf
    refine ⟨?_, ?_, trivial⟩
    · conv => whnf
      refine call_blk MadeOk (by kernel_rfl) (fun r w' us hR hd => ?_) fun b hb => ?_
      · obtain rfl := avals_den (xs := [.slice A n c]) rfl hd
        exact made_walk A n c xs w' (sl_later hs1 hR.toBelow) hl hnc
      conv => whnf
      refine ⟨?_, ?_, trivial⟩
      · conv => whnf
        refine call_turned 0 1 2 b q0 q1 q2 rfl rfl rfl hb fun y hy => ?_
        conv => whnf
        refine ⟨?_, trivial⟩
        conv => whnf
        refine ⟨?_, trivial⟩
        conv => whnf
        exact atq_mid ⟨y, hy⟩ (ent_ren [3, 4, 5, 6] (aI rfl (aI rfl trivial)) (aI ((Exists.intro _ (aI rfl (aI rfl (aI rfl (aI rfl rfl)))))) (aI ((Exists.intro _ (aI rfl (aI rfl (aI rfl (aI rfl rfl)))))) (aI ((Exists.intro _ (aI rfl (aI rfl (aI rfl (aI rfl rfl)))))) (aI ((Exists.intro _ (aI rfl (aI rfl (Or.inl rfl))))) trivial)))) rfl rfl rfl rfl rfl)
      · conv => whnf
        refine ⟨?_, trivial⟩
        conv => whnf
        refine call_turned 0 1 2 b q0 q1 q2 rfl rfl rfl hb fun y hy => ?_
        conv => whnf
        refine ⟨?_, trivial⟩
        conv => whnf
        exact atq_mid ⟨y, hy⟩ (ent_ren [4, 5, 6, 3] (aI rfl (aI rfl trivial)) (aI ((Exists.intro _ (aI rfl (aI rfl (aI rfl (aI rfl rfl)))))) (aI ((Exists.intro _ (aI rfl (aI rfl (aI rfl (aI rfl rfl)))))) (aI ((Exists.intro _ (aI rfl (aI rfl (aI rfl (aI rfl rfl)))))) (aI ((Exists.intro _ (aI rfl (aI rfl (Or.inl rfl))))) trivial)))) rfl rfl rfl rfl rfl)
    · conv => whnf
      refine ⟨?_, trivial⟩
      conv => whnf
      refine call_blk MadeOk (by kernel_rfl) (fun r w' us hR hd => ?_) fun b hb => ?_
      · obtain rfl := avals_den (xs := [.slice A n c]) rfl hd
        exact made_walk A n c xs w' (sl_later hs1 hR.toBelow) hl hnc
      conv => whnf
      refine ⟨?_, trivial⟩
      conv => whnf
      refine call_turned 1 2 3 b q0 q1 q2 rfl rfl rfl hb fun y hy => ?_
      conv => whnf
      refine ⟨?_, trivial⟩
      conv => whnf
      exact atq_mid ⟨y, hy⟩ (ent_ren [4, 5, 6, 0] (aI rfl (aI rfl trivial)) (aI ((Exists.intro _ (aI rfl (aI rfl (aI rfl (aI rfl rfl)))))) (aI ((Exists.intro _ (aI rfl (aI rfl (aI rfl (aI rfl rfl)))))) (aI ((Exists.intro _ (aI rfl (aI rfl (aI rfl (aI rfl rfl)))))) (aI ((Exists.intro _ (aI rfl (aI rfl (Or.inl rfl))))) trivial)))) rfl rfl rfl rfl rfl)
  obtain ⟨b, hb⟩ := y
  dsimp only
  refine satq_restart fun r w2 hR => ?_
  obtain ⟨g6, A1, c1, A2, c2, A3, c3, b6, k6, s1, s2, s3, m1, m2⟩ := own_blkRows hR 3 0 1 2 b rfl rfl rfl rfl
  have hB1 : Below w.heap.size w w2 := hB0.trans (hR.toBelow.mono hB0.size)
  refine ⟨slotFr [(5, .bool true), (6, .pointer (some ⟨g6, 0, none⟩))], fun a hf => slots_den ⟨slot_val hf rfl, slot_ref hf 6 rfl b6, trivial⟩, ?_⟩
  clear hR b6 k3 hs1 hs
  refine satq_seq ?_
  conv => whnf
  refine ⟨_, k6, rfl, ?_⟩
  conv => whnf
  refine call_blk (fun y => y = b) (by kernel_rfl) (fun r w' us hR hd => ?_) fun y hy => ?_
  · obtain rfl := avals_den (xs := [.agg #[.slice A1 b.at_.length c1, .slice A2 b.pages.length c2, .slice A3 b.ops.length c3]]) rfl hd
    exact (own_walk b A1 A2 A3 c1 c2 c3 w' hb.ok (sl_later s1 hR.toBelow) (sl_later s2 hR.toBelow) (sl_later s3 hR.toBelow)).mono fun e w'' ⟨v1, v2, v3, he, hr, hB⟩ => ⟨b, v1, v2, v3, rfl, he, hr, hB⟩
  subst hy
  conv => whnf
  refine satq_restart fun r w3 hR => ?_
  obtain ⟨g7, D1, d1, D2, d2, D3, d3, b7, k7, t1, t2, t3, m3, m4⟩ := own_blkRows hR 3 0 1 2 y rfl rfl rfl rfl
  have hB2 : Below w.heap.size w w3 := hB1.trans (hR.toBelow.mono hB1.size)
  have k6' := cells_later k6 hR.toBelow
  refine ⟨slotFr [(5, .bool true), (6, .pointer (some ⟨g6, 0, none⟩)), (7, .pointer (some ⟨g7, 0, none⟩))], fun a hf => slots_den ⟨slot_val hf rfl, slot_val hf rfl, slot_ref hf 7 rfl b7, trivial⟩, ?_⟩
  have u1 := sl_later s1 hR.toBelow
  have u2 := sl_later s2 hR.toBelow
  have u3 := sl_later s3 hR.toBelow
  clear hR b7 k6 s1 s2 s3
  have p1 := fold_pass
  have z1 : y.ops = [] → foldAll y = [] := fold_nil
  have y1 := foldAll_length y
  have p2 := copies_pass
  have z2 : y.ops = [] → copyAll y = [] := copy_nil
  have y2 := copyAll_length y
  have p3 := dead_pass
  have z3 : y.ops = [] → deadAll y = [] := dead_nil
  have y3 := deadAll_length y
  have p4 := opt_pass hmu
  have z4 : y.ops = [] → optAll mu y = [] := opt_none
  have y4 : (optAll mu y).length ≤ y.ops.length := by
    cases hv : validB y
    · unfold optAll; rw [hv]; exact Nat.le_refl _
    · exact (opt_ok hmu hb.ok hv).2
  have ylen := hb.ok.lops
  generalize foldAll = F1 at p1 z1 y1
  generalize copyAll = F2 at p2 z2 y2
  generalize deadAll = F3 at p3 z3 y3
  generalize optAll mu = F4 at p4 z4 y4
  refine satq_mid (α := Unit) (fun _ => kpT g6 g7 (.slice A1 y.at_.length c1) (.slice A2 y.pages.length c2) (.slice A3 y.ops.length c3) .s4) (fun _ => kpU (.slice A1 y.at_.length c1) (.slice A2 y.pages.length c2) (F1 y) (F2 y) (F3 y) (F4 y) .s4) ?_ fun _ => ?_
  · refine satq_vc ?_
    refine sat_k (kpT g6 g7 (.slice A1 y.at_.length c1) (.slice A2 y.pages.length c2) (.slice A3 y.ops.length c3)) (kpU (.slice A1 y.at_.length c1) (.slice A2 y.pages.length c2) (F1 y) (F2 y) (F3 y) (F4 y)) mixed (by kernel_rfl) rfl (fun x => ?_) (ent_gone 8) ?_ ?_ ?_ ?_ ?_ ?_ ?_ ?_ ?_ ?_ ?_ ?_ ?_ ?_ ?_ ?_ ?_
    · cases x with
      | c k a b e d => cases k <;> cases a <;> cases b <;> cases e <;> cases d <;> kernel_rfl
      | _ => kernel_rfl
    · conv => whnf
      refine ⟨_, k6', rfl, ?_⟩
      conv => whnf
      exact ent_same rfl (aI rfl (aI rfl (aI rfl (aI rfl trivial)))) (aI trivial (aI trivial (aI trivial (aI trivial (aI trivial (aI trivial (aI trivial (aI trivial trivial))))))))
    · conv => whnf
      refine ⟨_, k6', rfl, ?_⟩
      conv => whnf
      exact ent_same rfl (aI rfl (aI rfl (aI rfl (aI rfl (aI rfl trivial))))) (aI trivial (aI trivial (aI trivial (aI trivial (aI trivial (aI trivial (aI trivial (aI trivial trivial))))))))
    · conv => whnf
      refine ⟨_, k6', rfl, ?_⟩
      conv => whnf
      exact ent_same rfl (aI rfl (aI rfl (aI rfl (aI rfl (aI rfl (aI rfl trivial)))))) (aI trivial (aI trivial (aI trivial (aI trivial (aI trivial (aI trivial (aI trivial (aI trivial trivial))))))))
    · conv => whnf
      refine ⟨_, k6', rfl, ?_⟩
      conv => whnf
      exact ent_same rfl (aI rfl (aI rfl (aI rfl (aI rfl (aI rfl (aI rfl (aI rfl (aI (by first | exact trivial | exact rfl) (aI (by first | exact trivial | exact rfl) (aI (by first | exact trivial | exact rfl) (aI (by first | exact trivial | exact rfl) (aI (by first | exact trivial | exact rfl) (aI (by first | exact trivial | exact rfl) (aI (by first | exact trivial | exact rfl) (aI (by first | exact trivial | exact rfl) trivial))))))))))))))) (aI trivial (aI trivial (aI trivial (aI trivial (aI trivial (aI trivial (aI trivial (aI trivial trivial))))))))
    · intro a b e d
      cases a <;> cases b <;> cases e <;> cases d <;> (
        conv => whnf
        refine call_pass_pl p1 (by kernel_rfl) hb.ok z1 rfl rfl rfl u1 u2 u3 m1 m2 ?_
        conv => whnf
        exact ent_ren [8, 1, 2, 3, 4, 5, 6, 7] (aI rfl (aI rfl (aI rfl (aI rfl (aI rfl (aI rfl (aI rfl (aI (by first | exact trivial | exact rfl) (aI (by first | exact trivial | exact rfl) (aI (by first | exact trivial | exact rfl) (aI (by first | exact trivial | exact rfl) (aI (by first | exact trivial | exact rfl) (aI (by first | exact trivial | exact rfl) (aI (by first | exact trivial | exact rfl) (aI (by first | exact trivial | exact rfl) trivial))))))))))))))) (aI (by first | exact ⟨_, rfl, trivial⟩ | exact ⟨_, rfl, rfl, rfl, rfl⟩ | exact ⟨_, rfl, rfl, Or.inl rfl⟩) (aI (by first | exact ⟨_, rfl, trivial⟩ | exact ⟨_, rfl, rfl, rfl, rfl⟩ | exact ⟨_, rfl, rfl, Or.inl rfl⟩) (aI (by first | exact ⟨_, rfl, trivial⟩ | exact ⟨_, rfl, rfl, rfl, rfl⟩ | exact ⟨_, rfl, rfl, Or.inl rfl⟩) (aI (by first | exact ⟨_, rfl, trivial⟩ | exact ⟨_, rfl, rfl, rfl, rfl⟩ | exact ⟨_, rfl, rfl, Or.inl rfl⟩) (aI (by first | exact ⟨_, rfl, trivial⟩ | exact ⟨_, rfl, rfl, rfl, rfl⟩ | exact ⟨_, rfl, rfl, Or.inl rfl⟩) (aI (by first | exact ⟨_, rfl, trivial⟩ | exact ⟨_, rfl, rfl, rfl, rfl⟩ | exact ⟨_, rfl, rfl, Or.inl rfl⟩) (aI (by first | exact ⟨_, rfl, trivial⟩ | exact ⟨_, rfl, rfl, rfl, rfl⟩ | exact ⟨_, rfl, rfl, Or.inl rfl⟩) (aI (by first | exact ⟨_, rfl, trivial⟩ | exact ⟨_, rfl, rfl, rfl, rfl⟩ | exact ⟨_, rfl, rfl, Or.inl rfl⟩) trivial)))))))) rfl rfl rfl rfl rfl)
    · intro a b e d
      cases a <;> cases b <;> cases e <;> cases d <;> (
        conv => whnf
        refine call_pass_pl p2 (by kernel_rfl) hb.ok z2 rfl rfl rfl u1 u2 u3 m1 m2 ?_
        conv => whnf
        exact ent_ren [0, 8, 2, 3, 4, 5, 6, 7] (aI rfl (aI rfl (aI rfl (aI rfl (aI rfl (aI rfl (aI rfl (aI (by first | exact trivial | exact rfl) (aI (by first | exact trivial | exact rfl) (aI (by first | exact trivial | exact rfl) (aI (by first | exact trivial | exact rfl) (aI (by first | exact trivial | exact rfl) (aI (by first | exact trivial | exact rfl) (aI (by first | exact trivial | exact rfl) (aI (by first | exact trivial | exact rfl) trivial))))))))))))))) (aI (by first | exact ⟨_, rfl, trivial⟩ | exact ⟨_, rfl, rfl, rfl, rfl⟩ | exact ⟨_, rfl, rfl, Or.inl rfl⟩) (aI (by first | exact ⟨_, rfl, trivial⟩ | exact ⟨_, rfl, rfl, rfl, rfl⟩ | exact ⟨_, rfl, rfl, Or.inl rfl⟩) (aI (by first | exact ⟨_, rfl, trivial⟩ | exact ⟨_, rfl, rfl, rfl, rfl⟩ | exact ⟨_, rfl, rfl, Or.inl rfl⟩) (aI (by first | exact ⟨_, rfl, trivial⟩ | exact ⟨_, rfl, rfl, rfl, rfl⟩ | exact ⟨_, rfl, rfl, Or.inl rfl⟩) (aI (by first | exact ⟨_, rfl, trivial⟩ | exact ⟨_, rfl, rfl, rfl, rfl⟩ | exact ⟨_, rfl, rfl, Or.inl rfl⟩) (aI (by first | exact ⟨_, rfl, trivial⟩ | exact ⟨_, rfl, rfl, rfl, rfl⟩ | exact ⟨_, rfl, rfl, Or.inl rfl⟩) (aI (by first | exact ⟨_, rfl, trivial⟩ | exact ⟨_, rfl, rfl, rfl, rfl⟩ | exact ⟨_, rfl, rfl, Or.inl rfl⟩) (aI (by first | exact ⟨_, rfl, trivial⟩ | exact ⟨_, rfl, rfl, rfl, rfl⟩ | exact ⟨_, rfl, rfl, Or.inl rfl⟩) trivial)))))))) rfl rfl rfl rfl rfl)
    · intro a b e d
      cases a <;> cases b <;> cases e <;> cases d <;> (
        conv => whnf
        refine call_pass_pl p3 (by kernel_rfl) hb.ok z3 rfl rfl rfl u1 u2 u3 m1 m2 ?_
        conv => whnf
        exact ent_ren [0, 1, 8, 3, 4, 5, 6, 7] (aI rfl (aI rfl (aI rfl (aI rfl (aI rfl (aI rfl (aI rfl (aI (by first | exact trivial | exact rfl) (aI (by first | exact trivial | exact rfl) (aI (by first | exact trivial | exact rfl) (aI (by first | exact trivial | exact rfl) (aI (by first | exact trivial | exact rfl) (aI (by first | exact trivial | exact rfl) (aI (by first | exact trivial | exact rfl) (aI (by first | exact trivial | exact rfl) trivial))))))))))))))) (aI (by first | exact ⟨_, rfl, trivial⟩ | exact ⟨_, rfl, rfl, rfl, rfl⟩ | exact ⟨_, rfl, rfl, Or.inl rfl⟩) (aI (by first | exact ⟨_, rfl, trivial⟩ | exact ⟨_, rfl, rfl, rfl, rfl⟩ | exact ⟨_, rfl, rfl, Or.inl rfl⟩) (aI (by first | exact ⟨_, rfl, trivial⟩ | exact ⟨_, rfl, rfl, rfl, rfl⟩ | exact ⟨_, rfl, rfl, Or.inl rfl⟩) (aI (by first | exact ⟨_, rfl, trivial⟩ | exact ⟨_, rfl, rfl, rfl, rfl⟩ | exact ⟨_, rfl, rfl, Or.inl rfl⟩) (aI (by first | exact ⟨_, rfl, trivial⟩ | exact ⟨_, rfl, rfl, rfl, rfl⟩ | exact ⟨_, rfl, rfl, Or.inl rfl⟩) (aI (by first | exact ⟨_, rfl, trivial⟩ | exact ⟨_, rfl, rfl, rfl, rfl⟩ | exact ⟨_, rfl, rfl, Or.inl rfl⟩) (aI (by first | exact ⟨_, rfl, trivial⟩ | exact ⟨_, rfl, rfl, rfl, rfl⟩ | exact ⟨_, rfl, rfl, Or.inl rfl⟩) (aI (by first | exact ⟨_, rfl, trivial⟩ | exact ⟨_, rfl, rfl, rfl, rfl⟩ | exact ⟨_, rfl, rfl, Or.inl rfl⟩) trivial)))))))) rfl rfl rfl rfl rfl)
    · intro a b e d
      cases a <;> cases b <;> cases e <;> cases d <;> (
        conv => whnf
        refine call_pass_pl p4 (by kernel_rfl) hb.ok z4 rfl rfl rfl u1 u2 u3 m1 m2 ?_
        conv => whnf
        exact ent_ren [0, 1, 2, 8, 4, 5, 6, 7] (aI rfl (aI rfl (aI rfl (aI rfl (aI rfl (aI rfl (aI rfl (aI (by first | exact trivial | exact rfl) (aI (by first | exact trivial | exact rfl) (aI (by first | exact trivial | exact rfl) (aI (by first | exact trivial | exact rfl) (aI (by first | exact trivial | exact rfl) (aI (by first | exact trivial | exact rfl) (aI (by first | exact trivial | exact rfl) (aI (by first | exact trivial | exact rfl) trivial))))))))))))))) (aI (by first | exact ⟨_, rfl, trivial⟩ | exact ⟨_, rfl, rfl, rfl, rfl⟩ | exact ⟨_, rfl, rfl, Or.inl rfl⟩) (aI (by first | exact ⟨_, rfl, trivial⟩ | exact ⟨_, rfl, rfl, rfl, rfl⟩ | exact ⟨_, rfl, rfl, Or.inl rfl⟩) (aI (by first | exact ⟨_, rfl, trivial⟩ | exact ⟨_, rfl, rfl, rfl, rfl⟩ | exact ⟨_, rfl, rfl, Or.inl rfl⟩) (aI (by first | exact ⟨_, rfl, trivial⟩ | exact ⟨_, rfl, rfl, rfl, rfl⟩ | exact ⟨_, rfl, rfl, Or.inl rfl⟩) (aI (by first | exact ⟨_, rfl, trivial⟩ | exact ⟨_, rfl, rfl, rfl, rfl⟩ | exact ⟨_, rfl, rfl, Or.inl rfl⟩) (aI (by first | exact ⟨_, rfl, trivial⟩ | exact ⟨_, rfl, rfl, rfl, rfl⟩ | exact ⟨_, rfl, rfl, Or.inl rfl⟩) (aI (by first | exact ⟨_, rfl, trivial⟩ | exact ⟨_, rfl, rfl, rfl, rfl⟩ | exact ⟨_, rfl, rfl, Or.inl rfl⟩) (aI (by first | exact ⟨_, rfl, trivial⟩ | exact ⟨_, rfl, rfl, rfl, rfl⟩ | exact ⟨_, rfl, rfl, Or.inl rfl⟩) trivial)))))))) rfl rfl rfl rfl rfl)
    · intro k b e d
      cases k <;> cases b <;> cases e <;> cases d <;> (
        conv => whnf
        exact ent_ren [0, 1, 2, 3, 8, 5, 6, 7] (aI rfl (aI rfl (aI rfl (aI rfl (aI rfl (aI rfl (aI rfl (aI (by first | exact trivial | exact rfl) (aI (by first | exact trivial | exact rfl) (aI (by first | exact trivial | exact rfl) (aI (by first | exact trivial | exact rfl) (aI (by first | exact trivial | exact rfl) (aI (by first | exact trivial | exact rfl) (aI (by first | exact trivial | exact rfl) (aI (by first | exact trivial | exact rfl) trivial))))))))))))))) (aI (by first | exact ⟨_, rfl, trivial⟩ | exact ⟨_, rfl, rfl, rfl, rfl⟩ | exact ⟨_, rfl, rfl, Or.inl rfl⟩) (aI (by first | exact ⟨_, rfl, trivial⟩ | exact ⟨_, rfl, rfl, rfl, rfl⟩ | exact ⟨_, rfl, rfl, Or.inl rfl⟩) (aI (by first | exact ⟨_, rfl, trivial⟩ | exact ⟨_, rfl, rfl, rfl, rfl⟩ | exact ⟨_, rfl, rfl, Or.inl rfl⟩) (aI (by first | exact ⟨_, rfl, trivial⟩ | exact ⟨_, rfl, rfl, rfl, rfl⟩ | exact ⟨_, rfl, rfl, Or.inl rfl⟩) (aI (by first | exact ⟨_, rfl, trivial⟩ | exact ⟨_, rfl, rfl, rfl, rfl⟩ | exact ⟨_, rfl, rfl, Or.inl rfl⟩) (aI (by first | exact ⟨_, rfl, trivial⟩ | exact ⟨_, rfl, rfl, rfl, rfl⟩ | exact ⟨_, rfl, rfl, Or.inl rfl⟩) (aI (by first | exact ⟨_, rfl, trivial⟩ | exact ⟨_, rfl, rfl, rfl, rfl⟩ | exact ⟨_, rfl, rfl, Or.inl rfl⟩) (aI (by first | exact ⟨_, rfl, trivial⟩ | exact ⟨_, rfl, rfl, rfl, rfl⟩ | exact ⟨_, rfl, rfl, Or.inl rfl⟩) trivial)))))))) rfl rfl rfl rfl rfl)
    · intro k a e d
      cases k <;> cases a <;> cases e <;> cases d <;> (
        conv => whnf
        exact ent_ren [0, 1, 2, 3, 4, 8, 6, 7] (aI rfl (aI rfl (aI rfl (aI rfl (aI rfl (aI rfl (aI rfl (aI (by first | exact trivial | exact rfl) (aI (by first | exact trivial | exact rfl) (aI (by first | exact trivial | exact rfl) (aI (by first | exact trivial | exact rfl) (aI (by first | exact trivial | exact rfl) (aI (by first | exact trivial | exact rfl) (aI (by first | exact trivial | exact rfl) (aI (by first | exact trivial | exact rfl) trivial))))))))))))))) (aI (by first | exact ⟨_, rfl, trivial⟩ | exact ⟨_, rfl, rfl, rfl, rfl⟩ | exact ⟨_, rfl, rfl, Or.inl rfl⟩) (aI (by first | exact ⟨_, rfl, trivial⟩ | exact ⟨_, rfl, rfl, rfl, rfl⟩ | exact ⟨_, rfl, rfl, Or.inl rfl⟩) (aI (by first | exact ⟨_, rfl, trivial⟩ | exact ⟨_, rfl, rfl, rfl, rfl⟩ | exact ⟨_, rfl, rfl, Or.inl rfl⟩) (aI (by first | exact ⟨_, rfl, trivial⟩ | exact ⟨_, rfl, rfl, rfl, rfl⟩ | exact ⟨_, rfl, rfl, Or.inl rfl⟩) (aI (by first | exact ⟨_, rfl, trivial⟩ | exact ⟨_, rfl, rfl, rfl, rfl⟩ | exact ⟨_, rfl, rfl, Or.inl rfl⟩) (aI (by first | exact ⟨_, rfl, trivial⟩ | exact ⟨_, rfl, rfl, rfl, rfl⟩ | exact ⟨_, rfl, rfl, Or.inl rfl⟩) (aI (by first | exact ⟨_, rfl, trivial⟩ | exact ⟨_, rfl, rfl, rfl, rfl⟩ | exact ⟨_, rfl, rfl, Or.inl rfl⟩) (aI (by first | exact ⟨_, rfl, trivial⟩ | exact ⟨_, rfl, rfl, rfl, rfl⟩ | exact ⟨_, rfl, rfl, Or.inl rfl⟩) trivial)))))))) rfl rfl rfl rfl rfl)
    · intro k a b d
      cases k <;> cases a <;> cases b <;> cases d <;> (
        conv => whnf
        exact ent_ren [0, 1, 2, 3, 4, 5, 8, 7] (aI rfl (aI rfl (aI rfl (aI rfl (aI rfl (aI rfl (aI rfl (aI (by first | exact trivial | exact rfl) (aI (by first | exact trivial | exact rfl) (aI (by first | exact trivial | exact rfl) (aI (by first | exact trivial | exact rfl) (aI (by first | exact trivial | exact rfl) (aI (by first | exact trivial | exact rfl) (aI (by first | exact trivial | exact rfl) (aI (by first | exact trivial | exact rfl) trivial))))))))))))))) (aI (by first | exact ⟨_, rfl, trivial⟩ | exact ⟨_, rfl, rfl, rfl, rfl⟩ | exact ⟨_, rfl, rfl, Or.inl rfl⟩) (aI (by first | exact ⟨_, rfl, trivial⟩ | exact ⟨_, rfl, rfl, rfl, rfl⟩ | exact ⟨_, rfl, rfl, Or.inl rfl⟩) (aI (by first | exact ⟨_, rfl, trivial⟩ | exact ⟨_, rfl, rfl, rfl, rfl⟩ | exact ⟨_, rfl, rfl, Or.inl rfl⟩) (aI (by first | exact ⟨_, rfl, trivial⟩ | exact ⟨_, rfl, rfl, rfl, rfl⟩ | exact ⟨_, rfl, rfl, Or.inl rfl⟩) (aI (by first | exact ⟨_, rfl, trivial⟩ | exact ⟨_, rfl, rfl, rfl, rfl⟩ | exact ⟨_, rfl, rfl, Or.inl rfl⟩) (aI (by first | exact ⟨_, rfl, trivial⟩ | exact ⟨_, rfl, rfl, rfl, rfl⟩ | exact ⟨_, rfl, rfl, Or.inl rfl⟩) (aI (by first | exact ⟨_, rfl, trivial⟩ | exact ⟨_, rfl, rfl, rfl, rfl⟩ | exact ⟨_, rfl, rfl, Or.inl rfl⟩) (aI (by first | exact ⟨_, rfl, trivial⟩ | exact ⟨_, rfl, rfl, rfl, rfl⟩ | exact ⟨_, rfl, rfl, Or.inl rfl⟩) trivial)))))))) rfl rfl rfl rfl rfl)
    · intro k a b e
      cases k <;> cases a <;> cases b <;> cases e <;> (
        conv => whnf
        exact ent_ren [0, 1, 2, 3, 4, 5, 6, 8] (aI rfl (aI rfl (aI rfl (aI rfl (aI rfl (aI rfl (aI rfl (aI (by first | exact trivial | exact rfl) (aI (by first | exact trivial | exact rfl) (aI (by first | exact trivial | exact rfl) (aI (by first | exact trivial | exact rfl) (aI (by first | exact trivial | exact rfl) (aI (by first | exact trivial | exact rfl) (aI (by first | exact trivial | exact rfl) (aI (by first | exact trivial | exact rfl) trivial))))))))))))))) (aI (by first | exact ⟨_, rfl, trivial⟩ | exact ⟨_, rfl, rfl, rfl, rfl⟩ | exact ⟨_, rfl, rfl, Or.inl rfl⟩) (aI (by first | exact ⟨_, rfl, trivial⟩ | exact ⟨_, rfl, rfl, rfl, rfl⟩ | exact ⟨_, rfl, rfl, Or.inl rfl⟩) (aI (by first | exact ⟨_, rfl, trivial⟩ | exact ⟨_, rfl, rfl, rfl, rfl⟩ | exact ⟨_, rfl, rfl, Or.inl rfl⟩) (aI (by first | exact ⟨_, rfl, trivial⟩ | exact ⟨_, rfl, rfl, rfl, rfl⟩ | exact ⟨_, rfl, rfl, Or.inl rfl⟩) (aI (by first | exact ⟨_, rfl, trivial⟩ | exact ⟨_, rfl, rfl, rfl, rfl⟩ | exact ⟨_, rfl, rfl, Or.inl rfl⟩) (aI (by first | exact ⟨_, rfl, trivial⟩ | exact ⟨_, rfl, rfl, rfl, rfl⟩ | exact ⟨_, rfl, rfl, Or.inl rfl⟩) (aI (by first | exact ⟨_, rfl, trivial⟩ | exact ⟨_, rfl, rfl, rfl, rfl⟩ | exact ⟨_, rfl, rfl, Or.inl rfl⟩) (aI (by first | exact ⟨_, rfl, trivial⟩ | exact ⟨_, rfl, rfl, rfl, rfl⟩ | exact ⟨_, rfl, rfl, Or.inl rfl⟩) trivial)))))))) rfl rfl rfl rfl rfl)
    · conv => whnf
      exact ent_same rfl (aI rfl (aI rfl (aI rfl (aI rfl (aI rfl (aI rfl (aI rfl (aI (by first | exact trivial | exact rfl) (aI (by first | exact trivial | exact rfl) (aI (by first | exact trivial | exact rfl) (aI (by first | exact trivial | exact rfl) (aI (by first | exact trivial | exact rfl) (aI (by first | exact trivial | exact rfl) (aI (by first | exact trivial | exact rfl) (aI (by first | exact trivial | exact rfl) trivial))))))))))))))) (aI (by first | exact ⟨rfl, Or.inl rfl⟩ | exact ⟨rfl, rfl, rfl⟩) (aI (by first | exact ⟨rfl, Or.inl rfl⟩ | exact ⟨rfl, rfl, rfl⟩) (aI (by first | exact ⟨rfl, Or.inl rfl⟩ | exact ⟨rfl, rfl, rfl⟩) (aI (by first | exact ⟨rfl, Or.inl rfl⟩ | exact ⟨rfl, rfl, rfl⟩) (aI (by first | exact ⟨rfl, Or.inl rfl⟩ | exact ⟨rfl, rfl, rfl⟩) (aI (by first | exact ⟨rfl, Or.inl rfl⟩ | exact ⟨rfl, rfl, rfl⟩) (aI (by first | exact ⟨rfl, Or.inl rfl⟩ | exact ⟨rfl, rfl, rfl⟩) (aI (by first | exact ⟨rfl, Or.inl rfl⟩ | exact ⟨rfl, rfl, rfl⟩) trivial))))))))
    · conv => whnf
      exact ent_same rfl (aI rfl (aI rfl (aI rfl (aI rfl (aI rfl (aI rfl (aI rfl (aI (by first | exact trivial | exact rfl) (aI (by first | exact trivial | exact rfl) (aI (by first | exact trivial | exact rfl) (aI (by first | exact trivial | exact rfl) (aI (by first | exact trivial | exact rfl) (aI (by first | exact trivial | exact rfl) (aI (by first | exact trivial | exact rfl) (aI (by first | exact trivial | exact rfl) trivial))))))))))))))) (aI (by first | exact ⟨rfl, Or.inl rfl⟩ | exact ⟨rfl, rfl, rfl⟩) (aI (by first | exact ⟨rfl, Or.inl rfl⟩ | exact ⟨rfl, rfl, rfl⟩) (aI (by first | exact ⟨rfl, Or.inl rfl⟩ | exact ⟨rfl, rfl, rfl⟩) (aI (by first | exact ⟨rfl, Or.inl rfl⟩ | exact ⟨rfl, rfl, rfl⟩) (aI (by first | exact ⟨rfl, Or.inl rfl⟩ | exact ⟨rfl, rfl, rfl⟩) (aI (by first | exact ⟨rfl, Or.inl rfl⟩ | exact ⟨rfl, rfl, rfl⟩) (aI (by first | exact ⟨rfl, Or.inl rfl⟩ | exact ⟨rfl, rfl, rfl⟩) (aI (by first | exact ⟨rfl, Or.inl rfl⟩ | exact ⟨rfl, rfl, rfl⟩) trivial))))))))
    · conv => whnf
      exact ent_same rfl (aI rfl (aI rfl (aI rfl (aI rfl (aI rfl (aI rfl (aI rfl (aI (by first | exact trivial | exact rfl) (aI (by first | exact trivial | exact rfl) (aI (by first | exact trivial | exact rfl) (aI (by first | exact trivial | exact rfl) (aI (by first | exact trivial | exact rfl) (aI (by first | exact trivial | exact rfl) (aI (by first | exact trivial | exact rfl) (aI (by first | exact trivial | exact rfl) trivial))))))))))))))) (aI (by first | exact ⟨rfl, Or.inl rfl⟩ | exact ⟨rfl, rfl, rfl⟩) (aI (by first | exact ⟨rfl, Or.inl rfl⟩ | exact ⟨rfl, rfl, rfl⟩) (aI (by first | exact ⟨rfl, Or.inl rfl⟩ | exact ⟨rfl, rfl, rfl⟩) (aI (by first | exact ⟨rfl, Or.inl rfl⟩ | exact ⟨rfl, rfl, rfl⟩) (aI (by first | exact ⟨rfl, Or.inl rfl⟩ | exact ⟨rfl, rfl, rfl⟩) (aI (by first | exact ⟨rfl, Or.inl rfl⟩ | exact ⟨rfl, rfl, rfl⟩) (aI (by first | exact ⟨rfl, Or.inl rfl⟩ | exact ⟨rfl, rfl, rfl⟩) (aI (by first | exact ⟨rfl, Or.inl rfl⟩ | exact ⟨rfl, rfl, rfl⟩) trivial))))))))
    · conv => whnf
      exact ent_same rfl (aI rfl (aI rfl (aI rfl (aI rfl (aI rfl (aI rfl (aI rfl (aI (by first | exact trivial | exact rfl) (aI (by first | exact trivial | exact rfl) (aI (by first | exact trivial | exact rfl) (aI (by first | exact trivial | exact rfl) (aI (by first | exact trivial | exact rfl) (aI (by first | exact trivial | exact rfl) (aI (by first | exact trivial | exact rfl) (aI (by first | exact trivial | exact rfl) trivial))))))))))))))) (aI (by first | exact ⟨rfl, Or.inl rfl⟩ | exact ⟨rfl, rfl, rfl⟩) (aI (by first | exact ⟨rfl, Or.inl rfl⟩ | exact ⟨rfl, rfl, rfl⟩) (aI (by first | exact ⟨rfl, Or.inl rfl⟩ | exact ⟨rfl, rfl, rfl⟩) (aI (by first | exact ⟨rfl, Or.inl rfl⟩ | exact ⟨rfl, rfl, rfl⟩) (aI (by first | exact ⟨rfl, Or.inl rfl⟩ | exact ⟨rfl, rfl, rfl⟩) (aI (by first | exact ⟨rfl, Or.inl rfl⟩ | exact ⟨rfl, rfl, rfl⟩) (aI (by first | exact ⟨rfl, Or.inl rfl⟩ | exact ⟨rfl, rfl, rfl⟩) (aI (by first | exact ⟨rfl, Or.inl rfl⟩ | exact ⟨rfl, rfl, rfl⟩) trivial))))))))
    · conv => whnf
      exact atq_mid () ent_refl
  refine satq_restart fun r w4 hR => ?_
  obtain ⟨g8, A8, c8, b8, k8, s8, m81, m82⟩ := own_blkView hR 4 0 (l := F1 y) rfl rfl
  obtain ⟨g9, A9, c9, b9, k9, s9, m91, m92⟩ := own_blkView hR 5 1 (l := F2 y) rfl rfl
  obtain ⟨g10, A10, c10, b10, k10, s10, m101, m102⟩ := own_blkView hR 6 2 (l := F3 y) rfl rfl
  obtain ⟨g11, A11, c11, b11, k11, s11, m111, m112⟩ := own_blkView hR 7 3 (l := F4 y) rfl rfl
  have hB3 : Below w.heap.size w w4 := hB2.trans (hR.toBelow.mono hB2.size)
  have k6 := cells_later k6' hR.toBelow
  have k7' := cells_later k7 hR.toBelow
  refine ⟨slotFr [(5, .bool true), (6, .pointer (some ⟨g6, 0, none⟩)), (7, .pointer (some ⟨g7, 0, none⟩)), (8, .pointer (some ⟨g8, 0, none⟩)), (9, .pointer (some ⟨g9, 0, none⟩)), (10, .pointer (some ⟨g10, 0, none⟩)), (11, .pointer (some ⟨g11, 0, none⟩))], fun a hf => slots_den ⟨slot_val hf rfl, slot_val hf rfl, slot_val hf rfl, slot_ref hf 8 rfl b8, slot_ref hf 9 rfl b9, slot_ref hf 10 rfl b10, slot_ref hf 11 rfl b11, trivial⟩, ?_⟩
  have v1 := sl_later u1 hR.toBelow
  have v2 := sl_later u2 hR.toBelow
  have v3 := sl_later u3 hR.toBelow
  have x1 := sl_later t1 hR.toBelow
  have x2 := sl_later t2 hR.toBelow
  have x3 := sl_later t3 hR.toBelow
  clear hR b8 b9 b10 b11 k6' k7 u1 u2 u3 t1 t2 t3
  refine satq_seq ?_
  refine sat_any (.q 0 (.q 1 (.alt 2 (.alt 3 (.q 4 (.q 5 (.q 6 (.alt 7 (.alt 8 (.q 9 (.q 10 (.q 11 (.q 12 (.alt 13 (.alt 14 (.q 15 (.q 16 (.q 17 (.q 18 (.alt 19 (.alt 20 (.q 21 (.q 22 .done)) .no) .no))))) .no) .no))))) .no) .no)))) .no) .no))) mixed (by kernel_rfl) (by kernel_rfl) ?_
  conv => whnf
  refine ⟨_, k8, rfl, ?_⟩
  conv => whnf
  refine ⟨_, k7', rfl, ?_⟩
  conv => whnf
  refine ⟨?_, trivial⟩
  conv => whnf
  refine call_pass_pl p1 (by kernel_rfl) hb.ok z1 rfl rfl rfl x1 x2 x3 m3 m4 ?_
  conv => whnf
  refine ⟨?_, trivial⟩
  conv => whnf
  refine call_same_two (b := ⟨y.at_, y.pages, F1 y⟩) 0 hb.ok.lat hb.ok.lpages (Nat.le_trans y1 ylen) rfl rfl rfl v1 v2 s8 x1 x2 rfl ?_
  conv => whnf
  refine ⟨_, k9, rfl, ?_⟩
  conv => whnf
  refine ⟨_, k7', rfl, ?_⟩
  conv => whnf
  refine ⟨?_, trivial⟩
  conv => whnf
  refine call_pass_pl p2 (by kernel_rfl) hb.ok z2 rfl rfl rfl x1 x2 x3 m3 m4 ?_
  conv => whnf
  refine ⟨?_, trivial⟩
  conv => whnf
  refine call_same_two (b := ⟨y.at_, y.pages, F2 y⟩) 1 hb.ok.lat hb.ok.lpages (Nat.le_trans y2 ylen) rfl rfl rfl v1 v2 s9 x1 x2 rfl ?_
  conv => whnf
  refine ⟨_, k10, rfl, ?_⟩
  conv => whnf
  refine ⟨_, k7', rfl, ?_⟩
  conv => whnf
  refine ⟨?_, trivial⟩
  conv => whnf
  refine call_pass_pl p3 (by kernel_rfl) hb.ok z3 rfl rfl rfl x1 x2 x3 m3 m4 ?_
  conv => whnf
  refine ⟨?_, trivial⟩
  conv => whnf
  refine call_same_two (b := ⟨y.at_, y.pages, F3 y⟩) 2 hb.ok.lat hb.ok.lpages (Nat.le_trans y3 ylen) rfl rfl rfl v1 v2 s10 x1 x2 rfl ?_
  conv => whnf
  refine ⟨_, k11, rfl, ?_⟩
  conv => whnf
  refine ⟨_, k7', rfl, ?_⟩
  conv => whnf
  refine ⟨?_, trivial⟩
  conv => whnf
  refine call_pass_pl p4 (by kernel_rfl) hb.ok z4 rfl rfl rfl x1 x2 x3 m3 m4 ?_
  conv => whnf
  refine ⟨?_, trivial⟩
  conv => whnf
  refine call_same_two (b := ⟨y.at_, y.pages, F4 y⟩) 3 hb.ok.lat hb.ok.lpages (Nat.le_trans y4 ylen) rfl rfl rfl v1 v2 s11 x1 x2 rfl ?_
  conv => whnf
  refine satq_vc ?_
  conv => whnf
  refine ⟨true, fun _ => ?_, ?_⟩
  · conv => whnf
    exact ⟨rfl, rfl, rfl, rfl, rfl⟩
  conv => whnf
  refine ⟨true, fun _ => ?_, ?_⟩
  · conv => whnf
    refine ⟨_, k6, rfl, ?_⟩
    conv => whnf
    refine ⟨_, k7', rfl, ?_⟩
    conv => whnf
    refine call_con rfl (by kernel_rfl) (fun r w' hR => same_ref A1 A2 A3 D1 D2 D3 c1 c2 c3 d1 d2 d3 y y w' hb.ok.lat hb.ok.lpages hb.ok.lops (sl_later v1 hR.toBelow) (sl_later v2 hR.toBelow) (sl_later v3 hR.toBelow) (sl_later x1 hR.toBelow) (sl_later x2 hR.toBelow) (sl_later x3 hR.toBelow)) ?_
    rw [sameB_self]
    conv => whnf
    exact ⟨rfl, rfl, rfl, rfl, rfl⟩
  conv => whnf
  refine atq_ret ?_
  conv => whnf
  exact fin_val rfl fun w' hB => ⟨rfl, hB3.trans (hB.mono hB3.size)⟩
end Go.Proofs.Ytmjfgnnefcimiaa
namespace Go.Proofs.Ytmjfgnnefcimiaa
open Go.ChangeShapes Go.WideShapes Go.ChangeAt Go.RowKit

set_option maxRecDepth 100000 in
theorem optKeeps_lifted (os : Os) (started : os.Started) (H : Type) (enc : TypeId × Value → H) :
    ReturnsInHanded {} Try.checked os 13 .any (Rows.optKeepsSpec.pre6 enc Try.prog Try.f13 Rows.optKeepsRow.domain false) (Rows.optKeepsSpec.post enc Try.prog Try.f13 false true false false) := by
  refine returnsInHanded_of_change (C := Try.checked) ownK started (by kernel_rfl) Try.func13
    (ChangeSpec.witness6 (enc := enc) (C := Try.checked) false ⟨#[], #[.slice none 0 0, .agg #[.int .i64 0, .int .i64 0, .int .i64 0]], []⟩ 8 (by kernel_rfl) (by kernel_rfl) (by kernel_rfl) (by kernel_rfl)) ?_
  intro W base args ds gs before hval0 hW hcnd _
  have hval : ∀ (j : Nat) t v, Try.f13.params[j]? = some t → args[j]? = some v → Value.okWide Try.prog W .any base t v := hval0
  have hW' := hW
  obtain ⟨p, q, hA0, hV, rfl, hfz, hnd⟩ := hW
  have hA : DataW.TrodAll enc Try.prog W 0 (fun _ => true) true Try.f13.params.toList args.toList ds p := hA0
  rw [Try.params13] at hA hval
  obtain ⟨v0, vs0, d0, ds0, p0, q0, hargs, rfl, rfl, h0, r0⟩ := trodAll_cons hA
  obtain ⟨v1, vs1, d1, ds1, p1, q1, rfl, rfl, rfl, h1, r1⟩ := trodAll_cons r0
  obtain ⟨rfl, rfl, rfl⟩ := trodAll_nil r1
  obtain rfl : args = #[v0, v1] := by cases args; simp_all
  obtain ⟨rfl, rfl⟩ := trodVars_none hV
  obtain ⟨a0, len0, cap0, rfl⟩ := okWide_slice Try.underlying22 (hval 0 22 v0 rfl rfl)
  have k0 := h0
  have k1 := h1
  have lt0 : ∀ x ∈ p0, x.block < W.heap.size := by obtain ⟨m, hm⟩ := k0; exact DataW.trod_lt m _ _ _ hm
  have lt1 : ∀ x ∈ p1, x.block < W.heap.size := by obtain ⟨m, hm⟩ := k1; exact DataW.trod_lt m _ _ _ hm
  obtain ⟨xs, w0, hl, hnc⟩ := open_sl h0
  obtain ⟨x, y, z, rfl⟩ := open_q (hval 1 23 v1 rfl rfl) h1
  clear hA0 hval0
  refine (keeps_law once_mu a0 len0 cap0 xs x y z W w0 hl hnc).mono fun e W' ⟨he, bel⟩ => ?_
  subst he
  exact ⟨_, rfl, _, _, _, [], _, [], hW', trodAll_mk1 (shut_bool Try.underlying4 _), (trodAll_cons_mk (Below.trod laidOutP (by kernel_rfl) (of_decide_eq_true (by kernel_rfl)) k0 bel lt0) (trodAll_cons_mk (Below.trod laidOutP (by kernel_rfl) (of_decide_eq_true (by kernel_rfl)) k1 bel lt1) trodAll_mk0)), rfl, bel.frame _, fun h => by cases h⟩
theorem optKeeps_holds : Rows.OptKeepsSaid :=
  OpenClaim.holds_of_wide 13 Try.f13 rfl rfl rfl rfl rfl rfl rfl ⟨rfl, rfl, rfl, rfl, rfl⟩ rfl rfl rfl rfl rfl (by kernel_rfl) Try.func13 (by kernel_rfl)
    (of_decide_eq_true (by kernel_rfl)) (by unfold Func.isWrapper; first | (rw [if_pos (by decide +kernel)]; kernel_rfl) | (rw [if_neg (by decide +kernel)]; exact ⟨rfl, rfl⟩))
    (fun os started H enc _ => optKeeps_lifted os started H enc)
end Go.Proofs.Ytmjfgnnefcimiaa
#print axioms Go.Proofs.Ytmjfgnnefcimiaa.optKeeps_holds
