/- In the result of Copies no operation reads a copy, and nothing is moved to itself: for every input, without any condition. -/
import Derived.Test.YtmjfgnnefcimiaaK1
import Derived.Test.YtmjfgnnefcimiaaK12
import Derived.Test.YtmjfgnnefcimiaaK13
import Derived.Test.YtmjfgnnefcimiaaK14
import Derived.Test.YtmjfgnnefcimiaaK15
import Derived.Test.YtmjfgnnefcimiaaK16
import Derived.Test.YtmjfgnnefcimiaaK17
import Derived.Test.YtmjfgnnefcimiaaK18
import Derived.Test.YtmjfgnnefcimiaaK19
import Derived.Test.YtmjfgnnefcimiaaK20
import Derived.Test.YtmjfgnnefcimiaaK21
import Derived.Test.YtmjfgnnefcimiaaK22
import Derived.Test.YtmjfgnnefcimiaaK23
import Derived.Test.YtmjfgnnefcimiaaK24
import Derived.Test.YtmjfgnnefcimiaaK25
import Derived.Test.YtmjfgnnefcimiaaK26
import Derived.Test.YtmjfgnnefcimiaaK27
import Derived.Test.YtmjfgnnefcimiaaK28
import Derived.Test.YtmjfgnnefcimiaaK29
import Derived.Test.YtmjfgnnefcimiaaK3
import Derived.Test.YtmjfgnnefcimiaaK5
import Derived.Test.YtmjfgnnefcimiaaK6
namespace Go.Proofs.Ytmjfgnnefcimiaa
open Go.RowKit

section
variable {w0 : World} {S : List Ow} {K : AV → List Ow → Prop} {b : Blk} {A1 A2 A3 : Option Addr} {n1 n2 n3 c1 c2 c3 : Nat}
/-- A pass over a block in plain memory. -/
theorem call_pass_pl {P : Program} {fid : FuncId} {F : Blk → List BOp} (hp : Pass P fid F) (hok : fnOk P fid = true) (hb : b.ok) (h0 : b.ops = [] → F b = []) (hn1 : b.at_.length = n1) (hn2 : b.pages.length = n2) (hn3 : b.ops.length = n3)
    (h1 : SlAt w0 w0.heap.size A1 (b.at_.map (.int .u32))) (h2 : SlAt w0 w0.heap.size A2 (b.pages.map (.int .i64))) (h3 : OpsAt w0 w0.heap.size A3 b.ops) (hc3 : n3 ≤ c3) (hm3 : c3 ≤ maxLen)
    (hK : K (.p (.agg [.v (.slice A1 n1 c1), .v (.slice A2 n2 c2), .row S.length])) (S ++ [.view viewT (F b).length ((F b).flatMap opC)])) :
    CallS P w0 Gs.nil fid [.p (.agg [.v (.slice A1 n1 c1), .v (.slice A2 n2 c2), .v (.slice A3 n3 c3)])] S K := by
  subst hn1; subst hn2; subst hn3
  refine ⟨hok, fun r w us hR hd => ?_⟩
  obtain ⟨u1, l1, rfl, d1, d2⟩ := hd
  obtain rfl : l1 = [] := d2
  obtain rfl := AV.val_den (x := .agg #[.slice A1 b.at_.length c1, .slice A2 b.pages.length c2, .slice A3 b.ops.length c3]) rfl d1
  refine (hp b A1 A2 A3 c1 c2 c3 w hb (sl_later h1 hR.toBelow) (sl_later h2 hR.toBelow) (sl_later h3 hR.toBelow) hc3 hm3).mono fun e w' ⟨A', c', he, ho, k1, k2, k3, hB⟩ => ?_
  refine ⟨.p (.agg [.v (.slice A1 b.at_.length c1), .v (.slice A2 b.pages.length c2), .row S.length]), _, _, r.set S.length none (some (.slice A' (F b).length c')), he, ⟨[.slice A1 b.at_.length c1, .slice A2 b.pages.length c2, .slice A' (F b).length c'], rfl, ?_⟩,
    hR.snoc (o := .view viewT (F b).length ((F b).flatMap opC)) hB (b := none) nofun ⟨A', c', by simp [Env.set], k1, ⟨k2, trivial⟩, by simp [Env.set], fun j u hj => ?_⟩, hR.le_new _ _, hK⟩
  · simp only [denL, CV.den]
    exact ⟨_, _, rfl, rfl, _, _, rfl, rfl, _, _, rfl, by simp [Env.set], rfl⟩
  · obtain ⟨b', off, e4, e5, e6⟩ := ho j u hj
    refine ⟨b', off, e4, e5, fun q hq => ?_, e6⟩
    simp only [Env.set] at hq
    split at hq
    · cases hq
    · rcases k3 with k3 | rfl
      · have := k3 b' off none e4
        have := (hR.new q b' hq).1
        omega
      · have hpos : 0 < b.ops.length := by
          rcases Nat.eq_zero_or_pos b.ops.length with h | h
          · rw [h0 (List.eq_nil_of_length_eq_zero h)] at hj; simp at hj
          · exact h
        have h5 := ops_lt (e4 ▸ h3) hpos
        exact absurd ((hR.new q b' hq).2 h5) (by simp)
/-- A call whose argument is a block with its operations in a view. -/
theorem call_blkV {fid : FuncId} (i : Nat) {φ : Option Addr → Prop} {n : Nat} {xs : List Value} {x : Value} {s1 s2 : Value} (hi : S[i]? = some (.view φ n xs)) (hok : fnOk Try.prog fid = true)
    (h : ∀ r w A c, Rel w0 Gs.nil S r w → SlAt w w.heap.size A xs → n ≤ c → c ≤ maxLen → Calls Try.prog fid #[.agg #[s1, s2, .slice A n c]] w fun e w' => e = .returned x ∧ Below w.heap.size w w') (hK : K (AV.of x) S) :
    CallS Try.prog w0 Gs.nil fid [.p (.agg [.v s1, .v s2, .row i])] S K := by
  refine callS_val x hok (fun r w us hR hd => ?_) hK
  obtain ⟨u1, l1, rfl, d1, d2⟩ := hd
  obtain rfl : l1 = [] := d2
  obtain ⟨us, rfl, hl'⟩ := den_agg d1
  simp only [denL, CV.den] at hl'
  obtain ⟨u1, l1, rfl, rfl, u2, l2, rfl, rfl, u3, l3, rfl, e3, rfl⟩ := hl'
  obtain ⟨A, c, rfl, s, k1, k2, _⟩ := viewAt hR hi e3
  exact h r w A c hR s k1 k2
theorem call_blkV2 {fid : FuncId} (i : Nat) {φ : Option Addr → Prop} {n : Nat} {xs : List Value} {x : Value} {s1 s2 t1 t2 t3 : Value} (hi : S[i]? = some (.view φ n xs)) (hok : fnOk Try.prog fid = true)
    (h : ∀ r w A c, Rel w0 Gs.nil S r w → SlAt w w.heap.size A xs → n ≤ c → c ≤ maxLen → Calls Try.prog fid #[.agg #[t1, t2, t3], .agg #[s1, s2, .slice A n c]] w fun e w' => e = .returned x ∧ Below w.heap.size w w') (hK : K (AV.of x) S) :
    CallS Try.prog w0 Gs.nil fid [.p (.agg [.v t1, .v t2, .v t3]), .p (.agg [.v s1, .v s2, .row i])] S K := by
  refine callS_val x hok (fun r w us hR hd => ?_) hK
  obtain ⟨u1, l1, rfl, d1, u2, l2, rfl, d2, d3⟩ := hd
  obtain rfl : l2 = [] := d3
  obtain rfl := AV.val_den (x := .agg #[t1, t2, t3]) rfl d1
  obtain ⟨us, rfl, hl'⟩ := den_agg d2
  simp only [denL, CV.den] at hl'
  obtain ⟨u1, l1, rfl, rfl, u2, l2, rfl, rfl, u3, l3, rfl, e3, rfl⟩ := hl'
  obtain ⟨A, c, rfl, s, k1, k2, _⟩ := viewAt hR hi e3
  exact h r w A c hR s k1 k2
end
theorem sameB_self (b : Blk) : sameB b b = true := by simp [sameB]
end Go.Proofs.Ytmjfgnnefcimiaa
namespace Go.Proofs.Ytmjfgnnefcimiaa
open Go.RowKit

theorem temporary_ref (v : Int) (w : World) : Calls Try.prog 84 #[.int .i64 v] w fun e w' => e = .returned (.bool (decide (20 ≤ v))) ∧ Below w.heap.size w w' := by
  refine calls_val [.int .i64 v] Try.func84 Try.ntmps84 rfl (by simp) ?_
  conv => whnf
  exact fin_val rfl fun w' hB => ⟨rfl, hB⟩
theorem take_rev {l : List BOp} {k : Nat} {o : BOp} (h : l[k]? = some o) : (l.take (k + 1)).reverse = o :: (l.take k).reverse := by rw [take_succ_of h, List.reverse_append]; rfl
end Go.Proofs.Ytmjfgnnefcimiaa
namespace Go.Proofs.Ytmjfgnnefcimiaa
open Go.RowKit

/-- The variable of which v is a copy behind these operations, the last first; or -1. m: a mark has been passed; sk: what has been passed. -/
def copyF : Bool → List BOp → List BOp → Int → Int
  | _, [], _, _ => -1
  | m, o :: r, sk, v => if writes o = v then (if o.code ≠ 2 ∨ o.a = v then -1 else if m = true ∧ (20 ≤ v ∨ 20 ≤ o.a) then -1 else if (sk.any fun p => writes p == o.a) = true then -1 else o.a) else copyF (m || o.code == 20) r (o :: sk) v
def copyR (r : List BOp) (v : Int) : Int := copyF false r [] v
theorem copyF_gen : ∀ (r : List BOp) (m : Bool) (sk : List BOp) (v : Int), (∀ o ∈ r, o.code = 2 → 0 ≤ o.a) → copyF m r sk v = if copyR r v < 0 then -1 else if m = true ∧ (20 ≤ v ∨ 20 ≤ copyR r v) then -1 else if (sk.any fun p => writes p == copyR r v) = true then -1 else copyR r v
  | [], m, sk, v, _ => rfl
  | o :: r, m, sk, v, h => by
    have ho := h o (by simp)
    have hr : ∀ p ∈ r, p.code = 2 → 0 ≤ p.a := fun p hp => h p (by simp [hp])
    have e1 : copyF m (o :: r) sk v = if writes o = v then (if o.code ≠ 2 ∨ o.a = v then -1 else if m = true ∧ (20 ≤ v ∨ 20 ≤ o.a) then -1 else if (sk.any fun p => writes p == o.a) = true then -1 else o.a) else copyF (m || o.code == 20) r (o :: sk) v := rfl
    have e2 : copyR (o :: r) v = if writes o = v then (if o.code ≠ 2 ∨ o.a = v then -1 else o.a) else copyF (o.code == 20) r [o] v := by
      show copyF false (o :: r) [] v = _
      show (if writes o = v then (if o.code ≠ 2 ∨ o.a = v then -1 else if false = true ∧ (20 ≤ v ∨ 20 ≤ o.a) then -1 else if (([] : List BOp).any fun p => writes p == o.a) = true then -1 else o.a) else copyF (false || o.code == 20) r [o] v) = _
      rw [if_neg (show ¬ (false = true ∧ (20 ≤ v ∨ 20 ≤ o.a)) by simp), if_neg (show ¬ (([] : List BOp).any fun p => writes p == o.a) = true by simp), Bool.false_or]
    rw [e1]
    by_cases hw : writes o = v
    · rw [if_pos hw] at e2 ⊢
      by_cases hc : o.code ≠ 2 ∨ o.a = v
      · rw [if_pos hc] at e2 ⊢
        rw [e2]; rfl
      · rw [if_neg hc] at e2 ⊢
        have h0 := ho (by
          rcases Decidable.em (o.code = 2) with h | h
          · exact h
          · exact absurd (.inl h) hc)
        rw [e2, if_neg (show ¬ o.a < 0 by omega)]
    · rw [if_neg hw] at e2 ⊢
      rw [copyF_gen r _ _ v hr] at e2
      rw [copyF_gen r _ _ v hr]
      generalize copyR r v = w0 at e2 ⊢
      by_cases h0 : w0 < 0
      · rw [if_pos h0] at e2 ⊢
        rw [e2]; rfl
      · rw [if_neg h0] at e2 ⊢
        by_cases hk : (o.code == 20) = true
        · rw [hk] at e2 ⊢
          by_cases ht : 20 ≤ v ∨ 20 ≤ w0
          · rw [if_pos ⟨rfl, ht⟩] at e2
            rw [e2, if_pos ⟨by simp, ht⟩]; rfl
          · have n0 : ¬ (true = true ∧ (20 ≤ v ∨ 20 ≤ w0)) := fun h => ht h.2
            have n1 : ¬ ((m || true) = true ∧ (20 ≤ v ∨ 20 ≤ w0)) := fun h => ht h.2
            have n2 : ¬ (m = true ∧ (20 ≤ v ∨ 20 ≤ w0)) := fun h => ht h.2
            rw [if_neg n0] at e2
            rw [if_neg n1]
            by_cases hwo : writes o = w0
            · rw [if_pos (by simp [hwo])] at e2
              rw [e2, if_pos (show ((o :: sk).any fun p => writes p == w0) = true by simp [hwo])]; rfl
            · rw [if_neg (by simp [hwo])] at e2
              have : ((o :: sk).any fun p => writes p == w0) = (sk.any fun p => writes p == w0) := by rw [List.any_cons, show (writes o == w0) = false by simp [hwo], Bool.false_or]
              rw [e2, if_neg (show ¬ w0 < 0 from h0), if_neg n2, this]
        · have hk' : (o.code == 20) = false := by simpa using hk
          rw [hk'] at e2 ⊢
          rw [if_neg (show ¬ (false = true ∧ (20 ≤ v ∨ 20 ≤ w0)) by simp)] at e2
          rw [Bool.or_false]
          by_cases hwo : writes o = w0
          · rw [if_pos (by simp [hwo])] at e2
            rw [e2, if_pos (show ((o :: sk).any fun p => writes p == w0) = true by simp [hwo])]
            by_cases hm : m = true ∧ (20 ≤ v ∨ 20 ≤ w0)
            · rw [if_pos hm]; rfl
            · rw [if_neg hm]; rfl
          · rw [if_neg (by simp [hwo])] at e2
            rw [e2, if_neg (show ¬ w0 < 0 from h0)]
            have : ((o :: sk).any fun p => writes p == w0) = (sk.any fun p => writes p == w0) := by rw [List.any_cons, show (writes o == w0) = false by simp [hwo], Bool.false_or]
            rw [this]
theorem copyR_cons {r : List BOp} (h : ∀ o ∈ r, o.code = 2 → 0 ≤ o.a) (o : BOp) (v : Int) : copyR (o :: r) v = if writes o = v then (if o.code ≠ 2 ∨ o.a = v then -1 else o.a) else if copyR r v < 0 then -1 else if o.code = 20 ∧ (20 ≤ v ∨ 20 ≤ copyR r v) then -1 else if writes o = copyR r v then -1 else copyR r v := by
  show (if writes o = v then (if o.code ≠ 2 ∨ o.a = v then -1 else if false = true ∧ (20 ≤ v ∨ 20 ≤ o.a) then -1 else if (([] : List BOp).any fun p => writes p == o.a) = true then -1 else o.a) else copyF (false || o.code == 20) r [o] v) = _
  rw [if_neg (show ¬ (false = true ∧ (20 ≤ v ∨ 20 ≤ o.a)) by simp), if_neg (show ¬ (([] : List BOp).any fun p => writes p == o.a) = true by simp), Bool.false_or, copyF_gen r _ _ v h]
  simp only [List.any_cons, List.any_nil, Bool.or_false, beq_iff_eq]
/-- Whether no operation reads a copy, and nothing is moved to itself. -/
def copiedR : List BOp → List BOp → Bool
  | _, [] => true
  | r, o :: l => ((reads o).all fun v => decide (copyR r v < 0)) && !(o.code == 2 && o.d == o.a) && copiedR (o :: r) l
def copiedL (l : List BOp) : Bool := copiedR [] l
/-- The map says what is a copy; its values are no copies. -/
structure CopyIs (s : Int → Option Int) (r : List BOp) : Prop where
  fm : ∀ o ∈ r, o.code = 2 → 0 ≤ o.a
  some_ : ∀ v w, 0 ≤ v → v < 28 → s v = some w → copyR r v = w ∧ 0 ≤ w ∧ w < 28
  none_ : ∀ v, 0 ≤ v → v < 28 → s v = none → copyR r v < 0
  flat : ∀ v w, s v = some w → s w = none
theorem copyIs_nil : CopyIs noneF [] := ⟨nofun, nofun, fun v _ _ _ => by show (-1 : Int) < 0; omega, nofun⟩
theorem copyIs_mark {s : Int → Option Int} {r : List BOp} (h : CopyIs s r) {o : BOp} (ho : o.code = 20) : CopyIs (copyMark s o) (o :: r) := by
  have hw : writes o = -1 := by unfold writes; rw [ho]; rfl
  have hm : ∀ v, copyMark s o v = (fdel s 8 v).filter fun w => !decide (20 ≤ w) := fun v => by unfold copyMark; rw [if_pos (by simp [ho])]
  have hc : ∀ v, 0 ≤ v → copyR (o :: r) v = if copyR r v < 0 then -1 else if 20 ≤ v ∨ 20 ≤ copyR r v then -1 else copyR r v := fun v hv => by
    rw [copyR_cons h.fm, if_neg (by omega)]
    by_cases h0 : copyR r v < 0
    · rw [if_pos h0, if_pos h0]
    · rw [if_neg h0, if_neg h0]
      by_cases ht : 20 ≤ v ∨ 20 ≤ copyR r v
      · rw [if_pos ⟨ho, ht⟩, if_pos ht]
      · rw [if_neg (fun h => ht h.2), if_neg ht, if_neg (by omega)]
  refine ⟨fun p hp => ?_, fun v w v0 v1 hv => ?_, fun v v0 v1 hv => ?_, fun v w hv => ?_⟩
  · rcases List.mem_cons.1 hp with rfl | hp
    · intro h2; omega
    · exact h.fm p hp
  · rw [hm] at hv
    obtain ⟨h1, h2⟩ := Option.filter_eq_some_iff.1 hv
    unfold fdel at h1
    split at h1
    · cases h1
    · rename_i hnt
      obtain ⟨e1, e2, e3⟩ := h.some_ v w v0 v1 h1
      have h2 : ¬ 20 ≤ w := by simpa using h2
      refine ⟨?_, e2, e3⟩
      rw [hc v v0, e1, if_neg (by omega), if_neg (by omega)]
  · rw [hc v v0]
    cases hs : s v with
    | none => rw [if_pos (h.none_ v v0 v1 hs)]; omega
    | some w =>
      obtain ⟨e1, e2, e3⟩ := h.some_ v w v0 v1 hs
      rw [e1, if_neg (by omega)]
      have : 20 ≤ v ∨ 20 ≤ w := by
        rcases Decidable.em (20 ≤ v ∨ 20 ≤ w) with h1 | h1
        · exact h1
        · exfalso
          rw [hm] at hv
          unfold fdel at hv
          rw [if_neg (by omega), hs] at hv
          rw [Option.filter_some_pos (by simp; omega)] at hv
          cases hv
      rw [if_pos this]; omega
  · rw [hm] at hv ⊢
    obtain ⟨h1, h2⟩ := Option.filter_eq_some_iff.1 hv
    unfold fdel at h1
    split at h1
    · cases h1
    · have := h.flat v w h1
      unfold fdel
      split
      · rfl
      · rw [this]; rfl
theorem copyMark_not (s : Int → Option Int) {o : BOp} (ho : o.code ≠ 20) : copyMark s o = s := by unfold copyMark; rw [if_neg (by simpa using ho)]
theorem copyIs_upd {s : Int → Option Int} {r : List BOp} (h : CopyIs s r) {p : BOp} (hp : p.code ≠ 20) (hskip : copySkip p = false) (ha : p.code = 2 → 0 ≤ p.a ∧ p.a < 28 ∧ s p.a = none) : CopyIs (copyUpd s p) (p :: r) := by
  have hc : ∀ v, copyR (p :: r) v = if writes p = v then (if p.code ≠ 2 ∨ p.a = v then -1 else p.a) else if copyR r v < 0 then -1 else if writes p = copyR r v then -1 else copyR r v := fun v => by
    rw [copyR_cons h.fm]
    by_cases hw : writes p = v
    · rw [if_pos hw, if_pos hw]
    · rw [if_neg hw, if_neg hw]
      by_cases h0 : copyR r v < 0
      · rw [if_pos h0, if_pos h0]
      · rw [if_neg h0, if_neg h0, if_neg (fun h => hp h.1)]
  have hfm : ∀ o ∈ p :: r, o.code = 2 → 0 ≤ o.a := fun o ho h2 => by
    rcases List.mem_cons.1 ho with rfl | ho
    · exact (ha h2).1
    · exact h.fm o ho h2
  have hw2 : p.code = 2 → writes p = p.d := fun h2 => by unfold writes; rw [h2]; rfl
  by_cases hd : writes p < 0
  · have hu : copyUpd s p = s := by unfold copyUpd; rw [if_pos hd]
    rw [hu]
    refine ⟨hfm, fun v w v0 v1 hv => ?_, fun v v0 v1 hv => ?_, h.flat⟩
    · obtain ⟨e1, e2, e3⟩ := h.some_ v w v0 v1 hv
      rw [hc, if_neg (by omega), e1, if_neg (by omega), if_neg (by omega)]
      exact ⟨rfl, e2, e3⟩
    · rw [hc, if_neg (by omega), if_pos (h.none_ v v0 v1 hv)]; omega
  have hkS : ∀ v w, copyKill s (writes p) v = some w ↔ (v ≠ writes p ∧ s v = some w ∧ w ≠ writes p) := fun v w => by
    unfold copyKill mdel
    constructor
    · intro hv
      obtain ⟨h1, h2⟩ := Option.filter_eq_some_iff.1 hv
      split at h1
      · cases h1
      · exact ⟨by assumption, h1, by simpa using h2⟩
    · rintro ⟨h1, h2, h3⟩
      rw [if_neg h1]
      exact Option.filter_eq_some_iff.2 ⟨h2, by simpa using h3⟩
  have hkN : ∀ v, copyKill s (writes p) v = none → v ≠ writes p → s v = none ∨ s v = some (writes p) := fun v hv hne => by
    cases hs : s v with
    | none => exact .inl rfl
    | some w =>
      right
      by_cases hw : w = writes p
      · rw [hw]
      · have := (hkS v w).2 ⟨hne, hs, hw⟩
        rw [hv] at this; cases this
  have base_some : ∀ v w, 0 ≤ v → v < 28 → copyKill s (writes p) v = some w → copyR (p :: r) v = w ∧ 0 ≤ w ∧ w < 28 := fun v w v0 v1 hv => by
    obtain ⟨h1, h2, h3⟩ := (hkS v w).1 hv
    obtain ⟨e1, e2, e3⟩ := h.some_ v w v0 v1 h2
    rw [hc, if_neg (fun e => h1 e.symm), e1, if_neg (by omega), if_neg (fun e => h3 e.symm)]
    exact ⟨rfl, e2, e3⟩
  have base_none : ∀ v, 0 ≤ v → v < 28 → v ≠ writes p → copyKill s (writes p) v = none → copyR (p :: r) v < 0 := fun v v0 v1 hne hv => by
    rw [hc, if_neg (fun e => hne e.symm)]
    rcases hkN v hv hne with h1 | h1
    · rw [if_pos (h.none_ v v0 v1 h1)]; omega
    · obtain ⟨e1, e2, e3⟩ := h.some_ v _ v0 v1 h1
      rw [e1, if_neg (by omega), if_pos rfl]; omega
  by_cases h2 : p.code = 2
  · have hu : copyUpd s p = mput (copyKill s (writes p)) (writes p) p.a := by unfold copyUpd; rw [if_neg hd, if_pos (by simp [h2])]
    obtain ⟨a0, a1, a2⟩ := ha h2
    have hne : p.a ≠ writes p := fun e => by
      unfold copySkip at hskip
      rw [h2, e, hw2 h2] at hskip
      simp at hskip
    rw [hu]
    refine ⟨hfm, fun v w v0 v1 hv => ?_, fun v v0 v1 hv => ?_, fun v w hv => ?_⟩
    · unfold mput at hv
      split at hv
      · rename_i hvd
        injection hv with hv; subst hv
        rw [hc, if_pos hvd.symm, if_neg (by rw [hvd]; intro h; rcases h with h | h; exact h h2; exact hne h)]
        exact ⟨rfl, a0, a1⟩
      · exact base_some v w v0 v1 hv
    · unfold mput at hv
      split at hv
      · cases hv
      · rename_i hvd
        exact base_none v v0 v1 hvd hv
    · unfold mput at hv ⊢
      split at hv
      · injection hv with hv; subst hv
        rw [if_neg hne]
        cases hk : copyKill s (writes p) p.a with
        | none => rfl
        | some u => have := ((hkS _ u).1 hk).2.1; rw [a2] at this; cases this
      · obtain ⟨k1, k2, k3⟩ := (hkS v w).1 hv
        rw [if_neg k3]
        cases hk : copyKill s (writes p) w with
        | none => rfl
        | some u => have := ((hkS _ u).1 hk).2.1; rw [h.flat v w k2] at this; cases this
  · have hu : copyUpd s p = copyKill s (writes p) := by unfold copyUpd; rw [if_neg hd, if_neg (by simp [h2])]
    rw [hu]
    refine ⟨hfm, fun v w v0 v1 hv => base_some v w v0 v1 hv, fun v v0 v1 hv => ?_, fun v w hv => ?_⟩
    · by_cases hvd : v = writes p
      · rw [hc, if_pos hvd.symm, if_pos (.inl h2)]; omega
      · exact base_none v v0 v1 hvd hv
    · obtain ⟨k1, k2, k3⟩ := (hkS v w).1 hv
      cases hk : copyKill s (writes p) w with
      | none => rfl
      | some u => have := ((hkS _ u).1 hk).2.1; rw [h.flat v w k2] at this; cases this
/-- What an operand is replaced by. -/
theorem orig_ok {s : Int → Option Int} {r : List BOp} (h : CopyIs s r) {v : Int} (v0 : 0 ≤ v) (v1 : v < 28) : copyR r (origS s true v) < 0 ∧ 0 ≤ origS s true v ∧ origS s true v < 28 ∧ s (origS s true v) = none := by
  unfold origS
  cases hs : s v with
  | none => simp; exact ⟨h.none_ v v0 v1 hs, v0, v1, hs⟩
  | some w =>
    simp
    obtain ⟨e1, e2, e3⟩ := h.some_ v w v0 v1 hs
    exact ⟨h.none_ w e2 e3 (h.flat v w hs), e2, e3, h.flat v w hs⟩
theorem two_hasB (c : Int) : twoB c = hasB c := by
  unfold twoB hasB isBin
  rw [Bool.eq_iff_iff]; simp; omega
theorem copyRun_copied : ∀ (l : List BOp) (s : Int → Option Int) (r : List BOp), (∀ o ∈ l, formedB o = true) → CopyIs s r → copiedR r (copyRun s l) = true
  | [], s, r, _, _ => rfl
  | o :: l, s, r, hl, h => by
    have hf := hl o (by simp)
    have hl' : ∀ p ∈ l, formedB p = true := fun p hp => hl p (by simp [hp])
    unfold copyRun
    by_cases ho : o.code = 20
    · have hm := copyIs_mark h ho
      have hA : hasA o.code = false := by rw [ho]; rfl
      have hT : twoB o.code = false := by rw [ho]; rfl
      have he : copyOp (copyMark s o) o = o := by
        unfold copyOp
        rw [hT, show (o.code != 20) = false by simp [ho], Bool.and_false]
        rfl
      have hs : copySkip o = false := by unfold copySkip; rw [ho]; rfl
      have hu : copyUpd (copyMark s o) o = copyMark s o := by
        unfold copyUpd
        have hw : writes o = -1 := by unfold writes; rw [ho]; rfl
        rw [if_pos (by omega)]
      rw [he, if_neg (by rw [hs]; decide), hu]
      show (((reads o).all fun v => decide (copyR r v < 0)) && !(o.code == 2 && o.d == o.a) && copiedR (o :: r) _) = true
      have hr : reads o = [] := by unfold reads; rw [ho]; rfl
      rw [hr, show (o.code == 2) = false by simp [ho], copyRun_copied l _ _ hl' hm]; rfl
    · rw [copyMark_not s ho]
      by_cases hs : copySkip (copyOp s o) = true
      · rw [if_pos hs]
        exact copyRun_copied l s r hl' h
      · rw [if_neg hs]
        have hs' : copySkip (copyOp s o) = false := by simpa using hs
        have hmem : hasA o.code = true → memI o.a (reads o) = true := fun hA => by unfold memI reads; rw [hA]; simp
        have hfa : hasA o.code = true → 0 ≤ o.a ∧ o.a < 28 := fun hA => reads_var hf o.a (by unfold reads; rw [hA]; simp)
        have hfb : hasB o.code = true → 0 ≤ o.b ∧ o.b < 28 := fun hB => by
          have hA : hasA o.code = true := by unfold hasB at hB; unfold hasA; rw [decide_eq_true_eq] at hB ⊢; omega
          by_cases hba : o.b = o.a
          · rw [hba]; exact hfa hA
          · exact reads_var hf o.b (by unfold reads; rw [hA, hB, show (o.b == o.a) = false by simp [hba]]; simp)
        have ea : hasA o.code = true → (copyOp s o).a = origS s true o.a := fun hA => by
          show origS s (memI o.a (reads o) && o.code != 20) o.a = _
          rw [hmem hA, show (o.code != 20) = true by simp [ho]]; rfl
        have eb : hasB o.code = true → (copyOp s o).b = origS s true o.b := fun hB => by
          show origS s (twoB o.code) o.b = _
          rw [two_hasB, hB]
        have hread : ∀ v ∈ reads (copyOp s o), copyR r v < 0 := fun v hv => by
          unfold reads at hv
          rcases List.mem_append.1 hv with hv | hv
          · split at hv
            · rename_i hA
              have hA : hasA o.code = true := hA
              simp at hv
              rw [hv, ea hA]
              exact (orig_ok h (hfa hA).1 (hfa hA).2).1
            · cases hv
          · split at hv
            · rename_i hB
              simp only [Bool.and_eq_true] at hB
              have hB : hasB o.code = true := hB.1
              simp at hv
              rw [hv, eb hB]
              exact (orig_ok h (hfb hB).1 (hfb hB).2).1
            · cases hv
        show (((reads (copyOp s o)).all fun v => decide (copyR r v < 0)) && !((copyOp s o).code == 2 && (copyOp s o).d == (copyOp s o).a) && copiedR (copyOp s o :: r) _) = true
        have h1 : ((reads (copyOp s o)).all fun v => decide (copyR r v < 0)) = true := by
          rw [List.all_eq_true]
          exact fun v hv => decide_eq_true (hread v hv)
        have h2 : ((copyOp s o).code == 2 && (copyOp s o).d == (copyOp s o).a) = false := hs'
        rw [h1, h2]
        exact copyRun_copied l _ _ hl' (copyIs_upd h (p := copyOp s o) ho hs' (fun h2 => by
          have h2 : o.code = 2 := h2
          have hA : hasA o.code = true := by rw [h2]; rfl
          rw [ea hA]
          have := orig_ok h (hfa hA).1 (hfa hA).2
          exact ⟨this.2.1, this.2.2.1, this.2.2.2⟩))
/-- In the result of Copies no operation reads a copy, and nothing is moved to itself. -/
theorem copy_law {b : Blk} (hv : validB b = true) : copiedL (copyAll b) = true := by
  unfold copyAll
  rw [if_pos hv]
  exact copyRun_copied b.ops noneF [] (valid_formed hv) copyIs_nil
end Go.Proofs.Ytmjfgnnefcimiaa
namespace Go.Proofs.Ytmjfgnnefcimiaa
open Go.RowKit

/-- The search for the last writing operation, under way. -/
structure CpAtSt (l : List BOp) (i : Nat) (v : Int) where
  m : Nat
  mq : Bool
  hm : m ≤ i
  h : copyR (l.take i).reverse v = copyF mq (l.take m).reverse ((l.take i).drop m) v
theorem drop_take_cons {l : List BOp} {i k : Nat} {o : BOp} (h : l[k]? = some o) (hk : k < i) : (l.take i).drop k = o :: (l.take i).drop (k + 1) := by
  have hl : k < (l.take i).length := by
    rw [List.length_take]
    rcases Nat.lt_or_ge k l.length with h1 | h1
    · omega
    · rw [List.getElem?_eq_none h1] at h; cases h
  rw [List.drop_eq_getElem_cons hl]
  have : (l.take i)[k] = o := by
    have e := List.getElem?_take_of_lt (l := l) hk
    rw [h, List.getElem?_eq_getElem hl] at e
    injection e
  rw [this]
set_option maxRecDepth 100000 in
theorem copyAt_walk (l : List BOp) (A1 A2 A3 : Option Addr) (n1 n2 c1 c2 c3 i : Nat) (v : Int) (w : World) (h3 : OpsAt w w.heap.size A3 l) (hl : l.length ≤ 1000000) (hi : i ≤ l.length) :
    Calls Try.prog 57 #[.agg #[.slice A1 n1 c1, .slice A2 n2 c2, .slice A3 l.length c3], .int .i64 (i : Int), .int .i64 v] w fun e w' => e = .returned (.int .i64 (copyR (l.take i).reverse v)) ∧ Below w.heap.size w w' := by
  refine calls_satq [.agg #[.slice A1 n1 c1, .slice A2 n2 c2, .slice A3 l.length c3], .int .i64 (i : Int), .int .i64 v] Try.func57 Try.ntmps57 rfl (by simp) ?_
  refine satq_seq ?_
  conv => whnf
  refine satq_seq ?_
  conv => whnf
  refine satq_seq ?_
  conv => whnf
  refine ⟨_, wr64 (by omega), ?_⟩
  conv => whnf
  refine satq_mid (α := { x : CpAtSt l i v // x.m = 0 ∨ ∃ o, l[x.m - 1]? = some o ∧ writes o = v }) (fun x => [(1, one (.int .i64 (i : Int))), (2, one (.int .i64 v)), (3, .p (.c (.ref 0 0))), (7, one (.bool x.1.mq)), (8, one (.int .i64 ((x.1.m : Int) - 1)))]) (fun x => [.cells 32 [.v (.slice A1 n1 c1), .v (.slice A2 n2 c2), .v (.slice A3 l.length c3)]]) ?_ fun x => ?_
  · refine satq_block ?_
    refine satq_loop (α := CpAtSt l i v) (fun x => [(1, one (.int .i64 (i : Int))), (2, one (.int .i64 v)), (3, .p (.c (.ref 0 0))), (7, one (.bool x.mq)), (8, one (.int .i64 ((x.m : Int) - 1)))]) (fun x => [.cells 32 [.v (.slice A1 n1 c1), .v (.slice A2 n2 c2), .v (.slice A3 l.length c3)]]) (fun x => x.m)
      ⟨i, false, Nat.le_refl _, by rw [List.drop_eq_nil_of_le (by rw [List.length_take]; omega)]; rfl⟩ (ent_same rfl (aI rfl (aI rfl (aI rfl (aI rfl (aI rfl trivial))))) (aI ((aI rfl (Or.inl rfl))) trivial)) fun x => ?_
    obtain ⟨m, mq, hm, hx⟩ := x
    dsimp only
    by_cases h0 : m = 0
    · subst h0
      refine satq_seq ?_
      conv => whnf
      refine ⟨false, fun h => absurd h (by simp), ?_⟩
      conv => whnf
      refine ⟨fun h => absurd h (by simp [cmb]), fun _ => ?_⟩
      conv => whnf
      refine atq_out (atq_exit ?_)
      exact atq_mid ⟨⟨0, mq, hm, hx⟩, .inl rfl⟩ (ent_same rfl (aI rfl (aI rfl (aI rfl (aI rfl (aI rfl trivial))))) (aI ((aI rfl (Or.inl rfl))) trivial))
    · obtain ⟨k, rfl⟩ : ∃ k, m = k + 1 := ⟨m - 1, by omega⟩
      rw [show (((k + 1 : Nat) : Int) - 1) = (k : Int) by omega]
      obtain ⟨o, ho⟩ : ∃ o, l[k]? = some o := ⟨_, List.getElem?_eq_getElem (by omega)⟩
      obtain ⟨bb, off, rfl⟩ := ops_addr h3 (by omega)
      refine satq_seq ?_
      conv => whnf
      refine ⟨writes o != v, fun _ => ?_, ?_⟩
      · conv => whnf
        refine ⟨⟨by omega, by omega⟩, ?_⟩
        conv => whnf
        refine ⟨opC o, cells_op h3 (by simp) ho, rfl, ?_⟩
        conv => whnf
        refine call_con rfl (by kernel_rfl) (fun r w' hR => writes_ref o w') ?_
        conv => whnf
        exact ⟨rfl, rfl, rfl, rfl, rfl⟩
      conv => whnf
      refine ⟨fun hc => ?_, fun hc => ?_⟩
      · have hw : writes o ≠ v := by
          have h2 : (decide ((k : Int) ≥ 0) && (writes o != v)) = true := hc
          simp at h2; exact h2
        conv => whnf
        refine satq_vc ?_
        conv => whnf
        refine ⟨o.code == 20, fun _ => ?_, ?_⟩
        · conv => whnf
          refine ⟨⟨by omega, by omega⟩, ?_⟩
          conv => whnf
          refine ⟨.int .i64 o.code, ?_, ?_⟩
          · have := cells_op (G := Gs.nil) h3 (by simp) ho
            exact cells_one this.1 (by simp) (this.2.2 0 _ rfl)
          conv => whnf
          exact ⟨rfl, rfl, rfl, rfl, rfl⟩
        conv => whnf
        refine ⟨_, wr64 (by omega), ?_⟩
        conv => whnf
        refine atq_next ⟨k, mq || o.code == 20, by omega, ?_⟩ (ent_same rfl (aI rfl (aI rfl (aI rfl (aI rfl (aI rfl trivial))))) (aI ((aI rfl (Or.inl rfl))) trivial)) (by show k < k + 1; omega)
        rw [hx, take_rev ho, drop_take_cons ho (by omega)]
        show (if writes o = v then _ else copyF (mq || o.code == 20) (l.take k).reverse (o :: (l.take i).drop (k + 1)) v) = _
        rw [if_neg hw]
      · have hw : writes o = v := by
          have h2 : (decide ((k : Int) ≥ 0) && (writes o != v)) = false := hc
          simp at h2; exact h2
        conv => whnf
        refine atq_out (atq_exit ?_)
        exact atq_mid ⟨⟨k + 1, mq, hm, hx⟩, .inr ⟨o, ho, hw⟩⟩ (ent_same rfl (aI rfl (aI rfl (aI rfl (aI rfl (aI ((by show one _ = one _; rw [show (((k + 1 : Nat) : Int) - 1) = (k : Int) by omega])) trivial))))) (aI ((aI rfl (Or.inl rfl))) trivial))
  obtain ⟨⟨m, mq, hm, hx⟩, hend⟩ := x
  dsimp only at hend ⊢
  by_cases h0 : m = 0
  · subst h0
    have hres : copyR (l.take i).reverse v = -1 := by rw [hx]; rfl
    refine satq_seq ?_
    conv => whnf
    refine ⟨false, fun h => absurd h (by simp), ?_⟩
    conv => whnf
    refine ⟨false, fun h => absurd h (by simp [cmb]), ?_⟩
    conv => whnf
    refine ⟨fun _ => ?_, fun h => absurd h (by simp [cmb])⟩
    conv => whnf
    refine atq_ret ?_
    conv => whnf
    exact fin_val rfl fun w' hB => ⟨by rw [hres], hB⟩
  obtain ⟨k, rfl⟩ : ∃ k, m = k + 1 := ⟨m - 1, by omega⟩
  rw [show (((k + 1 : Nat) : Int) - 1) = (k : Int) by omega]
  obtain ⟨o, ho, hw⟩ : ∃ o, l[k]? = some o ∧ writes o = v := by
    rcases hend with h | h
    · omega
    · exact h
  obtain ⟨bb, off, rfl⟩ := ops_addr h3 (by omega)
  have hopc := cells_op (G := Gs.nil) h3 (by simp) ho
  have hres : copyR (l.take i).reverse v = if o.code ≠ 2 ∨ o.a = v then -1 else if mq = true ∧ (20 ≤ v ∨ 20 ≤ o.a) then -1 else if (((l.take i).drop (k + 1)).any fun p => writes p == o.a) = true then -1 else o.a := by
    rw [hx, take_rev ho]
    show (if writes o = v then _ else _) = _
    rw [if_pos hw]
  refine satq_seq ?_
  conv => whnf
  refine ⟨o.code != 2, fun _ => ?_, ?_⟩
  · conv => whnf
    refine ⟨⟨by omega, by omega⟩, ?_⟩
    conv => whnf
    refine ⟨.int .i64 o.code, cells_one hopc.1 (by simp) (hopc.2.2 0 _ rfl), ?_⟩
    conv => whnf
    exact ⟨rfl, rfl, rfl, rfl, rfl⟩
  conv => whnf
  refine ⟨o.a == v, fun _ => ?_, ?_⟩
  · conv => whnf
    refine ⟨⟨by omega, by omega⟩, ?_⟩
    conv => whnf
    refine ⟨.int .i64 o.a, cells_one hopc.1 (by simp) (hopc.2.2 2 _ rfl), ?_⟩
    conv => whnf
    exact ⟨rfl, rfl, rfl, rfl, rfl⟩
  conv => whnf
  have hcm : cmb false (cmb false (decide ((k : Int) < 0)) (o.code != 2)) (o.a == v) = ((o.code != 2) || (o.a == v)) := by
    show ((decide ((k : Int) < 0) || (o.code != 2)) || (o.a == v)) = _
    rw [show decide ((k : Int) < 0) = false by simp, Bool.false_or]
  rw [hcm]
  refine ⟨fun h => ?_, fun h => ?_⟩
  · have h2 : o.code ≠ 2 ∨ o.a = v := by simpa using h
    conv => whnf
    refine atq_ret ?_
    conv => whnf
    exact fin_val rfl fun w' hB => ⟨by rw [hres, if_pos h2], hB⟩
  have h2 : ¬ (o.code ≠ 2 ∨ o.a = v) := by simpa using h
  rw [if_neg h2] at hres
  conv => whnf
  refine satq_seq ?_
  conv => whnf
  refine ⟨⟨by omega, by omega⟩, ?_⟩
  conv => whnf
  refine ⟨.int .i64 o.a, cells_one hopc.1 (by simp) (hopc.2.2 2 _ rfl), ?_⟩
  conv => whnf
  refine satq_in ?_
  refine satq_mid (α := Unit) (fun _ => [(1, one (.int .i64 (i : Int))), (3, .p (.c (.ref 0 0))), (8, one (.int .i64 (k : Int))), (9, one (.int .i64 o.a)), (72, one (.bool (mq && (decide (20 ≤ v) || decide (20 ≤ o.a)))))]) (fun _ => [.cells 32 [.v (.slice A1 n1 c1), .v (.slice A2 n2 c2), .v (.slice (some ⟨bb, off, none⟩) l.length c3)]]) ?_ fun _ => ?_
  · clear hres hx
    refine satq_regionU ?_
    cases mq with
    | false =>
      conv => whnf
      repeat (refine ⟨(fun h => Bool.noConfusion (show false = true from h)), fun _ => ?_⟩; (conv => whnf))
      exact atq_mid () (ent_same rfl (aI rfl (aI rfl (aI rfl (aI rfl (aI rfl trivial))))) (aI ((aI rfl (Or.inl rfl))) trivial))
    | true =>
      conv => whnf
      (refine ⟨fun _ => ?_, (fun h => Bool.noConfusion (show true = false from h))⟩; (conv => whnf))
      (refine ⟨fun _ => ?_, (fun h => Bool.noConfusion (show true = false from h))⟩; (conv => whnf))
      refine call_con rfl (by kernel_rfl) (fun r w' hR => temporary_ref v w') ?_
      conv => whnf
      (refine ⟨fun _ => ?_, (fun h => Bool.noConfusion (show true = false from h))⟩; (conv => whnf))
      generalize decide (20 ≤ v) = t
      cases t with
      | true =>
        (refine ⟨(fun h => Bool.noConfusion (show false = true from h)), fun _ => ?_⟩; (conv => whnf))
        (refine ⟨(fun h => Bool.noConfusion (show false = true from h)), fun _ => ?_⟩; (conv => whnf))
        (refine ⟨fun _ => ?_, (fun h => Bool.noConfusion (show true = false from h))⟩; (conv => whnf))
        exact atq_mid () (ent_same rfl (aI rfl (aI rfl (aI rfl (aI rfl (aI rfl trivial))))) (aI ((aI rfl (Or.inl rfl))) trivial))
      | false =>
        (refine ⟨fun _ => ?_, (fun h => Bool.noConfusion (show true = false from h))⟩; (conv => whnf))
        (refine ⟨fun _ => ?_, (fun h => Bool.noConfusion (show true = false from h))⟩; (conv => whnf))
        refine call_con rfl (by kernel_rfl) (fun r w' hR => temporary_ref o.a w') ?_
        conv => whnf
        (refine ⟨fun _ => ?_, (fun h => Bool.noConfusion (show true = false from h))⟩; (conv => whnf))
        exact atq_mid () (ent_same rfl (aI rfl (aI rfl (aI rfl (aI rfl (aI rfl trivial))))) (aI ((aI rfl (Or.inl rfl))) trivial))
  refine satq_cond rfl (fun h => ?_) (fun h => ?_)
  · have h4 : mq = true ∧ (20 ≤ v ∨ 20 ≤ o.a) := by simpa using h
    refine satq_vc ?_
    conv => whnf
    refine atq_up (atq_ret (R := fun e w' => e = .returned (.int .i64 (copyR (l.take i).reverse v)) ∧ Below w.heap.size w w') ?_) (by exact fun _ _ h => h)
    conv => whnf
    exact fin_val rfl fun w' hB => ⟨by rw [hres, if_pos h4], hB⟩
  have h4 : ¬ (mq = true ∧ (20 ≤ v ∨ 20 ≤ o.a)) := by
    intro h5
    have : (mq && (decide (20 ≤ v) || decide (20 ≤ o.a))) = true := by simpa using h5
    rw [h] at this; cases this
  rw [if_neg h4] at hres
  refine satq_skip ?_
  refine atq_on ?_
  refine satq_in ?_
  refine satq_seq ?_
  conv => whnf
  refine ⟨((k + 1 : Nat) : Int), by rw [wr64 (by omega)]; omega, ?_⟩
  conv => whnf
  refine satq_block ?_
  refine satq_loop (α := { z : Nat // k + 1 ≤ z ∧ z ≤ i ∧ (((l.take z).drop (k + 1)).any fun p => writes p == o.a) = false }) (fun x => [(1, one (.int .i64 (i : Int))), (3, .p (.c (.ref 0 0))), (9, one (.int .i64 o.a)), (10, one (.int .i64 (x.1 : Int)))]) (fun x => [.cells 32 [.v (.slice A1 n1 c1), .v (.slice A2 n2 c2), .v (.slice (some ⟨bb, off, none⟩) l.length c3)]]) (fun x => i - x.1)
    ⟨k + 1, Nat.le_refl _, hm, by rw [List.drop_eq_nil_of_le (by rw [List.length_take]; omega)]; rfl⟩ (ent_same rfl (aI rfl (aI rfl (aI rfl (aI rfl trivial)))) (aI ((aI rfl (Or.inl rfl))) trivial)) fun x => ?_
  obtain ⟨z, z1, z2, hz⟩ := x
  dsimp only
  refine satq_seq ?_
  conv => whnf
  refine ⟨fun hc => ?_, fun hc => ?_⟩
  · have hlt : z < i := by simpa using hc
    obtain ⟨p, hp⟩ : ∃ p, l[z]? = some p := ⟨_, List.getElem?_eq_getElem (by omega)⟩
    have hzn : (((l.take (z + 1)).drop (k + 1)).any fun p => writes p == o.a) = (writes p == o.a) := by
      rw [take_succ_of hp, List.drop_append_of_le_length (by rw [List.length_take]; omega), List.any_append, hz]; simp
    conv => whnf
    refine satq_mid (α := { u : Unit // (writes p == o.a) = false }) (fun _ => [(1, one (.int .i64 (i : Int))), (3, .p (.c (.ref 0 0))), (9, one (.int .i64 o.a)), (10, one (.int .i64 (z : Int)))]) (fun _ => [.cells 32 [.v (.slice A1 n1 c1), .v (.slice A2 n2 c2), .v (.slice (some ⟨bb, off, none⟩) l.length c3)]]) ?_ fun y => ?_
    · refine satq_block ?_
      refine satq_vc ?_
      conv => whnf
      refine ⟨⟨by omega, by omega⟩, ?_⟩
      conv => whnf
      refine ⟨opC p, cells_op h3 (by simp) hp, rfl, ?_⟩
      conv => whnf
      refine call_con rfl (by kernel_rfl) (fun r w' hR => writes_ref p w') ?_
      conv => whnf
      refine ⟨fun he => ?_, fun he => ?_⟩
      · conv => whnf
        refine atq_up (atq_ret (R := fun e w' => e = .returned (.int .i64 (copyR (l.take i).reverse v)) ∧ Below w.heap.size w w') ?_) (by exact fun _ _ h => h)
        conv => whnf
        have hany : (((l.take i).drop (k + 1)).any fun p => writes p == o.a) = true := by
          rw [List.any_eq_true]
          refine ⟨p, ?_, he⟩
          refine List.mem_of_getElem? (i := z - (k + 1)) ?_
          rw [List.getElem?_drop, show k + 1 + (z - (k + 1)) = z by omega, List.getElem?_take_of_lt hlt, hp]
        exact fin_val rfl fun w' hB => ⟨by rw [hres, if_pos hany], hB⟩
      · conv => whnf
        refine atq_block ?_
        exact atq_mid ⟨(), he⟩ (ent_same rfl (aI rfl (aI rfl (aI rfl (aI rfl trivial)))) (aI ((aI rfl (Or.inl rfl))) trivial))
    refine satq_vc ?_
    conv => whnf
    refine ⟨_, wr64 (by omega), ?_⟩
    conv => whnf
    exact atq_next ⟨z + 1, by omega, by omega, by rw [hzn]; exact y.2⟩ (ent_same rfl (aI rfl (aI rfl (aI rfl (aI rfl trivial)))) (aI ((aI rfl (Or.inl rfl))) trivial)) (by show i - (z + 1) < i - z; omega)
  · have hze : z = i := by simp at hc; omega
    subst hze
    conv => whnf
    refine atq_out (atq_exit (atq_on ?_))
    refine satq_vc ?_
    conv => whnf
    refine atq_ret ?_
    conv => whnf
    exact fin_val rfl fun w' hB => ⟨by rw [hres, if_neg (by rw [hz]; decide)], hB⟩
theorem copiedR_at : ∀ (l pre : List BOp) (i : Nat) {o : BOp}, l[i]? = some o → copiedR ((l.take i).reverse ++ pre) (l.drop i) = (((reads o).all fun v => decide (copyR ((l.take i).reverse ++ pre) v < 0)) && !(o.code == 2 && o.d == o.a) && copiedR ((l.take (i + 1)).reverse ++ pre) (l.drop (i + 1)))
  | [], pre, i, o, h => by simp at h
  | x :: l, pre, 0, o, h => by simp at h; subst h; rfl
  | x :: l, pre, i + 1, o, h => by
    have := copiedR_at l (x :: pre) i (o := o) (by simpa using h)
    simpa using this
set_option maxRecDepth 100000 in
theorem copied_walk (l : List BOp) (A1 A2 A3 : Option Addr) (n1 n2 c1 c2 c3 : Nat) (w : World) (h3 : OpsAt w w.heap.size A3 l) (hl : l.length ≤ 1000000) :
    Calls Try.prog 25 #[.agg #[.slice A1 n1 c1, .slice A2 n2 c2, .slice A3 l.length c3]] w fun e w' => e = .returned (.bool (copiedL l)) ∧ Below w.heap.size w w' := by
  refine calls_satq [.agg #[.slice A1 n1 c1, .slice A2 n2 c2, .slice A3 l.length c3]] Try.func25 Try.ntmps25 rfl (by simp) ?_
  refine satq_seq ?_
  conv => whnf
  refine satq_in ?_
  refine satq_seq ?_
  conv => whnf
  refine satq_block ?_
  refine satq_loop (α := { j : Nat // j ≤ l.length ∧ copiedL l = copiedR (l.take j).reverse (l.drop j) }) (fun x => [(1, .p (.c (.ref 0 0))), (3, one (.int .i64 (x.1 : Int)))]) (fun x => [.cells 32 [.v (.slice A1 n1 c1), .v (.slice A2 n2 c2), .v (.slice A3 l.length c3)]]) (fun x => l.length - x.1)
    ⟨0, by omega, rfl⟩ (ent_same rfl (aI rfl (aI rfl trivial)) (aI ((aI rfl (Or.inl rfl))) trivial)) fun x => ?_
  obtain ⟨j, hj, hjl⟩ := x
  dsimp only
  refine satq_seq ?_
  conv => whnf
  refine ⟨fun hc => ?_, fun hc => ?_⟩
  · have hlt : j < l.length := by simpa using hc
    obtain ⟨o, ho⟩ : ∃ o, l[j]? = some o := ⟨_, List.getElem?_eq_getElem hlt⟩
    have hstep := copiedR_at l [] j ho
    rw [List.append_nil, List.append_nil] at hstep
    obtain ⟨bb, off, rfl⟩ := ops_addr h3 (by omega)
    have hrl := reads_len o
    conv => whnf
    refine satq_mid (α := { u : Unit // ((reads o).all fun v => decide (copyR (l.take j).reverse v < 0)) = true ∧ (o.code == 2 && o.d == o.a) = false }) (fun _ => [(1, .p (.c (.ref 0 0))), (3, one (.int .i64 (j : Int)))]) (fun _ => [.cells 32 [.v (.slice A1 n1 c1), .v (.slice A2 n2 c2), .v (.slice (some ⟨bb, off, none⟩) l.length c3)]]) ?_ fun y => ?_
    · refine satq_block ?_
      refine satq_seq ?_
      conv => whnf
      refine ⟨⟨by omega, by omega⟩, ?_⟩
      conv => whnf
      refine ⟨opC o, cells_op h3 (by simp) ho, rfl, ?_⟩
      conv => whnf
      refine satq_seq ?_
      conv => whnf
      refine call_row rfl (by kernel_rfl) (fun r w' hR => reads_ref o w') ?_
      conv => whnf
      refine satq_mid (α := { u : Unit // ((reads o).all fun v => decide (copyR (l.take j).reverse v < 0)) = true }) (fun _ => [(1, .p (.c (.ref 0 0))), (3, one (.int .i64 (j : Int))), (4, .p (.c (.ref 1 0)))])
        (fun _ => [.cells 32 [.v (.slice A1 n1 c1), .v (.slice A2 n2 c2), .v (.slice (some ⟨bb, off, none⟩) l.length c3)], .cells 53 ((opC o).map .v)]) ?_ fun y => ?_
      · refine satq_seq ?_
        conv => whnf
        refine satq_block ?_
        refine satq_loop (α := { k : Nat // k ≤ (reads o).length ∧ (((reads o).take k).all fun v => decide (copyR (l.take j).reverse v < 0)) = true }) (fun x => [(1, .p (.c (.ref 0 0))), (3, one (.int .i64 (j : Int))), (4, .p (.c (.ref 1 0))), (5, .p (.c (.row 2))), (6, one (.int .i64 (x.1 : Int)))])
          (fun x => [.cells 32 [.v (.slice A1 n1 c1), .v (.slice A2 n2 c2), .v (.slice (some ⟨bb, off, none⟩) l.length c3)], .cells 53 ((opC o).map .v), .row 3 1 (reads o).length ((reads o).map (.int .i64))]) (fun x => (reads o).length - x.1)
          ⟨0, by omega, rfl⟩ (ent_same rfl (aI rfl (aI rfl (aI rfl (aI rfl (aI rfl trivial))))) (aI ((aI rfl (Or.inl rfl))) (aI ((aI rfl (Or.inl rfl))) (aI ((aI rfl (aI rfl (aI rfl rfl)))) trivial)))) fun x => ?_
        obtain ⟨k, hk, hka⟩ := x
        dsimp only
        refine satq_seq ?_
        conv => whnf
        refine ⟨fun hc => ?_, fun hc => ?_⟩
        · have hlt2 : k < (reads o).length := by simpa using hc
          obtain ⟨v, hv⟩ : ∃ v, (reads o)[k]? = some v := ⟨_, List.getElem?_eq_getElem hlt2⟩
          have hnext : (((reads o).take (k + 1)).all fun v => decide (copyR (l.take j).reverse v < 0)) = decide (copyR (l.take j).reverse v < 0) := by
            rw [List.take_add_one, hv, List.all_append, hka]; simp
          conv => whnf
          refine satq_mid (α := { u : Unit // copyR (l.take j).reverse v < 0 }) (fun _ => [(1, .p (.c (.ref 0 0))), (3, one (.int .i64 (j : Int))), (4, .p (.c (.ref 1 0))), (5, .p (.c (.row 2))), (6, one (.int .i64 (k : Int)))])
            (fun _ => [.cells 32 [.v (.slice A1 n1 c1), .v (.slice A2 n2 c2), .v (.slice (some ⟨bb, off, none⟩) l.length c3)], .cells 53 ((opC o).map .v), .row 3 1 (reads o).length ((reads o).map (.int .i64))]) ?_ fun y => ?_
          · refine satq_block ?_
            refine satq_vc ?_
            refine sat_quiet mixed (by kernel_rfl) ?_
            conv => whnf
            refine ⟨⟨by omega, by omega⟩, ?_⟩
            conv => whnf
            rw [show (List.map CV.v (List.map (Value.int IntKind.i64) (reads o)))[(k : Int).toNat * tsz Try.prog 3]? = some (.v (.int .i64 v)) by
              rw [show (k : Int).toNat * tsz Try.prog 3 = k from (Nat.mul_one _).trans (Int.toNat_natCast k), List.getElem?_map, List.getElem?_map, hv]; rfl]
            conv => whnf
            refine q_con (xs := [.agg #[.slice A1 n1 c1, .slice A2 n2 c2, .slice (some ⟨bb, off, none⟩) l.length c3], .int .i64 (j : Int), .int .i64 v]) rfl (by kernel_rfl) (fun r w' hR => copyAt_walk l A1 A2 (some ⟨bb, off, none⟩) n1 n2 c1 c2 c3 j v w' (sl_later h3 hR.toBelow) hl hj) ?_
            conv => whnf
            refine ⟨fun he => ?_, fun he => ?_⟩
            · have he : 0 ≤ copyR (l.take j).reverse v := by simpa using he
              have hall : ((reads o).all fun v => decide (copyR (l.take j).reverse v < 0)) = false := by
                rw [List.all_eq_false]
                exact ⟨v, List.mem_of_getElem? hv, by simp; omega⟩
              conv => whnf
              refine atq_up (atq_ret (R := fun e w' => e = .returned (.bool (copiedL l)) ∧ Below w.heap.size w w') ?_) (by exact fun _ _ h => h)
              conv => whnf
              exact fin_val rfl fun w' hB => ⟨by rw [hjl, hstep, hall]; rfl, hB⟩
            · have he : copyR (l.take j).reverse v < 0 := by simpa using he
              conv => whnf
              refine atq_block ?_
              exact atq_mid ⟨(), he⟩ (ent_same rfl (aI rfl (aI rfl (aI rfl (aI rfl (aI rfl trivial))))) (aI ((aI rfl (Or.inl rfl))) (aI ((aI rfl (Or.inl rfl))) (aI ((aI rfl (aI rfl (aI rfl rfl)))) trivial))))
          refine satq_vc ?_
          conv => whnf
          refine ⟨_, wr64 (by omega), ?_⟩
          conv => whnf
          exact atq_next ⟨k + 1, by omega, by rw [hnext]; simpa using y.2⟩ (ent_same rfl (aI rfl (aI rfl (aI rfl (aI rfl (aI rfl trivial))))) (aI ((aI rfl (Or.inl rfl))) (aI ((aI rfl (Or.inl rfl))) (aI ((aI rfl (aI rfl (aI rfl rfl)))) trivial)))) (by show (reads o).length - (k + 1) < (reads o).length - k; omega)
        · have hke : k = (reads o).length := by simp at hc; omega
          subst hke
          conv => whnf
          refine atq_out (atq_exit ?_)
          exact atq_mid ⟨(), by rw [List.take_length] at hka; exact hka⟩ (ent_drop (aI rfl (aI rfl (aI rfl trivial))) (aI ((aI rfl (Or.inl rfl))) (aI ((aI rfl (Or.inl rfl))) trivial)) rfl rfl)
      refine satq_vc ?_
      conv => whnf
      refine ⟨o.d == o.a, fun _ => ?_, ?_⟩
      · conv => whnf
        exact ⟨rfl, rfl, rfl, rfl, rfl⟩
      conv => whnf
      refine ⟨fun he => ?_, fun he => ?_⟩
      · have he : (o.code == 2 && o.d == o.a) = true := he
        conv => whnf
        refine atq_up (atq_ret (R := fun e w' => e = .returned (.bool (copiedL l)) ∧ Below w.heap.size w w') ?_) (by exact fun _ _ h => h)
        conv => whnf
        exact fin_val rfl fun w' hB => ⟨by rw [hjl, hstep, he]; simp, hB⟩
      · have he : (o.code == 2 && o.d == o.a) = false := he
        conv => whnf
        refine atq_block ?_
        exact atq_mid ⟨(), y.2, he⟩ (ent_drop (aI rfl (aI rfl trivial)) (aI ((aI rfl (Or.inl rfl))) trivial) rfl rfl)
    refine satq_vc ?_
    conv => whnf
    refine ⟨_, wr64 (by omega), ?_⟩
    conv => whnf
    exact atq_next ⟨j + 1, by omega, by rw [hjl, hstep, y.2.1, y.2.2]; rfl⟩ (ent_same rfl (aI rfl (aI rfl trivial)) (aI ((aI rfl (Or.inl rfl))) trivial)) (by show l.length - (j + 1) < l.length - j; omega)
  · have hje : j = l.length := by simp at hc; omega
    subst hje
    rw [List.drop_length] at hjl
    conv => whnf
    refine atq_out (atq_exit (atq_on ?_))
    refine satq_vc ?_
    conv => whnf
    refine atq_ret ?_
    conv => whnf
    exact fin_val rfl fun w' hB => ⟨by rw [hjl]; rfl, hB⟩
end Go.Proofs.Ytmjfgnnefcimiaa
namespace Go.Proofs.Ytmjfgnnefcimiaa
open Go.RowKit

set_option maxRecDepth 100000 in
theorem copied_law (A : Option Addr) (n c : Nat) (xs : List Int) (q0 q1 q2 : Int) (w : World) (hs : SlAt w w.heap.size A (xs.map (.int .i64))) (hl : xs.length = n) (hnc : n ≤ c) :
    Calls Try.prog 8 #[.slice A n c, .agg #[.int .i64 q0, .int .i64 q1, .int .i64 q2]] w fun e w' => e = .returned (.bool true) ∧ Below w.heap.size w w' := by
  refine calls_satq [.slice A n c, .agg #[.int .i64 q0, .int .i64 q1, .int .i64 q2]] Try.func8 Try.ntmps8 rfl (by simp) ?_
  refine satq_seq ?_
  conv => whnf
  refine satq_seq ?_
  conv => whnf
  refine call_con rfl (by kernel_rfl) (fun r w' hR => sanity_law w') ?_
  conv => whnf
  refine satq_restart fun r w1 hR => ?_
  obtain ⟨g3, us3, b3, d3, k3⟩ := own_cellsAt hR 0 rfl
  obtain rfl := denL_vals_inv (us := [.int .i64 q0, .int .i64 q1, .int .i64 q2]) d3
  have hB0 := hR.toBelow
  refine ⟨slotFr [(0, .slice A n c), (3, .pointer (some ⟨g3, 0, none⟩)), (5, .bool true)], fun a hf => slots_den ⟨slot_val hf rfl, slot_ref hf 3 rfl b3, slot_val hf rfl, trivial⟩, ?_⟩
  have hs1 := sl_later hs hB0
  clear hR b3 d3
  refine satq_mid (α := { y : Blk // TurnOk y }) (fun y => [(5, one (.bool true)), (6, .p (.c (.ref 3 0)))]) (fun y => blkRows y.1 ++ [.cells 32 [.row 0, .row 1, .row 2]]) ?_ fun y => ?_
  · refine satq_vc ?_
    refine sat_any (.q 0 (.q 2 (.alt 1 (.alt 3 (.alt 4 (.alt 5 .done .no) .no) (.alt 4 (.alt 3 (.alt 5 .done .no) .no) .no)) (.alt 4 (.alt 1 (.alt 3 (.alt 5 .done .no) .no) .no) .no)))) mixed (by kernel_rfl) (by kernel_rfl) ?_
    conv => whnf
    refine ⟨_, k3, rfl, ?_⟩
    conv => whnf
    refine ⟨?_, ?_, trivial⟩
    · conv => whnf
      refine call_blk MadeOk (by kernel_rfl) (fun r w' us hR hd => ?_) fun b hb => ?_
      · obtain rfl := avals_den (xs := [.slice A n c]) rfl hd
        exact made_walk A n c xs w' (sl_later hs1 hR.toBelow) hl hnc
      conv => whnf
      refine ⟨?_, ?_, trivial⟩
      · conv => whnf
        refine call_turned 0 1 2 b q0 q1 q2 rfl rfl rfl hb fun y hy => ?_
        conv => whnf
        refine ⟨?_, trivial⟩
        conv => whnf
        refine ⟨?_, trivial⟩
        conv => whnf
        exact atq_mid ⟨y, hy⟩ (ent_ren [3, 4, 5, 6] (aI rfl (aI rfl trivial)) (aI ((Exists.intro _ (aI rfl (aI rfl (aI rfl (aI rfl rfl)))))) (aI ((Exists.intro _ (aI rfl (aI rfl (aI rfl (aI rfl rfl)))))) (aI ((Exists.intro _ (aI rfl (aI rfl (aI rfl (aI rfl rfl)))))) (aI ((Exists.intro _ (aI rfl (aI rfl (Or.inl rfl))))) trivial)))) rfl rfl rfl rfl rfl)
      · conv => whnf
        refine ⟨?_, trivial⟩
        conv => whnf
        refine call_turned 0 1 2 b q0 q1 q2 rfl rfl rfl hb fun y hy => ?_
        conv => whnf
        refine ⟨?_, trivial⟩
        conv => whnf
        exact atq_mid ⟨y, hy⟩ (ent_ren [4, 5, 6, 3] (aI rfl (aI rfl trivial)) (aI ((Exists.intro _ (aI rfl (aI rfl (aI rfl (aI rfl rfl)))))) (aI ((Exists.intro _ (aI rfl (aI rfl (aI rfl (aI rfl rfl)))))) (aI ((Exists.intro _ (aI rfl (aI rfl (aI rfl (aI rfl rfl)))))) (aI ((Exists.intro _ (aI rfl (aI rfl (Or.inl rfl))))) trivial)))) rfl rfl rfl rfl rfl)
    · conv => whnf
      refine ⟨?_, trivial⟩
      conv => whnf
      refine call_blk MadeOk (by kernel_rfl) (fun r w' us hR hd => ?_) fun b hb => ?_
      · obtain rfl := avals_den (xs := [.slice A n c]) rfl hd
        exact made_walk A n c xs w' (sl_later hs1 hR.toBelow) hl hnc
      conv => whnf
      refine ⟨?_, trivial⟩
      conv => whnf
      refine call_turned 1 2 3 b q0 q1 q2 rfl rfl rfl hb fun y hy => ?_
      conv => whnf
      refine ⟨?_, trivial⟩
      conv => whnf
      exact atq_mid ⟨y, hy⟩ (ent_ren [4, 5, 6, 0] (aI rfl (aI rfl trivial)) (aI ((Exists.intro _ (aI rfl (aI rfl (aI rfl (aI rfl rfl)))))) (aI ((Exists.intro _ (aI rfl (aI rfl (aI rfl (aI rfl rfl)))))) (aI ((Exists.intro _ (aI rfl (aI rfl (aI rfl (aI rfl rfl)))))) (aI ((Exists.intro _ (aI rfl (aI rfl (Or.inl rfl))))) trivial)))) rfl rfl rfl rfl rfl)
  obtain ⟨b, hb⟩ := y
  dsimp only
  refine satq_restart fun r w2 hR => ?_
  obtain ⟨g6, A1, c1, A2, c2, A3, c3, b6, k6, s1, s2, s3, m1, m2⟩ := own_blkRows hR 3 0 1 2 b rfl rfl rfl rfl
  have hB1 : Below w.heap.size w w2 := hB0.trans (hR.toBelow.mono hB0.size)
  refine ⟨slotFr [(5, .bool true), (6, .pointer (some ⟨g6, 0, none⟩))], fun a hf => slots_den ⟨slot_val hf rfl, slot_ref hf 6 rfl b6, trivial⟩, ?_⟩
  clear hR b6 k3 hs1 hs
  refine satq_seq ?_
  conv => whnf
  refine ⟨_, k6, rfl, ?_⟩
  conv => whnf
  refine call_pass_pl copies_pass (by kernel_rfl) hb.ok copy_nil rfl rfl rfl s1 s2 s3 m1 m2 ?_
  conv => whnf
  refine satq_seq ?_
  conv => whnf
  refine ⟨_, k6, rfl, ?_⟩
  conv => whnf
  refine call_con rfl (by kernel_rfl) (fun r w' hR => valid_ref A1 A2 A3 c1 c2 c3 b w' hb.ok (sl_later s2 hR.toBelow) (sl_later s3 hR.toBelow)) ?_
  rw [valid_same]
  conv => whnf
  refine ⟨fun hv => ?_, fun hv => ?_⟩
  · have hv : validB b = false := by simpa using hv
    have hF : copyAll b = b.ops := by unfold copyAll; rw [hv]; rfl
    rw [hF]
    conv => whnf
    refine ⟨true, fun _ => ?_, ?_⟩
    · conv => whnf
      refine ⟨_, k6, rfl, ?_⟩
      conv => whnf
      refine call_blkV2 (x := .bool true) 0 rfl (by kernel_rfl) (fun r w' A4 c4 hR h4 e1 e2 => ?_) ?_
      · refine (same_ref A1 A2 A3 A1 A2 A4 c1 c2 c3 c1 c2 c4 b b w' hb.ok.lat hb.ok.lpages hb.ok.lops (sl_later s1 hR.toBelow) (sl_later s2 hR.toBelow) (sl_later s3 hR.toBelow) (sl_later s1 hR.toBelow) (sl_later s2 hR.toBelow) h4).mono fun e w'' ⟨h, hB⟩ => ⟨?_, hB⟩
        rw [h, sameB_self]
      conv => whnf
      exact ⟨rfl, rfl, rfl, rfl, rfl⟩
    conv => whnf
    refine atq_ret ?_
    conv => whnf
    exact fin_val rfl fun w' hB => ⟨rfl, hB1.trans (hB.mono hB1.size)⟩
  conv => whnf
  refine satq_vc ?_
  conv => whnf
  refine ⟨true, fun _ => ?_, ?_⟩
  · conv => whnf
    refine call_blkV (x := .bool true) 0 rfl (by kernel_rfl) (fun r w' A4 c4 hR h4 e1 e2 => ?_) ?_
    · refine (copied_walk (copyAll b) A1 A2 A4 b.at_.length b.pages.length c1 c2 c4 w' h4 (Nat.le_trans (copyAll_length b) hb.ok.lops)).mono fun e w'' ⟨h, hB⟩ => ⟨?_, hB⟩
      rw [h, copy_law (by simpa using hv)]
    conv => whnf
    exact ⟨rfl, rfl, rfl, rfl, rfl⟩
  conv => whnf
  refine atq_ret ?_
  conv => whnf
  exact fin_val rfl fun w' hB => ⟨rfl, hB1.trans (hB.mono hB1.size)⟩
end Go.Proofs.Ytmjfgnnefcimiaa
namespace Go.Proofs.Ytmjfgnnefcimiaa
open Go.ChangeShapes Go.WideShapes Go.ChangeAt Go.RowKit

set_option maxRecDepth 100000 in
theorem optCopied_lifted (os : Os) (started : os.Started) (H : Type) (enc : TypeId × Value → H) :
    ReturnsInHanded {} Try.checked os 8 .any (Rows.optCopiedSpec.pre6 enc Try.prog Try.f8 Rows.optCopiedRow.domain false) (Rows.optCopiedSpec.post enc Try.prog Try.f8 false true false false) := by
  refine returnsInHanded_of_change (C := Try.checked) ownK started (by kernel_rfl) Try.func8
    (ChangeSpec.witness6 (enc := enc) (C := Try.checked) false ⟨#[], #[.slice none 0 0, .agg #[.int .i64 0, .int .i64 0, .int .i64 0]], []⟩ 8 (by kernel_rfl) (by kernel_rfl) (by kernel_rfl) (by kernel_rfl)) ?_
  intro W base args ds gs before hval0 hW hcnd _
  have hval : ∀ (j : Nat) t v, Try.f8.params[j]? = some t → args[j]? = some v → Value.okWide Try.prog W .any base t v := hval0
  have hW' := hW
  obtain ⟨p, q, hA0, hV, rfl, hfz, hnd⟩ := hW
  have hA : DataW.TrodAll enc Try.prog W 0 (fun _ => true) true Try.f8.params.toList args.toList ds p := hA0
  rw [Try.params8] at hA hval
  obtain ⟨v0, vs0, d0, ds0, p0, q0, hargs, rfl, rfl, h0, r0⟩ := trodAll_cons hA
  obtain ⟨v1, vs1, d1, ds1, p1, q1, rfl, rfl, rfl, h1, r1⟩ := trodAll_cons r0
  obtain ⟨rfl, rfl, rfl⟩ := trodAll_nil r1
  obtain rfl : args = #[v0, v1] := by cases args; simp_all
  obtain ⟨rfl, rfl⟩ := trodVars_none hV
  obtain ⟨a0, len0, cap0, rfl⟩ := okWide_slice Try.underlying22 (hval 0 22 v0 rfl rfl)
  have k0 := h0
  have k1 := h1
  have lt0 : ∀ x ∈ p0, x.block < W.heap.size := by obtain ⟨m, hm⟩ := k0; exact DataW.trod_lt m _ _ _ hm
  have lt1 : ∀ x ∈ p1, x.block < W.heap.size := by obtain ⟨m, hm⟩ := k1; exact DataW.trod_lt m _ _ _ hm
  obtain ⟨xs, w0, hl, hnc⟩ := open_sl h0
  obtain ⟨x, y, z, rfl⟩ := open_q (hval 1 23 v1 rfl rfl) h1
  clear hA0 hval0
  refine (copied_law a0 len0 cap0 xs x y z W w0 hl hnc).mono fun e W' ⟨he, bel⟩ => ?_
  subst he
  exact ⟨_, rfl, _, _, _, [], _, [], hW', trodAll_mk1 (shut_bool Try.underlying4 _), (trodAll_cons_mk (Below.trod laidOutP (by kernel_rfl) (of_decide_eq_true (by kernel_rfl)) k0 bel lt0) (trodAll_cons_mk (Below.trod laidOutP (by kernel_rfl) (of_decide_eq_true (by kernel_rfl)) k1 bel lt1) trodAll_mk0)), rfl, bel.frame _, fun h => by cases h⟩
theorem optCopied_holds : Rows.OptCopiedSaid :=
  OpenClaim.holds_of_wide 8 Try.f8 rfl rfl rfl rfl rfl rfl rfl ⟨rfl, rfl, rfl, rfl, rfl⟩ rfl rfl rfl rfl rfl (by kernel_rfl) Try.func8 (by kernel_rfl)
    (of_decide_eq_true (by kernel_rfl)) (by unfold Func.isWrapper; first | (rw [if_pos (by decide +kernel)]; kernel_rfl) | (rw [if_neg (by decide +kernel)]; exact ⟨rfl, rfl⟩))
    (fun os started H enc _ => optCopied_lifted os started H enc)
end Go.Proofs.Ytmjfgnnefcimiaa
#print axioms Go.Proofs.Ytmjfgnnefcimiaa.optCopied_holds
