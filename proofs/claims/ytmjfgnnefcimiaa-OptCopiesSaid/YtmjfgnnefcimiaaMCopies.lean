/- For every valid block, the result of Copies is valid, not longer and equivalent: for every input, without any condition. -/
import Derived.Test.YtmjfgnnefcimiaaM1
import Derived.Test.YtmjfgnnefcimiaaM13
import Derived.Test.YtmjfgnnefcimiaaM14
import Derived.Test.YtmjfgnnefcimiaaM15
import Derived.Test.YtmjfgnnefcimiaaM16
import Derived.Test.YtmjfgnnefcimiaaM17
import Derived.Test.YtmjfgnnefcimiaaM18
import Derived.Test.YtmjfgnnefcimiaaM19
import Derived.Test.YtmjfgnnefcimiaaM20
import Derived.Test.YtmjfgnnefcimiaaM21
import Derived.Test.YtmjfgnnefcimiaaM22
import Derived.Test.YtmjfgnnefcimiaaM23
import Derived.Test.YtmjfgnnefcimiaaM24
import Derived.Test.YtmjfgnnefcimiaaM25
import Derived.Test.YtmjfgnnefcimiaaM26
import Derived.Test.YtmjfgnnefcimiaaM27
import Derived.Test.YtmjfgnnefcimiaaM28
import Derived.Test.YtmjfgnnefcimiaaM29
import Derived.Test.YtmjfgnnefcimiaaM3
import Derived.Test.YtmjfgnnefcimiaaM30
import Derived.Test.YtmjfgnnefcimiaaM31
import Derived.Test.YtmjfgnnefcimiaaM32
import Derived.Test.YtmjfgnnefcimiaaM33
import Derived.Test.YtmjfgnnefcimiaaM34
import Derived.Test.YtmjfgnnefcimiaaM5
import Derived.Test.YtmjfgnnefcimiaaM6
import Derived.Test.YtmjfgnnefcimiaaM7
namespace Go.Proofs.Ytmjfgnnefcimiaa
open Go.RowKit

section
variable {w0 : World} {S : List Ow} {K : AV → List Ow → Prop} {b : Blk} {A1 A2 A3 : Option Addr} {n1 n2 n3 c1 c2 c3 : Nat}
/-- A pass over a block in plain memory. -/
theorem call_pass_pl {P : Program} {fid : FuncId} {F : Blk → List BOp} (hp : Pass P fid F) (hok : fnOk P fid = true) (hb : b.ok) (h0 : b.ops = [] → F b = []) (hn1 : b.at_.length = n1) (hn2 : b.pages.length = n2) (hn3 : b.ops.length = n3)
    (h1 : SlAt w0 w0.heap.size A1 (b.at_.map (.int .u32))) (h2 : SlAt w0 w0.heap.size A2 (b.pages.map (.int .i64))) (h3 : OpsAt w0 w0.heap.size A3 b.ops) (hc3 : n3 ≤ c3) (hm3 : c3 ≤ maxLen)
    (hK : K (.p (.agg [.v (.slice A1 n1 c1), .v (.slice A2 n2 c2), .row S.length])) (S ++ [.view viewT (F b).length ((F b).flatMap opC)])) :
    CallS P w0 Gs.nil fid [.p (.agg [.v (.slice A1 n1 c1), .v (.slice A2 n2 c2), .v (.slice A3 n3 c3)])] S K := by
  subst hn1; subst hn2; subst hn3
  refine ⟨hok, fun r w us hR hd => ?_⟩
  obtain ⟨u1, l1, rfl, d1, d2⟩ := hd
  obtain rfl : l1 = [] := d2
  obtain rfl := AV.val_den (x := .agg #[.slice A1 b.at_.length c1, .slice A2 b.pages.length c2, .slice A3 b.ops.length c3]) rfl d1
  refine (hp b A1 A2 A3 c1 c2 c3 w hb (sl_later h1 hR.toBelow) (sl_later h2 hR.toBelow) (sl_later h3 hR.toBelow) hc3 hm3).mono fun e w' ⟨A', c', he, ho, k1, k2, k3, hB⟩ => ?_
  refine ⟨.p (.agg [.v (.slice A1 b.at_.length c1), .v (.slice A2 b.pages.length c2), .row S.length]), _, _, r.set S.length none (some (.slice A' (F b).length c')), he, ⟨[.slice A1 b.at_.length c1, .slice A2 b.pages.length c2, .slice A' (F b).length c'], rfl, ?_⟩,
    hR.snoc (o := .view viewT (F b).length ((F b).flatMap opC)) hB (b := none) nofun ⟨A', c', by simp [Env.set], k1, ⟨k2, trivial⟩, by simp [Env.set], fun j u hj => ?_⟩, hR.le_new _ _, hK⟩
  · simp only [denL, CV.den]
    exact ⟨_, _, rfl, rfl, _, _, rfl, rfl, _, _, rfl, by simp [Env.set], rfl⟩
  · obtain ⟨b', off, e4, e5, e6⟩ := ho j u hj
    refine ⟨b', off, e4, e5, fun q hq => ?_, e6⟩
    simp only [Env.set] at hq
    split at hq
    · cases hq
    · rcases k3 with k3 | rfl
      · have := k3 b' off none e4
        have := (hR.new q b' hq).1
        omega
      · have hpos : 0 < b.ops.length := by
          rcases Nat.eq_zero_or_pos b.ops.length with h | h
          · rw [h0 (List.eq_nil_of_length_eq_zero h)] at hj; simp at hj
          · exact h
        have h5 := ops_lt (e4 ▸ h3) hpos
        exact absurd ((hR.new q b' hq).2 h5) (by simp)
end
theorem sameB_self (b : Blk) : sameB b b = true := by simp [sameB]
end Go.Proofs.Ytmjfgnnefcimiaa
namespace Go.Proofs.Ytmjfgnnefcimiaa
open Go.RowKit

theorem copyMark_not (s : Int → Option Int) {o : BOp} (ho : o.code ≠ 20) : copyMark s o = s := by unfold copyMark; rw [if_neg (by simpa using ho)]
end Go.Proofs.Ytmjfgnnefcimiaa
namespace Go.Proofs.Ytmjfgnnefcimiaa
open Go.RowKit

theorem ck_mark {s : Ck} {o : BOp} {x y : Bool} (hf : formedB o = true) (hp : placedB s o x y = true) (hc : o.code = 20) (hn : o.n = (s.marks : Int)) : ckNext s o x y = some ⟨s.marks + 1, 0, false⟩ := by
  unfold ckNext
  rw [if_pos (by rw [hf, hp]; rfl), if_pos (by simp [hc]), if_pos (by simp [hn])]
theorem ck_op {s : Ck} {o : BOp} {x y : Bool} (hf : formedB o = true) (hp : placedB s o x y = true) (hc : o.code ≠ 20) (hr : ∀ v ∈ reads o, readB s v = true) :
    ckNext s o x y = some ⟨s.marks, if 20 ≤ writes o then s.written ||| 2 ^ (writes o).toNat else s.written, s.changed || (stores o.code || decide (0 ≤ writes o ∧ writes o < 20))⟩ := by
  unfold ckNext
  rw [if_pos (by rw [hf, hp]; rfl), if_neg (by simpa using hc), if_pos (List.all_eq_true.2 hr)]
theorem ck_cons {s s1 : Ck} {o : BOp} {l : List BOp} (h : ckNext s o l.isEmpty (exitNext l) = some s1) : ckRun s (o :: l) = ckRun s1 l := by
  show (match ckNext s o l.isEmpty (exitNext l) with | some s' => ckRun s' l | none => none) = _
  rw [h]
theorem placed_parts {s : Ck} {o : BOp} {x y : Bool} : placedB s o x y = true ↔ endsB o.code = x ∧ (o.code = 23 → y = true) ∧ (leaves o.code = true → s.changed = false) := by
  unfold placedB
  simp only [Bool.and_eq_true, Bool.not_eq_true', Bool.and_eq_false_iff, beq_iff_eq, Bool.not_eq_false', beq_eq_false_iff_ne]
  constructor
  · rintro ⟨⟨h1, h2⟩, h3⟩
    refine ⟨h1, fun e => ?_, fun e => ?_⟩
    · rcases h2 with h2 | h2
      · exact absurd e h2
      · exact h2
    · rcases h3 with h3 | h3
      · rw [e] at h3; cases h3
      · exact h3
  · rintro ⟨h1, h2, h3⟩
    refine ⟨⟨h1, ?_⟩, ?_⟩
    · by_cases e : o.code = 23
      · exact .inr (h2 e)
      · exact .inl e
    · by_cases e : leaves o.code = true
      · exact .inr (h3 e)
      · exact .inl (by simpa using e)
theorem header_of {b : Blk} {l : List BOp} (h : headerB b = true) (h1 : 1 ≤ l.length) (h2 : l.length ≤ b.ops.length) (h3 : ∀ o, b.ops.head? = some o → o.code = 20 → ∃ p, l.head? = some p ∧ p.code = 20) : headerB ⟨b.at_, b.pages, l⟩ = true := by
  unfold headerB at h ⊢
  simp only [Bool.and_eq_true, decide_eq_true_eq] at h ⊢
  obtain ⟨⟨⟨k1, k2⟩, k3⟩, k4⟩ := h
  refine ⟨⟨⟨k1, k2⟩, by show 1 ≤ l.length ∧ l.length ≤ 2000; omega⟩, ?_⟩
  cases hb : b.ops with
  | nil => rw [hb] at k4; cases k4
  | cons o r =>
    rw [hb] at k4
    obtain ⟨p, hp, hc⟩ := h3 o (by rw [hb]; rfl) (by simpa using k4)
    cases l with
    | nil => cases hp
    | cons q m => injection hp with hp; subst hp; simp [hc]

/-! Fold. -/
theorem ck_empty {l : List BOp} (h : l.isEmpty = true) : l = [] := List.isEmpty_iff.1 h
theorem valid_of {b : Blk} {l : List BOp} (hv : validB b = true) (hne : b.ops ≠ [] → l ≠ []) (hlen : l.length ≤ b.ops.length) (hhead : ∀ o r, b.ops = o :: r → o.code = 20 → ∃ p, l.head? = some p ∧ p.code = 20) (hck : ∀ s1, ckRun ⟨0, 0, false⟩ b.ops = some s1 → ∃ s2, ckRun ⟨0, 0, false⟩ l = some s2 ∧ s2.marks = s1.marks) : validB ⟨b.at_, b.pages, l⟩ = true := by
  obtain ⟨h1, s, h2, h3⟩ := valid_parts.1 hv
  obtain ⟨s2, k1, k2⟩ := hck s h2
  have hpos := (valid_pos hv).1
  have hb : b.ops ≠ [] := fun e => by rw [e] at hpos; simp at hpos
  refine valid_parts.2 ⟨header_of h1 ?_ hlen (fun o ho hc => ?_), s2, k1, by rw [k2, h3]⟩
  · have := hne hb
    cases l with
    | nil => exact absurd rfl this
    | cons _ _ => simp
  · cases hbo : b.ops with
    | nil => exact absurd hbo hb
    | cons q r => rw [hbo] at ho; injection ho with ho; subst ho; exact hhead _ r hbo hc
end Go.Proofs.Ytmjfgnnefcimiaa
namespace Go.Proofs.Ytmjfgnnefcimiaa
open Go.RowKit

def ckAfter (s : Ck) (o : BOp) : Ck := ⟨s.marks, if 20 ≤ writes o then s.written ||| 2 ^ (writes o).toNat else s.written, s.changed || (stores o.code || decide (0 ≤ writes o ∧ writes o < 20))⟩
theorem readB_after (s : Ck) (o : BOp) (v : Int) : readB (ckAfter s o) v = (readB s v || decide (20 ≤ v ∧ writes o = v)) := by
  unfold readB ckAfter
  rw [Bool.eq_iff_iff]
  simp only [Bool.or_eq_true, decide_eq_true_eq]
  by_cases h : v < 20
  · simp [h]
  · split
    · rename_i hw
      rw [Nat.testBit_or, Nat.testBit_two_pow]
      simp only [Bool.or_eq_true, decide_eq_true_eq]
      constructor
      · rintro (h1 | h1 | h1)
        · exact .inl (.inl h1)
        · exact .inl (.inr h1)
        · right; omega
      · rintro ((h1 | h1) | h1)
        · exact .inl h1
        · exact .inr (.inl h1)
        · right; right; rw [h1.2]
    · rename_i hw
      constructor
      · intro h1; exact .inl h1
      · rintro (h1 | h1)
        · exact h1
        · omega
theorem ckSim_refl (s : Ck) : CkSim s s := ⟨rfl, fun _ h => h, fun h => h⟩
def CopyInv (f : Int → Option Int) (s : Ck) : Prop := ∀ v w, f v = some w → (0 ≤ w ∧ w < 28 ∧ w ≠ 19) ∧ readB s w = true
theorem mem_reads {o : BOp} {v : Int} : v ∈ reads o ↔ (hasA o.code = true ∧ v = o.a) ∨ (hasB o.code = true ∧ v = o.b ∧ o.b ≠ o.a) := by
  unfold reads
  rw [List.mem_append]
  constructor
  · rintro (h | h)
    · split at h
      · rename_i hA; exact .inl ⟨hA, by simpa using h⟩
      · cases h
    · split at h
      · rename_i hB; simp at hB; exact .inr ⟨hB.1, by simpa using h, hB.2⟩
      · cases h
  · rintro (⟨h1, h2⟩ | ⟨h1, h2, h3⟩)
    · left; rw [h1, h2]; simp
    · right; rw [if_pos (by rw [h1]; simp [h3]), h2]; simp
theorem hasA_of_B {c : Int} (h : hasB c = true) : hasA c = true := by
  unfold hasB at h; unfold hasA; rw [decide_eq_true_eq] at h ⊢; omega
theorem twoB_hasB (c : Int) : twoB c = hasB c := by
  unfold twoB hasB isBin; rw [Bool.eq_iff_iff]; simp; omega
theorem reads_b {o : BOp} (h : hasB o.code = true) : o.b ∈ reads o := by
  by_cases e : o.b = o.a
  · exact mem_reads.2 (.inl ⟨hasA_of_B h, e⟩)
  · exact mem_reads.2 (.inr ⟨h, rfl, e⟩)
theorem origS_cases (f : Int → Option Int) (x : Bool) (v : Int) : origS f x v = v ∨ (x = true ∧ f v = some (origS f x v)) := by
  unfold origS
  by_cases h : (x && (f v).isSome) = true
  · rw [if_pos h]
    simp only [Bool.and_eq_true] at h
    obtain ⟨w, hw⟩ := Option.isSome_iff_exists.1 h.2
    right; rw [hw]; exact ⟨h.1, rfl⟩
  · rw [if_neg h]; exact .inl rfl
theorem copyOp_formed {f : Int → Option Int} {s : Ck} (hI : CopyInv f s) {o : BOp} (hf : formedB o = true) : formedB (copyOp f o) = true := by
  obtain ⟨h1, h2, h3, h4, h5⟩ := formed_split.1 hf
  refine formed_split.2 ⟨h1, h2, ?_, ?_, h5⟩
  · show fieldB (hasA o.code) (origS f (memI o.a (reads o) && o.code != 20) o.a) = true
    rcases origS_cases f (memI o.a (reads o) && o.code != 20) o.a with e | ⟨e1, e2⟩
    · rw [e]; exact h3
    · cases hA : hasA o.code
      · exfalso
        simp only [Bool.and_eq_true] at e1
        have hB : hasB o.code = false := by
          cases hB : hasB o.code
          · rfl
          · rw [hasA_of_B hB] at hA; cases hA
        have hr : reads o = [] := by unfold reads; rw [hA, hB]; rfl
        rw [hr] at e1; simp [memI] at e1
      · unfold fieldB; rw [if_pos rfl, decide_eq_true_eq]; exact (hI _ _ e2).1
  · show fieldB (hasB o.code) (origS f (twoB o.code) o.b) = true
    rcases origS_cases f (twoB o.code) o.b with e | ⟨e1, e2⟩
    · rw [e]; exact h4
    · rw [twoB_hasB] at e1
      rw [e1]
      unfold fieldB; rw [if_pos rfl, decide_eq_true_eq]; exact (hI _ _ e2).1
theorem copyOp_reads {f : Int → Option Int} {s : Ck} (hI : CopyInv f s) {o : BOp} (hr : ∀ v ∈ reads o, readB s v = true) : ∀ v ∈ reads (copyOp f o), readB s v = true := by
  intro v hv
  rcases mem_reads.1 hv with ⟨h1, h2⟩ | ⟨h1, h2, _⟩
  · have h1 : hasA o.code = true := h1
    rw [h2]
    rcases origS_cases f (memI o.a (reads o) && o.code != 20) o.a with e | ⟨_, e2⟩
    · show readB s (origS f (memI o.a (reads o) && o.code != 20) o.a) = true
      rw [e]; exact hr _ (mem_reads.2 (.inl ⟨h1, rfl⟩))
    · exact (hI _ _ e2).2
  · have h1 : hasB o.code = true := h1
    rw [h2]
    rcases origS_cases f (twoB o.code) o.b with e | ⟨_, e2⟩
    · show readB s (origS f (twoB o.code) o.b) = true
      rw [e]; exact hr _ (reads_b h1)
    · exact (hI _ _ e2).2
theorem copyOp_mark (f : Int → Option Int) {o : BOp} (h : o.code = 20) : copyOp f o = o := by
  have h1 : (memI o.a (reads o) && o.code != 20) = false := by rw [h]; simp
  have h2 : twoB o.code = false := by rw [h]; rfl
  unfold copyOp
  rw [h1, h2]
  unfold origS
  rfl
theorem copy_follows : ∀ (l : List BOp) (f : Int → Option Int) {s s1 : Ck}, ckRun s l = some s1 → (copyRun f l).isEmpty = l.isEmpty
  | [], _, _, _, _ => rfl
  | o :: l, f, s, s1, h => by
    obtain ⟨s2, h1, h2⟩ := ck_uncons h
    unfold copyRun
    split
    · rename_i hk
      rw [copy_follows l _ h2]
      cases l with
      | nil =>
        have he := (placed_parts.1 (ck_step h1).2.1).1
        unfold copySkip at hk
        simp only [Bool.and_eq_true, beq_iff_eq] at hk
        have : o.code = 2 := hk.1
        rw [this] at he; cases he
      | cons _ _ => rfl
    · rfl
theorem copy_exit {l : List BOp} (f : Int → Option Int) (h : exitNext l = true) : exitNext (copyRun f l) = true := by
  cases l with
  | nil => cases h
  | cons o l =>
    have hc : o.code = 24 := by simpa [exitNext] using h
    unfold copyRun
    rw [if_neg (by unfold copySkip; show ¬ (o.code == 2 && _) = true; rw [hc]; simp)]
    show (o.code == 24) = true
    rw [hc]; rfl
theorem copyUpd_inv {f : Int → Option Int} {s : Ck} (hI : CopyInv f s) {p : BOp} (hf : formedB p = true) (hr : ∀ v ∈ reads p, readB s v = true) : CopyInv (copyUpd f p) (ckAfter s p) := by
  have hup : ∀ w, readB s w = true → readB (ckAfter s p) w = true := fun w hw => by rw [readB_after, hw]; rfl
  have hkill : ∀ v w, copyKill f (writes p) v = some w → (0 ≤ w ∧ w < 28 ∧ w ≠ 19) ∧ readB (ckAfter s p) w = true := fun v w hv => by
    obtain ⟨h1, _⟩ := Option.filter_eq_some_iff.1 hv
    unfold mdel at h1
    split at h1
    · cases h1
    · exact ⟨(hI _ _ h1).1, hup _ (hI _ _ h1).2⟩
  intro v w hv
  unfold copyUpd at hv
  split at hv
  · exact ⟨(hI _ _ hv).1, hup _ (hI _ _ hv).2⟩
  split at hv
  · rename_i hc
    have hc : p.code = 2 := by simpa using hc
    unfold mput at hv
    split at hv
    · injection hv with hv; subst hv
      refine ⟨?_, hup _ (hr _ (mem_reads.2 (.inl ⟨by rw [hc]; rfl, rfl⟩)))⟩
      have h3 := (formed_split.1 hf).2.2.1
      rw [hc] at h3
      unfold fieldB at h3
      rw [if_pos (show hasA 2 = true from rfl), decide_eq_true_eq] at h3
      exact h3
    · exact hkill v w hv
  · exact hkill v w hv
theorem copy_ck : ∀ (l : List BOp) (f : Int → Option Int) {s s' s1 : Ck}, CkSim s s' → CopyInv f s' → ckRun s l = some s1 → ∃ s2, ckRun s' (copyRun f l) = some s2 ∧ s2.marks = s1.marks
  | [], f, s, s', s1, hS, hI, h => by
    injection h with h; subst h; exact ⟨s', rfl, hS.marks⟩
  | o :: l, f, s, s', s1, hS, hI, h => by
    obtain ⟨s2, h1, h2⟩ := ck_uncons h
    obtain ⟨hf, hp, hm, ho⟩ := ck_step h1
    obtain ⟨p1, p2, p3⟩ := placed_parts.1 hp
    have hpl : ∀ (p : BOp) (g : Int → Option Int), p.code = o.code → placedB s' p (copyRun g l).isEmpty (exitNext (copyRun g l)) = true := fun p g hc =>
      placed_parts.2 ⟨by rw [hc, copy_follows l g h2]; exact p1, fun e => copy_exit g (p2 (hc ▸ e)), fun e => by
        have := p3 (hc ▸ e)
        cases hc' : s'.changed
        · rfl
        · rw [hS.ch hc'] at this; cases this⟩
    unfold copyRun
    by_cases hc : o.code = 20
    · obtain ⟨e1, e2⟩ := hm hc
      have hw : writes o = -1 := by unfold writes; rw [hc]; rfl
      rw [copyOp_mark _ hc, if_neg (by unfold copySkip; rw [hc]; simp)]
      have hu : copyUpd (copyMark f o) o = copyMark f o := by unfold copyUpd; rw [if_pos (by rw [hw]; decide)]
      rw [hu]
      have hI' : CopyInv (copyMark f o) s2 := fun v w hv => by
        unfold copyMark at hv
        rw [if_pos (by simp [hc])] at hv
        obtain ⟨k1, k2⟩ := Option.filter_eq_some_iff.1 hv
        unfold fdel at k1
        split at k1
        · cases k1
        · refine ⟨(hI _ _ k1).1, ?_⟩
          unfold readB
          have : w < 20 := by simpa using k2
          simp [this]
      obtain ⟨s3, k1, k2⟩ := copy_ck l (copyMark f o) (ckSim_refl s2) hI' h2
      refine ⟨s3, ?_, k2⟩
      rw [ck_cons (ck_mark hf (hpl o _ rfl) hc (by rw [hS.marks]; exact e1)), hS.marks, ← e2]
      exact k1
    · obtain ⟨hr, e2⟩ := ho hc
      have e2 : s2 = ckAfter s o := e2
      have hr' : ∀ v ∈ reads o, readB s' v = true := fun v hv => hS.known v (hr v hv)
      rw [copyMark_not f hc]
      have hfp := copyOp_formed hI hf
      have hrp := copyOp_reads hI hr'
      have hwp : writes (copyOp f o) = writes o := rfl
      by_cases hk : copySkip (copyOp f o) = true
      · rw [if_pos hk]
        refine copy_ck l f (s' := s') ⟨by rw [e2]; exact hS.marks, fun v hv => ?_, fun hc' => by rw [e2]; show (s.changed || _) = true; rw [hS.ch hc']; rfl⟩ hI h2
        rw [e2, readB_after, Bool.or_eq_true, decide_eq_true_eq] at hv
        rcases hv with hv | ⟨_, hv⟩
        · exact hS.known v hv
        · unfold copySkip at hk
          simp only [Bool.and_eq_true, beq_iff_eq] at hk
          have hc2 : o.code = 2 := hk.1
          have hwd : writes o = o.d := by unfold writes; rw [hc2]; rfl
          have : v = (copyOp f o).a := by rw [← hk.2, ← hv, hwd]; rfl
          rw [this]
          exact hrp _ (mem_reads.2 (.inl ⟨by show hasA o.code = true; rw [hc2]; rfl, rfl⟩))
      · rw [if_neg hk]
        have hst : ckNext s' (copyOp f o) (copyRun (copyUpd f (copyOp f o)) l).isEmpty (exitNext (copyRun (copyUpd f (copyOp f o)) l)) = some (ckAfter s' (copyOp f o)) := ck_op hfp (hpl _ _ rfl) hc hrp
        rw [ck_cons hst]
        refine copy_ck l _ ⟨by rw [e2]; exact hS.marks, fun v hv => ?_, fun hc' => ?_⟩ (copyUpd_inv hI hfp hrp) h2
        · rw [e2, readB_after] at hv
          rw [readB_after, hwp]
          rw [Bool.or_eq_true] at hv ⊢
          rcases hv with hv | hv
          · exact .inl (hS.known v hv)
          · exact .inr hv
        · rw [e2]
          have hc' : (s'.changed || (stores o.code || decide (0 ≤ writes o ∧ writes o < 20))) = true := hc'
          show (s.changed || (stores o.code || decide (0 ≤ writes o ∧ writes o < 20))) = true
          rw [Bool.or_eq_true] at hc' ⊢
          rcases hc' with h | h
          · exact .inl (hS.ch h)
          · exact .inr h
theorem copy_valid {b : Blk} (hv : validB b = true) : validB (copyP b) = true := by
  unfold copyP copyAll
  rw [if_pos hv]
  obtain ⟨_, s, h2, _⟩ := valid_parts.1 hv
  refine valid_of hv (fun hb => ?_) (copyRun_length _ _) (fun o r hb hc => ?_) (fun s1 h => copy_ck b.ops noneF (ckSim_refl _) (fun v w h => by cases h) h)
  · intro he
    have := copy_follows b.ops noneF h2
    rw [he] at this
    exact hb (ck_empty this.symm)
  · rw [hb]
    unfold copyRun
    rw [copyOp_mark _ hc, if_neg (by unfold copySkip; rw [hc]; simp)]
    exact ⟨o, rfl, hc⟩

/-! Dead. -/
/-! The result of Opt. -/
end Go.Proofs.Ytmjfgnnefcimiaa
namespace Go.Proofs.Ytmjfgnnefcimiaa
open Go.RowKit

theorem set_getV {vs : List Int} (h : VarsOk vs) {d : Int} (hd : 0 ≤ d ∧ d < 28) : vs.set d.toNat (getV vs d) = vs := by
  have hlt : d.toNat < vs.length := by rw [h.len]; omega
  unfold getV
  rw [List.getElem?_eq_getElem hlt]
  exact List.set_getElem_self hlt
/-- What an operation does to the variables: at most it sets the one that it writes. -/
theorem applyP_vs {o : BOp} (hf : formedB o = true) (vs : List Int) (M : MemP) : (applyP o vs M).vs = vs ∨ (hasD o.code = true ∧ writes o = o.d ∧ ∃ x, (applyP o vs M).vs = vs.set o.d.toNat x) := by
  have hD : hasD o.code = true → writes o = o.d := fun h => (formed_d hf h).2.2
  have hd : 1 ≤ o.code → o.code ≤ 17 → hasD o.code = true := fun h1 h2 => by unfold hasD; rw [decide_eq_true_eq]; exact ⟨h1, h2⟩
  unfold applyP
  split
  · rename_i h; have := hd (by omega) (by omega); exact .inr ⟨this, hD this, _, rfl⟩
  split
  · rename_i h; have := hd (by omega) (by omega); exact .inr ⟨this, hD this, _, rfl⟩
  split
  · rename_i h; have := hd (by omega) (by omega)
    split
    · exact .inr ⟨this, hD this, _, rfl⟩
    · exact .inl rfl
  split
  · exact .inl rfl
  split
  · exact .inl rfl
  split
  · exact .inl rfl
  split
  · rename_i h
    have h' : 3 ≤ o.code ∧ o.code ≤ 15 := by unfold isBin at h; simpa using h
    have := hd (by omega) (by omega); exact .inr ⟨this, hD this, _, rfl⟩
  · exact .inl rfl
theorem applyP_other {o : BOp} (hf : formedB o = true) (vs : List Int) (M : MemP) {v : Int} (hv : 0 ≤ v) (hne : writes o ≠ v) : getV (applyP o vs M).vs v = getV vs v := by
  rcases applyP_vs hf vs M with h | ⟨h1, h2, x, h⟩
  · rw [h]
  · rw [h]
    have := formed_d' hf
    exact getV_set_ne this.1 hv (fun e => hne (by rw [h2, e]))
/-- An operation in the place of another that does the same. -/
theorem evalL_head {ats : List Int} {o p : BOp} {l m : List BOp} {i : Int} {vs : List Int} {M : MemP} (hc : p.code = o.code) (hn : p.n = o.n) (ha : getV vs p.a = getV vs o.a) (hA : applyP p vs M = applyP o vs M) (hl : evalL ats l (markI o i) (applyP o vs M).vs (applyP o vs M).mem = evalL ats m (markI o i) (applyP o vs M).vs (applyP o vs M).mem) : evalL ats (p :: l) i vs M = evalL ats (o :: m) i vs M := by
  have hm : markI p i = markI o i := by unfold markI; rw [hc, hn]
  show (if _ then _ else _) = (if _ then _ else _)
  rw [hc, hn, ha, hA, hm, hl]

/-! Fold. -/
/-! Copies. -/
def CopySem (s : Int → Option Int) (vs : List Int) : Prop := ∀ v w, s v = some w → (0 ≤ w ∧ w < 28 ∧ w ≠ 19) ∧ (0 ≤ v → v < 28 → getV vs v = getV vs w)
theorem copySem_none (vs : List Int) : CopySem noneF vs := nofun
theorem copySem_mark {s : Int → Option Int} {vs : List Int} (h : CopySem s vs) (o : BOp) : CopySem (copyMark s o) vs := by
  unfold copyMark
  split
  · intro v w hv
    obtain ⟨h1, _⟩ := Option.filter_eq_some_iff.1 hv
    unfold fdel at h1
    split at h1
    · cases h1
    · exact h v w h1
  · exact h
theorem origS_sem {s : Int → Option Int} {vs : List Int} (h : CopySem s vs) (x : Bool) {v : Int} (h0 : 0 ≤ v) (h1 : v < 28) : getV vs (origS s x v) = getV vs v ∧ 0 ≤ origS s x v ∧ origS s x v < 28 := by
  rcases origS_cases s x v with e | ⟨_, e⟩
  · rw [e]; exact ⟨rfl, h0, h1⟩
  · obtain ⟨h2, h3⟩ := h _ _ e
    exact ⟨(h3 h0 h1).symm, h2.1, h2.2.1⟩
theorem copySem_upd {s : Int → Option Int} {vs : List Int} (h : CopySem s vs) (hv : VarsOk vs) {p : BOp} (hf : formedB p = true) (hk : copySkip p = false) (M : MemP) : CopySem (copyUpd s p) (applyP p vs M).vs := by
  unfold copyUpd
  by_cases hw : writes p < 0
  · rw [if_pos hw]
    intro v w hs
    obtain ⟨h1, h2⟩ := h v w hs
    refine ⟨h1, fun v0 v1 => ?_⟩
    rw [applyP_other hf vs M v0 (by omega), applyP_other hf vs M h1.1 (by omega)]
    exact h2 v0 v1
  rw [if_neg hw]
  have key : ∀ v w, copyKill s (writes p) v = some w → (0 ≤ w ∧ w < 28 ∧ w ≠ 19) ∧ (0 ≤ v → v < 28 → getV (applyP p vs M).vs v = getV (applyP p vs M).vs w) := by
    intro v w hs
    unfold copyKill at hs
    obtain ⟨h1, h2⟩ := Option.filter_eq_some_iff.1 hs
    have h2 : w ≠ writes p := by simpa using h2
    unfold mdel at h1
    split at h1
    · cases h1
    · rename_i hne
      obtain ⟨h3, h4⟩ := h v w h1
      refine ⟨h3, fun v0 v1 => ?_⟩
      rw [applyP_other hf vs M v0 (fun e => hne e.symm), applyP_other hf vs M h3.1 (fun e => h2 e.symm)]
      exact h4 v0 v1
  split
  · rename_i hc
    have hc' : p.code = 2 := by simpa using hc
    have hD : hasD p.code = true := by rw [hc']; rfl
    obtain ⟨d0, d1, dw⟩ := formed_d hf hD
    have ha := formed_a hf
    have hne : p.d ≠ p.a := by
      unfold copySkip at hk
      rw [hc, Bool.true_and] at hk
      simpa using hk
    intro v w hs
    unfold mput at hs
    split at hs
    · rename_i he
      injection hs with hs
      subst hs
      have hA := (formed_split.1 hf).2.2.1
      rw [hc'] at hA
      have hA : 0 ≤ p.a ∧ p.a < 28 ∧ p.a ≠ 19 := by simpa [fieldB, hasA] using hA
      refine ⟨hA, fun _ _ => ?_⟩
      rw [he, dw, applyP_move hc']
      show getV (vs.set p.d.toNat (getV vs p.a)) p.d = getV (vs.set p.d.toNat (getV vs p.a)) p.a
      rw [getV_set hv ⟨d0, d1⟩, getV_set_ne d0 ha.1 (fun e => hne e.symm)]
    · exact key v w hs
  · exact key
theorem applyP_cong {o p : BOp} {vs us : List Int} (M : MemP) (hc : p.code = o.code) (hd : p.d = o.d) (hn : p.n = o.n) (ha : getV us p.a = getV vs o.a) (hb : getV us p.b = getV vs o.b) (hv : us = vs) : applyP p us M = applyP o vs M := by
  subst hv
  unfold applyP
  rw [hc, hd, hn, ha, hb]
theorem copyOp_formed' {f : Int → Option Int} (hI : ∀ v w, f v = some w → 0 ≤ w ∧ w < 28 ∧ w ≠ 19) {o : BOp} (hf : formedB o = true) : formedB (copyOp f o) = true := by
  obtain ⟨h1, h2, h3, h4, h5⟩ := formed_split.1 hf
  refine formed_split.2 ⟨h1, h2, ?_, ?_, h5⟩
  · show fieldB (hasA o.code) (origS f (memI o.a (reads o) && o.code != 20) o.a) = true
    rcases origS_cases f (memI o.a (reads o) && o.code != 20) o.a with e | ⟨e1, e2⟩
    · rw [e]; exact h3
    · cases hA : hasA o.code
      · exfalso
        simp only [Bool.and_eq_true] at e1
        have hB : hasB o.code = false := by
          cases hB : hasB o.code
          · rfl
          · rw [hasA_of_B hB] at hA; cases hA
        have hr : reads o = [] := by unfold reads; rw [hA, hB]; rfl
        rw [hr] at e1; simp [memI] at e1
      · unfold fieldB; rw [if_pos rfl, decide_eq_true_eq]; exact hI _ _ e2
  · show fieldB (hasB o.code) (origS f (twoB o.code) o.b) = true
    rcases origS_cases f (twoB o.code) o.b with e | ⟨e1, e2⟩
    · rw [e]; exact h4
    · rw [twoB_hasB] at e1
      rw [e1]
      unfold fieldB; rw [if_pos rfl, decide_eq_true_eq]; exact hI _ _ e2
theorem copy_eval (ats : List Int) : ∀ (l : List BOp) (s : Int → Option Int) (i : Int) (vs : List Int) (M : MemP), VarsOk vs → CopySem s vs → (∀ o ∈ l, formedB o = true) → (∀ o ∈ l, o.ok) → evalL ats (copyRun s l) i vs M = evalL ats l i vs M
  | [], _, _, _, _, _, _, _, _ => rfl
  | o :: l, s, i, vs, M, hv, hs, hf, hok => by
    have hfo := hf o (by simp)
    have hoo := hok o (by simp)
    have hs1 := copySem_mark hs o
    have ha := formed_a hfo
    have hb := formed_b hfo
    generalize hg : copyMark s o = s1 at hs1
    have ih : ∀ (g : Int → Option Int) (j : Int) (us : List Int) (Q : MemP), VarsOk us → CopySem g us → evalL ats (copyRun g l) j us Q = evalL ats l j us Q := fun g j us Q h1 h2 => copy_eval ats l g j us Q h1 h2 (fun p hp => hf p (by simp [hp])) (fun p hp => hok p (by simp [hp]))
    have e0 : copyRun s (o :: l) = if copySkip (copyOp s1 o) then copyRun s1 l else copyOp s1 o :: copyRun (copyUpd s1 (copyOp s1 o)) l := by rw [← hg]; rfl
    rw [e0]
    obtain ⟨a1, a2, a3⟩ := origS_sem hs1 (memI o.a (reads o) && o.code != 20) ha.1 ha.2
    obtain ⟨b1, b2, b3⟩ := origS_sem hs1 (twoB o.code) hb.1 hb.2
    have hA : applyP (copyOp s1 o) vs M = applyP o vs M := applyP_cong M rfl rfl rfl a1 b1 rfl
    by_cases hk : copySkip (copyOp s1 o) = true
    · rw [if_pos hk]
      unfold copySkip at hk
      simp only [Bool.and_eq_true, beq_iff_eq] at hk
      have hc : o.code = 2 := hk.1
      have hda : o.d = (copyOp s1 o).a := hk.2
      have hD : hasD o.code = true := by rw [hc]; rfl
      obtain ⟨d0, d1, _⟩ := formed_d hfo hD
      have e : applyP o vs M = ⟨vs, true, M⟩ := by
        rw [applyP_move hc]
        have : getV vs o.a = getV vs o.d := by rw [hda]; exact a1.symm
        rw [this, set_getV hv ⟨d0, d1⟩]
      rw [evalL_go (by omega) (by omega) (by rw [e]), e, ih _ _ _ _ hv hs1, show markI o i = i from if_neg (by omega)]
    · rw [if_neg hk]
      have hpf : formedB (copyOp s1 o) = true := copyOp_formed' (fun v w h => (hs1 v w h).1) hfo
      refine evalL_head rfl rfl a1 hA (ih _ _ _ _ (applyP_ok hv hoo.n) ?_)
      rw [← hA]
      exact copySem_upd hs1 hv hpf (by simpa using hk) M
end Go.Proofs.Ytmjfgnnefcimiaa
namespace Go.Proofs.Ytmjfgnnefcimiaa
open Go.RowKit

theorem copy_same {b : Blk} (hb : b.ok) (hv : validB b = true) {vs : List Int} (hvs : VarsOk vs) (M : MemP) : evalBlk (copyP b) vs M = evalBlk b vs M := by
  unfold evalBlk
  rw [if_pos (copy_valid hv), if_pos hv]
  show evalL b.at_ (copyAll b) 0 vs M = _
  unfold copyAll
  rw [if_pos hv]
  exact copy_eval b.at_ b.ops noneF 0 vs M hvs (copySem_none vs) (valid_formed hv) hb.ops
end Go.Proofs.Ytmjfgnnefcimiaa
namespace Go.Proofs.Ytmjfgnnefcimiaa
open Go.RowKit

set_option maxRecDepth 100000 in
set_option maxHeartbeats 1000000 in
theorem alike_walk (b c : Blk) (x : SetP) (A1 A2 A3 B1 B2 B3 : Option Addr) (c1 c2 c3 d1 d2 d3 : Nat) (w : World) (hb : b.ok) (hc : c.ok) (hvb : validB b = true) (hvc : validB c = true) (hx : x.ok) (hB : BlkAt w b A1 A2 A3) (hC : BlkAt w c B1 B2 B3) (heq : evalBlk c x.all (setupM x) = evalBlk b x.all (setupM x)) (hlen : (evalBlk b x.all (setupM x)).out.vars.length = 28) (hmem : (evalBlk b x.all (setupM x)).mem.ok 768 3) :
    Calls Try.prog 36 #[.agg #[.slice A1 b.at_.length c1, .slice A2 b.pages.length c2, .slice A3 b.ops.length c3], .agg #[.slice B1 c.at_.length d1, .slice B2 c.pages.length d2, .slice B3 c.ops.length d3], setV x] w fun e w' => e = .returned (.bool true) ∧ Below w.heap.size w w' := by
  have hvs := all_ok hx
  refine calls_satq [.agg #[.slice A1 b.at_.length c1, .slice A2 b.pages.length c2, .slice A3 b.ops.length c3], .agg #[.slice B1 c.at_.length d1, .slice B2 c.pages.length d2, .slice B3 c.ops.length d3], setV x] Try.func36 Try.ntmps36 rfl (by simp) ?_
  refine satq_seq ?_
  conv => whnf
  refine satq_restart fun r w1 hR => ?_
  obtain ⟨g3, us3, e3, f3, k3⟩ := own_cellsAt hR 0 rfl
  obtain rfl := denL_vals_inv (us := [.slice A1 b.at_.length c1, .slice A2 b.pages.length c2, .slice A3 b.ops.length c3]) f3
  obtain ⟨g4, us4, e4, f4, k4⟩ := own_cellsAt hR 1 rfl
  obtain rfl := denL_vals_inv (us := [.slice B1 c.at_.length d1, .slice B2 c.pages.length d2, .slice B3 c.ops.length d3]) f4
  obtain ⟨g5, us5, e5, f5, k5⟩ := own_cellsAt hR 2 rfl
  obtain rfl := denL_vals_inv (us := setL x) f5
  have hB0 := hR.toBelow
  refine ⟨slotFr [(3, .pointer (some ⟨g3, 0, none⟩)), (4, .pointer (some ⟨g4, 0, none⟩)), (5, .pointer (some ⟨g5, 0, none⟩))], fun a hf => slots_den ⟨slot_ref hf 3 rfl e3, slot_ref hf 4 rfl e4, slot_ref hf 5 rfl e5, trivial⟩, ?_⟩
  have hB1 := hB.later hB0
  have hC1 := hC.later hB0
  clear hR e3 e4 e5 f3 f4 f5
  refine satq_mid (α := Unit) (fun _ => [(3, one (.pointer (some ⟨g3, 0, none⟩))), (4, one (.pointer (some ⟨g4, 0, none⟩))), (5, one (.pointer (some ⟨g5, 0, none⟩))), (7, .p (.c (.ref 0 0))), (8, .p (.c (.ref 6 0)))]) (fun _ => memS 0 768 3 (setupM x) ++ memS 6 768 3 (setupM x)) ?_ fun _ => ?_
  · refine satq_vc ?_
    refine sat_anyG (.q 0 (.q 2 (.alt 1 (.alt 3 (.q 4 (.q 5 .done)) .no) .no))) mixed (by kernel_rfl) (by kernel_rfl) ?_
    conv => whnf
    refine ⟨setL x, k5, setL_length hx, ?_⟩
    conv => whnf
    refine ⟨setL x, k5, setL_length hx, ?_⟩
    conv => whnf
    refine ⟨?_, trivial⟩
    conv => whnf
    refine call_newObjs (xs := [setV x]) (memS 0 768 3 (setupM x)) (memS 0 768 3 (setupM x)) (avals_set x) (by kernel_rfl) (memS_sh 0 768 3 _) (memS_ob 768 3 _) (fun r w' hR => setup_mem x w' hx) ?_
    conv => whnf
    refine ⟨?_, trivial⟩
    conv => whnf
    refine call_newObjs (xs := [setV x]) (memS 0 768 3 (setupM x)) (memS 6 768 3 (setupM x)) (avals_set x) (by kernel_rfl) (memS_sh 6 768 3 _) (memS_ob 768 3 _) (fun r w' hR => setup_mem x w' hx) ?_
    conv => whnf
    exact atq_mid () (ent_same rfl (aI rfl (aI rfl (aI rfl (aI rfl (aI rfl trivial))))) (aI ((aI rfl (Or.inl rfl))) (aI ((aI rfl (Or.inl rfl))) (aI ((aI rfl (Or.inl rfl))) (aI ((aI rfl (Or.inl rfl))) (aI ((aI rfl (Or.inl rfl))) (aI ((aI rfl (Or.inl rfl))) (aI ((aI rfl (Or.inl rfl))) (aI ((aI rfl (Or.inl rfl))) (aI ((aI rfl (Or.inl rfl))) (aI ((aI rfl (Or.inl rfl))) (aI ((aI rfl (Or.inl rfl))) (aI ((aI rfl (Or.inl rfl))) trivial)))))))))))))
  · refine satq_vc ?_
    refine sat_anyG (.q 0 (.q 1 (.q 3 (.q 5 (.q 6 (.q 8 (.alt 2 (.alt 4 (.alt 7 (.alt 9 (.alt 10 (.q 11 (.q 12 (.q 13 (.alt 14 (.q 15 (.q 16 .done)) .no)))) .no) .no) .no) .no) .no))))))) mixed (by kernel_rfl) (by kernel_rfl) ?_
    conv => whnf
    refine ⟨_, k3, rfl, ?_⟩
    conv => whnf
    refine ⟨setL x, k5, setL_length hx, ?_⟩
    conv => whnf
    refine ⟨_, k4, rfl, ?_⟩
    conv => whnf
    refine ⟨setL x, k5, setL_length hx, ?_⟩
    conv => whnf
    refine ⟨?_, trivial⟩
    conv => whnf
    refine call_con (xs := [setV x]) (x := varsV x.all) (avals_set x) (by kernel_rfl) (fun r w' hR => vars_walk x w' hx) ?_
    conv => whnf
    refine ⟨?_, trivial⟩
    conv => whnf
    refine call_memW (pre := [.p (.agg [.v (.slice A1 b.at_.length c1), .v (.slice A2 b.pages.length c2), .v (.slice A3 b.ops.length c3)]), .p (.agg (varsC x.all))]) (suf := []) 0 768 3 (setupM x) (evalBlk b x.all (setupM x)).mem (outV (evalBlk b x.all (setupM x)).out) (fun i hi => ?_) (avals_blk_vars _ _ _ _) rfl (by kernel_rfl) (fun w' g gs hk hU => eval_walk b x.all 768 3 (setupM x) A1 A2 A3 c1 c2 c3 w' g gs hU setupM_ok hb hvb hvs (slAt_keeps hk hB1.at_) (slAt_keeps hk hB1.pages) (slAt_keeps hk hB1.ops)) ?_
    · exact mem2_get 0 768 3 _ _ i hi
    conv => whnf
    refine ⟨?_, trivial⟩
    conv => whnf
    refine call_con (xs := [setV x]) (x := varsV x.all) (avals_set x) (by kernel_rfl) (fun r w' hR => vars_walk x w' hx) ?_
    conv => whnf
    refine ⟨?_, trivial⟩
    conv => whnf
    refine call_memW (pre := [.p (.agg [.v (.slice B1 c.at_.length d1), .v (.slice B2 c.pages.length d2), .v (.slice B3 c.ops.length d3)]), .p (.agg (varsC x.all))]) (suf := []) 6 768 3 (setupM x) (evalBlk c x.all (setupM x)).mem (outV (evalBlk c x.all (setupM x)).out) (fun i hi => ?_) (avals_blk_vars _ _ _ _) rfl (by kernel_rfl) (fun w' g gs hk hU => eval_walk c x.all 768 3 (setupM x) B1 B2 B3 d1 d2 d3 w' g gs hU setupM_ok hc hvc hvs (slAt_keeps hk hC1.at_) (slAt_keeps hk hC1.pages) (slAt_keeps hk hC1.ops)) ?_
    · have : i = 0 ∨ i = 1 ∨ i = 2 ∨ i = 3 ∨ i = 4 ∨ i = 5 := by omega
      rcases this with rfl | rfl | rfl | rfl | rfl | rfl <;> rfl
    rw [heq]
    conv => whnf
    refine ⟨?_, trivial⟩
    conv => whnf
    refine q_eql_out (evalBlk b x.all (setupM x)).out hlen rfl rfl rfl ?_
    conv => whnf
    refine ⟨?_, trivial⟩
    conv => whnf
    refine call_mem2 0 6 768 3 (evalBlk b x.all (setupM x)).mem hmem (fun i hi => ?_) (fun i hi => ?_) ?_
    · have : i = 0 ∨ i = 1 ∨ i = 2 ∨ i = 3 ∨ i = 4 ∨ i = 5 := by omega
      rcases this with rfl | rfl | rfl | rfl | rfl | rfl <;> rfl
    · have : i = 0 ∨ i = 1 ∨ i = 2 ∨ i = 3 ∨ i = 4 ∨ i = 5 := by omega
      rcases this with rfl | rfl | rfl | rfl | rfl | rfl <;> rfl
    conv => whnf
    refine atq_ret ?_
    conv => whnf
    exact fin_val rfl fun w' hB => ⟨rfl, hB0.trans (hB.mono hB0.size)⟩
end Go.Proofs.Ytmjfgnnefcimiaa
namespace Go.Proofs.Ytmjfgnnefcimiaa
open Go.RowKit

theorem avals_two_set (s1 s2 s3 t1 t2 t3 : Value) (x : SetP) : avals [.p (.agg [.v s1, .v s2, .v s3]), .p (.agg [.v t1, .v t2, .v t3]), .p (.agg ((setL x).map .v))] = some [.agg #[s1, s2, s3], .agg #[t1, t2, t3], setV x] := by
  simp only [avals, AV.val, Pc.val, valL_vals, valL, CV.val]
set_option maxRecDepth 100000 in
set_option maxHeartbeats 1000000 in
theorem sound_walk (b c : Blk) (x : SetP) (A1 A2 A3 B3 : Option Addr) (c1 c2 c3 d3 : Nat) (w : World) (hb : b.ok) (hc : c.ok) (hvb : validB b = true) (hvc : validB c = true) (hat : c.at_ = b.at_) (hpg : c.pages = b.pages) (hle : c.ops.length ≤ b.ops.length) (hx : x.ok) (hB : BlkAt w b A1 A2 A3) (hC : OpsAt w w.heap.size B3 c.ops) (heq : evalBlk c x.all (setupM x) = evalBlk b x.all (setupM x)) (hlen : (evalBlk b x.all (setupM x)).out.vars.length = 28) (hmem : (evalBlk b x.all (setupM x)).mem.ok 768 3) :
    Calls Try.prog 16 #[.agg #[.slice A1 b.at_.length c1, .slice A2 b.pages.length c2, .slice A3 b.ops.length c3], .agg #[.slice A1 b.at_.length c1, .slice A2 b.pages.length c2, .slice B3 c.ops.length d3], setV x] w fun e w' => e = .returned (.bool true) ∧ Below w.heap.size w w' := by
  refine calls_satq [.agg #[.slice A1 b.at_.length c1, .slice A2 b.pages.length c2, .slice A3 b.ops.length c3], .agg #[.slice A1 b.at_.length c1, .slice A2 b.pages.length c2, .slice B3 c.ops.length d3], setV x] Try.func16 Try.ntmps16 rfl (by simp) ?_
  refine satq_seq ?_
  conv => whnf
  refine satq_restart fun r w1 hR => ?_
  obtain ⟨g3, us3, e3, f3, k3⟩ := own_cellsAt hR 0 rfl
  obtain rfl := denL_vals_inv (us := [.slice A1 b.at_.length c1, .slice A2 b.pages.length c2, .slice A3 b.ops.length c3]) f3
  obtain ⟨g4, us4, e4, f4, k4⟩ := own_cellsAt hR 1 rfl
  obtain rfl := denL_vals_inv (us := [.slice A1 b.at_.length c1, .slice A2 b.pages.length c2, .slice B3 c.ops.length d3]) f4
  obtain ⟨g5, us5, e5, f5, k5⟩ := own_cellsAt hR 2 rfl
  obtain rfl := denL_vals_inv (us := setL x) f5
  have hB0 := hR.toBelow
  refine ⟨slotFr [(3, .pointer (some ⟨g3, 0, none⟩)), (4, .pointer (some ⟨g4, 0, none⟩)), (5, .pointer (some ⟨g5, 0, none⟩))], fun a hf => slots_den ⟨slot_ref hf 3 rfl e3, slot_ref hf 4 rfl e4, slot_ref hf 5 rfl e5, trivial⟩, ?_⟩
  have hB1 := hB.later hB0
  have hC1 := sl_later hC hB0
  clear hR e3 e4 e5 f3 f4 f5
  have part : ∀ {g : Nat} {s1 s2 s3 : Value}, CellsAt w1 Gs.nil g 0 [s1, s2, s3] → CellsAt w1 Gs.nil g 0 [s1] ∧ CellsAt w1 Gs.nil g 1 [s2] ∧ CellsAt w1 Gs.nil g 2 [s3] := fun {g s1 s2 s3} h =>
    ⟨cells_one h.1 h.2.1 (h.2.2 0 s1 rfl), cells_one h.1 h.2.1 (h.2.2 1 s2 rfl), cells_one h.1 h.2.1 (h.2.2 2 s3 rfl)⟩
  obtain ⟨p41, p42, p43⟩ := part k4
  obtain ⟨p31, p32, p33⟩ := part k3
  refine satq_vc ?_
  conv => whnf
  refine ⟨_, p41, ?_⟩
  conv => whnf
  refine ⟨_, p42, ?_⟩
  conv => whnf
  refine ⟨_, p33, ?_⟩
  conv => whnf
  refine ⟨_, k4, rfl, ?_⟩
  conv => whnf
  refine call_con (x := .bool true) rfl (by kernel_rfl) (fun r w' hR => ?_) ?_
  · have := valid_ref A1 A2 B3 c1 c2 d3 c w' hc (by rw [hpg]; exact sl_later hB1.pages hR.toBelow) (sl_later hC1 hR.toBelow)
    rw [valid_same, hvc, hat, hpg] at this
    exact this
  conv => whnf
  refine ⟨true, fun _ => ?_, ?_⟩
  · conv => whnf
    refine ⟨_, k3, rfl, ?_⟩
    conv => whnf
    refine call_con (x := .bool true) rfl (by kernel_rfl) (fun r w' hR => ?_) ?_
    · have := same_ref A1 A2 A3 A1 A2 A3 c1 c2 c3 c1 c2 c3 b b w' hb.lat hb.lpages hb.lops (sl_later hB1.at_ hR.toBelow) (sl_later hB1.pages hR.toBelow) (sl_later hB1.ops hR.toBelow) (sl_later hB1.at_ hR.toBelow) (sl_later hB1.pages hR.toBelow) (sl_later hB1.ops hR.toBelow)
      rw [sameB_self] at this
      exact this
    conv => whnf
    exact ⟨rfl, rfl, rfl, rfl, rfl⟩
  conv => whnf
  refine ⟨true, fun _ => ?_, ?_⟩
  · conv => whnf
    refine ⟨_, p43, ?_⟩
    conv => whnf
    refine ⟨_, p33, ?_⟩
    conv => whnf
    rw [show decide ((c.ops.length : Int) ≤ (b.ops.length : Int)) = true by simp; omega]
    exact ⟨rfl, rfl, rfl, rfl, rfl⟩
  conv => whnf
  refine ⟨true, fun _ => ?_, ?_⟩
  · conv => whnf
    refine ⟨_, k3, rfl, ?_⟩
    conv => whnf
    refine ⟨_, k4, rfl, ?_⟩
    conv => whnf
    refine ⟨setL x, k5, setL_length hx, ?_⟩
    conv => whnf
    refine call_con (x := .bool true) (avals_two_set _ _ _ _ _ _ x) (by kernel_rfl) (fun r w' hR => ?_) ?_
    · have := alike_walk b c x A1 A2 A3 A1 A2 B3 c1 c2 c3 c1 c2 d3 w' hb hc hvb hvc hx (hB1.later hR.toBelow) ⟨by rw [hat]; exact sl_later hB1.at_ hR.toBelow, by rw [hpg]; exact sl_later hB1.pages hR.toBelow, sl_later hC1 hR.toBelow⟩ heq hlen hmem
      rw [hat, hpg] at this
      exact this
    conv => whnf
    exact ⟨rfl, rfl, rfl, rfl, rfl⟩
  conv => whnf
  refine atq_ret ?_
  conv => whnf
  exact fin_val rfl fun w' hB => ⟨rfl, hB0.trans (hB.mono hB0.size)⟩
end Go.Proofs.Ytmjfgnnefcimiaa
namespace Go.Proofs.Ytmjfgnnefcimiaa
open Go.RowKit

/-- sound, of a block whose operations lie in a view. -/
theorem call_sound {w0 : World} {S : List Ow} {K : AV → List Ow → Prop} {φ : Option Addr → Prop} (i : Nat) (b : Blk) (l : List BOp) (x : SetP) (A1 A2 A3 : Option Addr) (c1 c2 c3 n1 n2 n3 : Nat) (hb : b.ok) (hvb : validB b = true) (hx : x.ok) (hB : BlkAt w0 b A1 A2 A3) (hn1 : b.at_.length = n1) (hn2 : b.pages.length = n2) (hn3 : b.ops.length = n3)
    (hl : OptOk b l) (hle : l.length ≤ b.ops.length) (hi : S[i]? = some (.view φ l.length (l.flatMap opC))) (hK : K (one (.bool true)) S) :
    CallS Try.prog w0 Gs.nil 16 [.p (.agg [.v (.slice A1 n1 c1), .v (.slice A2 n2 c2), .v (.slice A3 n3 c3)]), .p (.agg [.v (.slice A1 n1 c1), .v (.slice A2 n2 c2), .row i]), .p (.agg ((setL x).map .v))] S K := by
  subst hn1; subst hn2; subst hn3
  refine callS_val (.bool true) (by kernel_rfl) (fun r w us hR hd => ?_) hK
  obtain ⟨u1, l1, rfl, d1, u2, l2, rfl, d2, u3, l3, rfl, d3, d4⟩ := hd
  obtain rfl : l3 = [] := d4
  obtain rfl := AV.val_den (x := .agg #[.slice A1 b.at_.length c1, .slice A2 b.pages.length c2, .slice A3 b.ops.length c3]) rfl d1
  obtain rfl := AV.val_den (val_agg _) d3
  obtain ⟨us, rfl, hl'⟩ := den_agg d2
  simp only [denL, CV.den] at hl'
  obtain ⟨u1, l1, rfl, rfl, u2, l2, rfl, rfl, u3, l3, rfl, e3, rfl⟩ := hl'
  obtain ⟨A, c, rfl, s, k1, k2, _⟩ := viewAt hR hi e3
  obtain ⟨h1, h2⟩ := evalBlk_ok hb (all_ok hx) (setupM_ok (x := x))
  exact sound_walk b ⟨b.at_, b.pages, l⟩ x A1 A2 A3 A c1 c2 c3 c w hb hl.ok hvb hl.valid rfl rfl hle hx (hB.later hR.toBelow) s (hl.same _ _ (all_ok hx)) h1 h2
theorem copy_ok {b : Blk} (hb : b.ok) (hv : validB b = true) : OptOk b (copyAll b) := ⟨copy_valid hv, copyP_ok hb, fun _ M h => copy_same hb hv h M⟩
end Go.Proofs.Ytmjfgnnefcimiaa
namespace Go.Proofs.Ytmjfgnnefcimiaa
open Go.RowKit

set_option maxRecDepth 100000 in
theorem copies_law (A : Option Addr) (n c : Nat) (xs : List Int) (x : SetP) (w : World) (hs : SlAt w w.heap.size A (xs.map (.int .i64))) (hl : xs.length = n) (hnc : n ≤ c) (hx : x.ok) :
    Calls Try.prog 4 #[.slice A n c, setV x] w fun e w' => e = .returned (.bool true) ∧ Below w.heap.size w w' := by
  refine calls_satq [.slice A n c, setV x] Try.func4 Try.ntmps4 rfl (by simp) ?_
  refine satq_seq ?_
  conv => whnf
  refine satq_seq ?_
  conv => whnf
  refine call_con rfl (by kernel_rfl) (fun r w' hR => sanity_law w') ?_
  conv => whnf
  refine satq_cut (α := { b : Blk // MadeOk b }) (fun b => [(3, .p (.c (.ref 3 0))), (5, one (.bool true)), (6, .p (.c (.ref 4 0)))]) (fun b => blkRows b.1 ++ [.cells 27 ((setL x).map .v), .cells 32 [.row 0, .row 1, .row 2]]) ?_ fun b => ?_
  · conv => whnf
    refine call_blk MadeOk (by kernel_rfl) (fun r w' us hR hd => ?_) fun b hb => ?_
    · obtain rfl := avals_den (xs := [.slice A n c]) rfl hd
      exact made_walk A n c xs w' (sl_later hs hR.toBelow) hl hnc
    conv => whnf
    exact ⟨⟨b, hb⟩, ent_ren [1, 2, 3, 0, 4] (aI rfl (aI rfl (aI rfl trivial))) (aI ((Exists.intro _ (aI rfl (aI rfl (aI rfl (aI rfl rfl)))))) (aI ((Exists.intro _ (aI rfl (aI rfl (aI rfl (aI rfl rfl)))))) (aI ((Exists.intro _ (aI rfl (aI rfl (aI rfl (aI rfl rfl)))))) (aI ((Exists.intro _ (aI rfl (aI rfl (Or.inl (renL_vals _ _).symm))))) (aI ((Exists.intro _ (aI rfl (aI rfl (Or.inl rfl))))) trivial))))) rfl (by simp only [blkRows, List.cons_append, List.nil_append, sbnd, Ow.bnd, bndL_vals, bndL, CV.bnd]; rfl) rfl rfl rfl⟩
  obtain ⟨b, hb⟩ := b
  dsimp only
  refine satq_restart fun r w2 hR => ?_
  obtain ⟨g6, A1, c1, A2, c2, A3, c3, b6, k6, s1, s2, s3, m1, m2⟩ := own_blkRows hR 4 0 1 2 b rfl rfl rfl rfl
  obtain ⟨g3, us3, e3, f3, k3⟩ := own_cellsAt hR 3 rfl
  obtain rfl := denL_vals_inv (us := setL x) f3
  have hB1 : Below w.heap.size w w2 := hR.toBelow
  refine ⟨slotFr [(3, .pointer (some ⟨g3, 0, none⟩)), (5, .bool true), (6, .pointer (some ⟨g6, 0, none⟩))], fun a hf => slots_den ⟨slot_ref hf 3 rfl e3, slot_val hf rfl, slot_ref hf 6 rfl b6, trivial⟩, ?_⟩
  clear hR b6 e3 f3
  refine satq_vc ?_
  refine sat_anyG (.q 0 (.q 1 (.q 2 (.q 3 (.q 5 (.alt 4 (.alt 6 (.q 7 (.q 8 .done)) .no) .no)))))) mixed (by kernel_rfl) (by kernel_rfl) ?_
  conv => whnf
  refine ⟨_, k6, rfl, ?_⟩
  conv => whnf
  refine ⟨_, k6, rfl, ?_⟩
  conv => whnf
  refine ⟨setL x, k3, setL_length hx, ?_⟩
  conv => whnf
  refine ⟨?_, trivial⟩
  conv => whnf
  refine call_pass_pl copies_pass (by kernel_rfl) hb.ok copy_nil rfl rfl rfl s1 s2 s3 m1 m2 ?_
  conv => whnf
  refine ⟨?_, trivial⟩
  conv => whnf
  refine call_sound 0 b (copyAll b) x A1 A2 A3 c1 c2 c3 _ _ _ hb.ok hb.valid hx ⟨s1, s2, s3⟩ rfl rfl rfl (copy_ok hb.ok hb.valid) (copyAll_length b) rfl ?_
  conv => whnf
  refine atq_ret ?_
  conv => whnf
  exact fin_val rfl fun w' hB => ⟨rfl, hB1.trans (hB.mono hB1.size)⟩
end Go.Proofs.Ytmjfgnnefcimiaa
namespace Go.Proofs.Ytmjfgnnefcimiaa
open Go.ChangeShapes Go.WideShapes Go.ChangeAt Go.RowKit

set_option maxRecDepth 100000 in
theorem optCopies_lifted (os : Os) (started : os.Started) (H : Type) (enc : TypeId × Value → H) :
    ReturnsInHanded {} Try.checked os 4 .any (Rows.optCopiesSpec.pre6 enc Try.prog Try.f4 Rows.optCopiesRow.domain false) (Rows.optCopiesSpec.post enc Try.prog Try.f4 false true false false) := by
  refine returnsInHanded_of_change (C := Try.checked) ownK started (by kernel_rfl) Try.func4
    (ChangeSpec.witness6 (enc := enc) (C := Try.checked) false ⟨#[], #[.slice none 0 0, setV ⟨0, 0, 0, 0, List.replicate 19 0⟩], []⟩ 8 (by kernel_rfl) (by kernel_rfl) (by kernel_rfl) (by kernel_rfl)) ?_
  intro W base args ds gs before hval0 hW hcnd _
  have hval : ∀ (j : Nat) t v, Try.f4.params[j]? = some t → args[j]? = some v → Value.okWide Try.prog W .any base t v := hval0
  have hW' := hW
  obtain ⟨p, q, hA0, hV, rfl, hfz, hnd⟩ := hW
  have hA : DataW.TrodAll enc Try.prog W 0 (fun _ => true) true Try.f4.params.toList args.toList ds p := hA0
  rw [Try.params4] at hA hval
  obtain ⟨v0, vs0, d0, ds0, p0, q0, hargs, rfl, rfl, h0, r0⟩ := trodAll_cons hA
  obtain ⟨v1, vs1, d1, ds1, p1, q1, rfl, rfl, rfl, h1, r1⟩ := trodAll_cons r0
  obtain ⟨rfl, rfl, rfl⟩ := trodAll_nil r1
  obtain rfl : args = #[v0, v1] := by cases args; simp_all
  obtain ⟨rfl, rfl⟩ := trodVars_none hV
  obtain ⟨a0, len0, cap0, rfl⟩ := okWide_slice Try.underlying22 (hval 0 22 v0 rfl rfl)
  have k0 := h0
  have k1 := h1
  have lt0 : ∀ x ∈ p0, x.block < W.heap.size := by obtain ⟨m, hm⟩ := k0; exact DataW.trod_lt m _ _ _ hm
  have lt1 : ∀ x ∈ p1, x.block < W.heap.size := by obtain ⟨m, hm⟩ := k1; exact DataW.trod_lt m _ _ _ hm
  obtain ⟨xs, w0, hl, hnc⟩ := open_sl h0
  obtain ⟨x, rfl, hx⟩ := open_x (hval 1 27 v1 rfl rfl) h1
  clear hA0 hval0
  refine (copies_law a0 len0 cap0 xs x W w0 hl hnc hx).mono fun e W' ⟨he, bel⟩ => ?_
  subst he
  exact ⟨_, rfl, _, _, _, [], _, [], hW', trodAll_mk1 (shut_bool Try.underlying4 _), (trodAll_cons_mk (Below.trod laidOutP (by kernel_rfl) (of_decide_eq_true (by kernel_rfl)) k0 bel lt0) (trodAll_cons_mk (Below.trod laidOutP (by kernel_rfl) (of_decide_eq_true (by kernel_rfl)) k1 bel lt1) trodAll_mk0)), rfl, bel.frame _, fun h => by cases h⟩
theorem optCopies_holds : Rows.OptCopiesSaid :=
  OpenClaim.holds_of_wide 4 Try.f4 rfl rfl rfl rfl rfl rfl rfl ⟨rfl, rfl, rfl, rfl, rfl⟩ rfl rfl rfl rfl rfl (by kernel_rfl) Try.func4 (by kernel_rfl)
    (of_decide_eq_true (by kernel_rfl)) (by unfold Func.isWrapper; first | (rw [if_pos (by decide +kernel)]; kernel_rfl) | (rw [if_neg (by decide +kernel)]; exact ⟨rfl, rfl⟩))
    (fun os started H enc _ => optCopies_lifted os started H enc)
end Go.Proofs.Ytmjfgnnefcimiaa
#print axioms Go.Proofs.Ytmjfgnnefcimiaa.optCopies_holds
