/- For every valid block, the result of Fold is valid, not longer and equivalent: for every input, without any condition. -/
import Derived.Test.YtmjfgnnefcimiaaM1
import Derived.Test.YtmjfgnnefcimiaaM13
import Derived.Test.YtmjfgnnefcimiaaM14
import Derived.Test.YtmjfgnnefcimiaaM15
import Derived.Test.YtmjfgnnefcimiaaM16
import Derived.Test.YtmjfgnnefcimiaaM17
import Derived.Test.YtmjfgnnefcimiaaM18
import Derived.Test.YtmjfgnnefcimiaaM19
import Derived.Test.YtmjfgnnefcimiaaM20
import Derived.Test.YtmjfgnnefcimiaaM21
import Derived.Test.YtmjfgnnefcimiaaM22
import Derived.Test.YtmjfgnnefcimiaaM23
import Derived.Test.YtmjfgnnefcimiaaM24
import Derived.Test.YtmjfgnnefcimiaaM25
import Derived.Test.YtmjfgnnefcimiaaM27
import Derived.Test.YtmjfgnnefcimiaaM28
import Derived.Test.YtmjfgnnefcimiaaM29
import Derived.Test.YtmjfgnnefcimiaaM3
import Derived.Test.YtmjfgnnefcimiaaM30
import Derived.Test.YtmjfgnnefcimiaaM31
import Derived.Test.YtmjfgnnefcimiaaM32
import Derived.Test.YtmjfgnnefcimiaaM33
import Derived.Test.YtmjfgnnefcimiaaM34
import Derived.Test.YtmjfgnnefcimiaaM5
import Derived.Test.YtmjfgnnefcimiaaM6
import Derived.Test.YtmjfgnnefcimiaaM7
namespace Go.Proofs.Ytmjfgnnefcimiaa
open Go.RowKit

section
variable {w0 : World} {S : List Ow} {K : AV → List Ow → Prop} {b : Blk} {A1 A2 A3 : Option Addr} {n1 n2 n3 c1 c2 c3 : Nat}
/-- A pass over a block in plain memory. -/
theorem call_pass_pl {P : Program} {fid : FuncId} {F : Blk → List BOp} (hp : Pass P fid F) (hok : fnOk P fid = true) (hb : b.ok) (h0 : b.ops = [] → F b = []) (hn1 : b.at_.length = n1) (hn2 : b.pages.length = n2) (hn3 : b.ops.length = n3)
    (h1 : SlAt w0 w0.heap.size A1 (b.at_.map (.int .u32))) (h2 : SlAt w0 w0.heap.size A2 (b.pages.map (.int .i64))) (h3 : OpsAt w0 w0.heap.size A3 b.ops) (hc3 : n3 ≤ c3) (hm3 : c3 ≤ maxLen)
    (hK : K (.p (.agg [.v (.slice A1 n1 c1), .v (.slice A2 n2 c2), .row S.length])) (S ++ [.view viewT (F b).length ((F b).flatMap opC)])) :
    CallS P w0 Gs.nil fid [.p (.agg [.v (.slice A1 n1 c1), .v (.slice A2 n2 c2), .v (.slice A3 n3 c3)])] S K := by
  subst hn1; subst hn2; subst hn3
  refine ⟨hok, fun r w us hR hd => ?_⟩
  obtain ⟨u1, l1, rfl, d1, d2⟩ := hd
  obtain rfl : l1 = [] := d2
  obtain rfl := AV.val_den (x := .agg #[.slice A1 b.at_.length c1, .slice A2 b.pages.length c2, .slice A3 b.ops.length c3]) rfl d1
  refine (hp b A1 A2 A3 c1 c2 c3 w hb (sl_later h1 hR.toBelow) (sl_later h2 hR.toBelow) (sl_later h3 hR.toBelow) hc3 hm3).mono fun e w' ⟨A', c', he, ho, k1, k2, k3, hB⟩ => ?_
  refine ⟨.p (.agg [.v (.slice A1 b.at_.length c1), .v (.slice A2 b.pages.length c2), .row S.length]), _, _, r.set S.length none (some (.slice A' (F b).length c')), he, ⟨[.slice A1 b.at_.length c1, .slice A2 b.pages.length c2, .slice A' (F b).length c'], rfl, ?_⟩,
    hR.snoc (o := .view viewT (F b).length ((F b).flatMap opC)) hB (b := none) nofun ⟨A', c', by simp [Env.set], k1, ⟨k2, trivial⟩, by simp [Env.set], fun j u hj => ?_⟩, hR.le_new _ _, hK⟩
  · simp only [denL, CV.den]
    exact ⟨_, _, rfl, rfl, _, _, rfl, rfl, _, _, rfl, by simp [Env.set], rfl⟩
  · obtain ⟨b', off, e4, e5, e6⟩ := ho j u hj
    refine ⟨b', off, e4, e5, fun q hq => ?_, e6⟩
    simp only [Env.set] at hq
    split at hq
    · cases hq
    · rcases k3 with k3 | rfl
      · have := k3 b' off none e4
        have := (hR.new q b' hq).1
        omega
      · have hpos : 0 < b.ops.length := by
          rcases Nat.eq_zero_or_pos b.ops.length with h | h
          · rw [h0 (List.eq_nil_of_length_eq_zero h)] at hj; simp at hj
          · exact h
        have h5 := ops_lt (e4 ▸ h3) hpos
        exact absurd ((hR.new q b' hq).2 h5) (by simp)
end
theorem sameB_self (b : Blk) : sameB b b = true := by simp [sameB]
end Go.Proofs.Ytmjfgnnefcimiaa
namespace Go.Proofs.Ytmjfgnnefcimiaa
open Go.RowKit

theorem foldB_mark (f : Int → Option Int) {o : BOp} (ho : o.code = 20) : foldB f o = (o, true) := by
  unfold foldB
  have hb : isBin o.code = false := by rw [ho]; rfl
  have hm : memI o.code [3, 4, 6, 7, 8, 9, 10] = false := by rw [ho]; rfl
  rw [hb, hm, ho]
  simp
end Go.Proofs.Ytmjfgnnefcimiaa
namespace Go.Proofs.Ytmjfgnnefcimiaa
open Go.RowKit

theorem ck_mark {s : Ck} {o : BOp} {x y : Bool} (hf : formedB o = true) (hp : placedB s o x y = true) (hc : o.code = 20) (hn : o.n = (s.marks : Int)) : ckNext s o x y = some ⟨s.marks + 1, 0, false⟩ := by
  unfold ckNext
  rw [if_pos (by rw [hf, hp]; rfl), if_pos (by simp [hc]), if_pos (by simp [hn])]
theorem ck_op {s : Ck} {o : BOp} {x y : Bool} (hf : formedB o = true) (hp : placedB s o x y = true) (hc : o.code ≠ 20) (hr : ∀ v ∈ reads o, readB s v = true) :
    ckNext s o x y = some ⟨s.marks, if 20 ≤ writes o then s.written ||| 2 ^ (writes o).toNat else s.written, s.changed || (stores o.code || decide (0 ≤ writes o ∧ writes o < 20))⟩ := by
  unfold ckNext
  rw [if_pos (by rw [hf, hp]; rfl), if_neg (by simpa using hc), if_pos (List.all_eq_true.2 hr)]
theorem ck_cons {s s1 : Ck} {o : BOp} {l : List BOp} (h : ckNext s o l.isEmpty (exitNext l) = some s1) : ckRun s (o :: l) = ckRun s1 l := by
  show (match ckNext s o l.isEmpty (exitNext l) with | some s' => ckRun s' l | none => none) = _
  rw [h]
theorem placed_parts {s : Ck} {o : BOp} {x y : Bool} : placedB s o x y = true ↔ endsB o.code = x ∧ (o.code = 23 → y = true) ∧ (leaves o.code = true → s.changed = false) := by
  unfold placedB
  simp only [Bool.and_eq_true, Bool.not_eq_true', Bool.and_eq_false_iff, beq_iff_eq, Bool.not_eq_false', beq_eq_false_iff_ne]
  constructor
  · rintro ⟨⟨h1, h2⟩, h3⟩
    refine ⟨h1, fun e => ?_, fun e => ?_⟩
    · rcases h2 with h2 | h2
      · exact absurd e h2
      · exact h2
    · rcases h3 with h3 | h3
      · rw [e] at h3; cases h3
      · exact h3
  · rintro ⟨h1, h2, h3⟩
    refine ⟨⟨h1, ?_⟩, ?_⟩
    · by_cases e : o.code = 23
      · exact .inr (h2 e)
      · exact .inl e
    · by_cases e : leaves o.code = true
      · exact .inr (h3 e)
      · exact .inl (by simpa using e)
theorem header_of {b : Blk} {l : List BOp} (h : headerB b = true) (h1 : 1 ≤ l.length) (h2 : l.length ≤ b.ops.length) (h3 : ∀ o, b.ops.head? = some o → o.code = 20 → ∃ p, l.head? = some p ∧ p.code = 20) : headerB ⟨b.at_, b.pages, l⟩ = true := by
  unfold headerB at h ⊢
  simp only [Bool.and_eq_true, decide_eq_true_eq] at h ⊢
  obtain ⟨⟨⟨k1, k2⟩, k3⟩, k4⟩ := h
  refine ⟨⟨⟨k1, k2⟩, by show 1 ≤ l.length ∧ l.length ≤ 2000; omega⟩, ?_⟩
  cases hb : b.ops with
  | nil => rw [hb] at k4; cases k4
  | cons o r =>
    rw [hb] at k4
    obtain ⟨p, hp, hc⟩ := h3 o (by rw [hb]; rfl) (by simpa using k4)
    cases l with
    | nil => cases hp
    | cons q m => injection hp with hp; subst hp; simp [hc]

/-! Fold. -/
theorem fold_nonempty : ∀ (l : List BOp) (f : Int → Option Int) {s s1 : Ck}, ckRun s l = some s1 → l ≠ [] → foldRun f l ≠ []
  | [], _, _, _, _, hl => absurd rfl hl
  | o :: l, f, s, s1, h, _ => by
    obtain ⟨s2, h1, h2⟩ := ck_uncons h
    unfold foldRun
    split
    · simp
    · rename_i hk
      refine fold_nonempty l _ h2 fun hl => ?_
      subst hl
      obtain ⟨hf, hp, _, _⟩ := ck_step h1
      have he := (placed_parts.1 hp).1
      unfold foldB at hk
      split at hk
      · simp at hk
      split at hk
      · simp at hk
      split at hk
      · simp at hk
      split at hk
      · rename_i hc
        simp only [Bool.and_eq_true, beq_iff_eq] at hc
        rw [hc.1.1] at he; cases he
      split at hk
      · rename_i hc
        simp only [Bool.and_eq_true, beq_iff_eq] at hc
        rw [hc.1] at he; cases he
      split at hk
      · simp at hk
      · simp at hk
theorem foldB_exit (f : Int → Option Int) {o : BOp} (h : o.code = 24) : foldB f o = (o, true) := by
  unfold foldB
  have hb : isBin o.code = false := by rw [h]; rfl
  have hm : memI o.code [3, 4, 6, 7, 8, 9, 10] = false := by rw [h]; rfl
  rw [hb, hm, h]
  simp
theorem fold_exit {l : List BOp} (f : Int → Option Int) (h : exitNext l = true) : exitNext (foldRun f l) = true := by
  cases l with
  | nil => cases h
  | cons o l =>
    have hc : o.code = 24 := by simpa [exitNext] using h
    unfold foldRun
    rw [foldB_exit _ hc]
    simp [exitNext, hc]
theorem placed_keep {s s1 : Ck} {o : BOp} {x y x' y' : Bool} (h : ckNext s o x y = some s1) (hx : x' = x) (hy : y = true → y' = true) : ckNext s o x' y' = some s1 := by
  subst hx
  obtain ⟨hf, hp, h1, h2⟩ := ck_step h
  obtain ⟨p1, p2, p3⟩ := placed_parts.1 hp
  have hp' : placedB s o x' y' = true := placed_parts.2 ⟨p1, fun e => hy (p2 e), p3⟩
  by_cases hc : o.code = 20
  · obtain ⟨e1, e2⟩ := h1 hc
    rw [e2]; exact ck_mark hf hp' hc e1
  · obtain ⟨e1, e2⟩ := h2 hc
    rw [e2]; exact ck_op hf hp' hc e1
/-- An operation that writes the same variable and no memory, in the place of another one. -/
theorem ck_put {s s1 : Ck} {o p : BOp} {x y y' : Bool} (h : ckNext s o x y = some s1) (hD : 2 ≤ o.code ∧ o.code ≤ 15) (hc : p.code = 1 ∨ p.code = 2) (hd : p.d = o.d) (hb : p.b = 0) (hn : p.code = 2 → p.n = 0) (ha : p.code = 1 → p.a = 0) (ha2 : p.code = 2 → p.a = o.a) : x = false ∧ ckNext s p x y' = some s1 := by
  obtain ⟨hf, hp, _, h2⟩ := ck_step h
  obtain ⟨p1, p2, p3⟩ := placed_parts.1 hp
  have hx : x = false := by
    rw [← p1]; unfold endsB; rw [decide_eq_false_iff_not]; omega
  refine ⟨hx, ?_⟩
  obtain ⟨hr, hs⟩ := h2 (by omega)
  have hDo : hasD o.code = true := by unfold hasD; rw [decide_eq_true_eq]; omega
  have hDp : hasD p.code = true := by unfold hasD; rw [decide_eq_true_eq]; omega
  have hAo : hasA o.code = true := by unfold hasA; rw [decide_eq_true_eq]; omega
  have hBp : hasB p.code = false := by unfold hasB; rw [decide_eq_false_iff_not]; omega
  have hwo : writes o = o.d := by unfold writes; rw [hDo]; rfl
  have hwp : writes p = o.d := by unfold writes; rw [hDp, if_pos rfl, hd]
  have hf' := hf
  unfold formedB at hf
  simp only [Bool.and_eq_true] at hf
  obtain ⟨⟨⟨⟨f1, f2⟩, f3⟩, f4⟩, f5⟩ := hf
  have hfp : formedB p = true := by
    unfold formedB
    simp only [Bool.and_eq_true]
    refine ⟨⟨⟨⟨by unfold isOp; rw [decide_eq_true_eq]; omega, by rw [hDp, hd]; rw [hDo] at f2; exact f2⟩, ?_⟩, by rw [hBp, hb]; rfl⟩, ?_⟩
    · rcases hc with hc | hc
      · rw [ha hc, hc]; rfl
      · rw [ha2 hc, show hasA p.code = hasA o.code by rw [hAo, hc]; rfl]; exact f3
    · rcases hc with hc | hc
      · rw [hc]; rfl
      · rw [hn hc]; simp
  have hrp : ∀ v ∈ reads p, readB s v = true := fun v hv => by
    unfold reads at hv
    rw [hBp] at hv
    rcases hc with hc | hc
    · rw [hc] at hv; simp [hasA] at hv
    · rw [hc, ha2 hc] at hv
      simp [hasA] at hv
      subst hv
      exact hr _ (by unfold reads; rw [hAo]; simp)
  have hst : stores o.code = false := by unfold stores; rw [decide_eq_false_iff_not]; omega
  have hsp : stores p.code = false := by unfold stores; rw [decide_eq_false_iff_not]; omega
  have hpl : placedB s p x y' = true := placed_parts.2 ⟨by rw [hx]; unfold endsB; rw [decide_eq_false_iff_not]; omega, fun e => by omega, fun e => by unfold leaves at e; rw [decide_eq_true_eq] at e; omega⟩
  rw [ck_op hfp hpl (by omega) hrp, hs, hwo, hwp, hst, hsp]
theorem ck_leave {s s1 : Ck} {o : BOp} {x y y' : Bool} {n : Int} (h : ckNext s o x y = some s1) (hc : o.code = 23 ∨ o.code = 25) : ckNext s ⟨24, 0, 0, 0, n⟩ true y' = some s1 := by
  obtain ⟨hf, hp, _, h2⟩ := ck_step h
  obtain ⟨hr, hs⟩ := h2 (by omega)
  have hwo : writes o = -1 := by unfold writes; rcases hc with hc | hc <;> rw [hc] <;> rfl
  have hst : stores o.code = false := by rcases hc with hc | hc <;> rw [hc] <;> rfl
  have hk := ck_op (s := s) (o := ⟨24, 0, 0, 0, n⟩) (x := true) (y := y') rfl (placed_parts.2 ⟨rfl, fun e => absurd (show (24 : Int) = 23 from e) (by decide), fun e => by cases e⟩) (show (24 : Int) ≠ 20 by decide) (fun v hv => by simp [reads, hasA, hasB] at hv)
  rw [hk, hs, hwo, hst]
  rfl
/-- What replaces an operation, for the check. -/
theorem foldB_step (f : Int → Option Int) {o : BOp} {s s1 : Ck} {x y : Bool} (h : ckNext s o x y = some s1) :
    foldB f o = (o, true) ∨ ((foldB f o).2 = true ∧ (foldB f o).1.code ≠ 24 ∧ x = false ∧ ∀ y', ckNext s (foldB f o).1 x y' = some s1) ∨ ((foldB f o).2 = true ∧ (foldB f o).1.code = 24 ∧ (o.code = 23 ∨ o.code = 25) ∧ ∀ y', ckNext s (foldB f o).1 true y' = some s1) ∨ ((foldB f o).2 = false ∧ s1 = s ∧ x = false) := by
  have hgone : o.code = 21 ∨ o.code = 23 → s1 = s ∧ x = false := fun hc => by
    obtain ⟨hf, hp, _, h2⟩ := ck_step h
    obtain ⟨p1, p2, p3⟩ := placed_parts.1 hp
    obtain ⟨hr, hs⟩ := h2 (by omega)
    have hwo : writes o = -1 := by unfold writes; rcases hc with hc | hc <;> rw [hc] <;> rfl
    have hst : stores o.code = false := by rcases hc with hc | hc <;> rw [hc] <;> rfl
    refine ⟨?_, by rw [← p1]; rcases hc with hc | hc <;> rw [hc] <;> rfl⟩
    rw [hs, hwo, hst]
    rw [if_neg (by decide), show (false || decide ((0 : Int) ≤ -1 ∧ (-1 : Int) < 20)) = false from rfl, Bool.or_false]
  unfold foldB
  by_cases c1 : (o.code == 2 && (f o.a).isSome) = true
  · rw [if_pos c1]
    simp only [Bool.and_eq_true, beq_iff_eq] at c1
    have := fun y' => ck_put (p := ⟨1, o.d, 0, 0, (f o.a).getD 0⟩) (y' := y') h (by omega) (.inl rfl) rfl rfl nofun (fun _ => rfl) nofun
    exact .inr (.inl ⟨rfl, (fun e => by cases e), (this false).1, fun y' => (this y').2⟩)
  rw [if_neg c1]
  by_cases c2 : (isBin o.code && (f o.a).isSome && (f o.b).isSome) = true
  · rw [if_pos c2]
    simp only [Bool.and_eq_true, isBin, decide_eq_true_eq] at c2
    have := fun y' => ck_put (p := ⟨1, o.d, 0, 0, wordOp o.code ((f o.a).getD 0) ((f o.b).getD 0)⟩) (y' := y') h (by omega) (.inl rfl) rfl rfl nofun (fun _ => rfl) nofun
    exact .inr (.inl ⟨rfl, (fun e => by cases e), (this false).1, fun y' => (this y').2⟩)
  rw [if_neg c2]
  by_cases c3 : ((f o.b).isSome && (f o.b).getD 0 == 0 && memI o.code [3, 4, 6, 7, 8, 9, 10]) = true
  · rw [if_pos c3]
    simp only [Bool.and_eq_true] at c3
    have hm := c3.2
    simp only [memI, List.any_cons, List.any_nil, Bool.or_false, Bool.or_eq_true, beq_iff_eq] at hm
    have := fun y' => ck_put (p := ⟨2, o.d, o.a, 0, 0⟩) (y' := y') h (by omega) (.inr rfl) rfl rfl (fun _ => rfl) nofun (fun _ => rfl)
    exact .inr (.inl ⟨rfl, (fun e => by cases e), (this false).1, fun y' => (this y').2⟩)
  rw [if_neg c3]
  by_cases c4 : (o.code == 21 && (f o.a).isSome && (f o.a).getD 0 != 0) = true
  · rw [if_pos c4]
    simp only [Bool.and_eq_true, beq_iff_eq] at c4
    exact .inr (.inr (.inr ⟨rfl, hgone (.inl c4.1.1)⟩))
  rw [if_neg c4]
  by_cases c5 : (o.code == 23 && (f o.a).isSome) = true
  · rw [if_pos c5]
    simp only [Bool.and_eq_true, beq_iff_eq] at c5
    cases hz : (f o.a).getD 0 != 0
    · exact .inr (.inr (.inr ⟨rfl, hgone (.inr c5.1)⟩))
    · exact .inr (.inr (.inl ⟨rfl, rfl, .inl c5.1, fun y' => ck_leave h (.inl c5.1)⟩))
  rw [if_neg c5]
  by_cases c6 : (o.code == 25 && (f o.a).isSome) = true
  · rw [if_pos c6]
    simp only [Bool.and_eq_true, beq_iff_eq] at c6
    exact .inr (.inr (.inl ⟨rfl, rfl, .inr c6.1, fun y' => ck_leave h (.inr c6.1)⟩))
  rw [if_neg c6]
  exact .inl rfl
theorem ck_empty {l : List BOp} (h : l.isEmpty = true) : l = [] := List.isEmpty_iff.1 h
theorem fold_follows {l : List BOp} (f : Int → Option Int) {s s1 : Ck} (h : ckRun s l = some s1) : (foldRun f l).isEmpty = l.isEmpty := by
  cases l with
  | nil => rfl
  | cons o l =>
    have := fold_nonempty (o :: l) f h (by simp)
    cases hr : foldRun f (o :: l) with
    | nil => exact absurd hr this
    | cons _ _ => rfl
theorem fold_ck : ∀ (l : List BOp) (f : Int → Option Int) {s s1 : Ck}, ckRun s l = some s1 → ∃ s2, ckRun s (foldRun f l) = some s2 ∧ s2.marks = s1.marks
  | [], f, s, s1, h => ⟨s1, h, rfl⟩
  | o :: l, f, s, s1, h => by
    obtain ⟨s2, h1, h2⟩ := ck_uncons h
    unfold foldRun
    rcases foldB_step (foldMark f o) h1 with e | ⟨e1, e2, e3, e4⟩ | ⟨e1, e2, e3, e4⟩ | ⟨e1, e2, e3⟩
    · rw [e, if_pos rfl]
      by_cases hc : (o.code == 24) = true
      · rw [if_pos hc]
        have hl : l = [] := ck_empty (by rw [← (placed_parts.1 (ck_step h1).2.1).1, show o.code = 24 by simpa using hc]; rfl)
        subst hl
        exact ⟨s1, h, rfl⟩
      · rw [if_neg hc]
        obtain ⟨s3, k1, k2⟩ := fold_ck l (foldUpd (foldMark f o) o) h2
        exact ⟨s3, by rw [ck_cons (placed_keep h1 (fold_follows _ h2) (fold_exit _))]; exact k1, k2⟩
    · rw [if_pos e1, if_neg (by simpa using e2)]
      obtain ⟨s3, k1, k2⟩ := fold_ck l (foldUpd (foldMark f o) (foldB (foldMark f o) o).1) h2
      refine ⟨s3, ?_, k2⟩
      rw [ck_cons (by rw [fold_follows _ h2]; exact e4 _)]; exact k1
    · rw [if_pos e1, if_pos (by simp [e2])]
      refine ⟨s2, by rw [ck_cons (e4 _)]; rfl, ?_⟩
      obtain ⟨_, hp, _, _⟩ := ck_step h1
      obtain ⟨p1, p2, _⟩ := placed_parts.1 hp
      rcases e3 with hc | hc
      · have hx := p2 hc
        cases l with
        | nil => cases hx
        | cons q r =>
          have hq : q.code = 24 := by simpa [exitNext] using hx
          obtain ⟨s3, h3, h4⟩ := ck_uncons h2
          obtain ⟨_, hp3, _, h5⟩ := ck_step h3
          have hr : r = [] := ck_empty (by rw [← (placed_parts.1 hp3).1, hq]; rfl)
          subst hr
          injection h4 with h4
          subst h4
          rw [(h5 (by omega)).2]
      · have hl : l = [] := ck_empty (by rw [← p1, hc]; rfl)
        subst hl
        injection h2 with h2
        rw [h2]
    · rw [if_neg (by rw [e1]; decide)]
      subst e2
      exact fold_ck l (foldMark f o) h2
theorem valid_of {b : Blk} {l : List BOp} (hv : validB b = true) (hne : b.ops ≠ [] → l ≠ []) (hlen : l.length ≤ b.ops.length) (hhead : ∀ o r, b.ops = o :: r → o.code = 20 → ∃ p, l.head? = some p ∧ p.code = 20) (hck : ∀ s1, ckRun ⟨0, 0, false⟩ b.ops = some s1 → ∃ s2, ckRun ⟨0, 0, false⟩ l = some s2 ∧ s2.marks = s1.marks) : validB ⟨b.at_, b.pages, l⟩ = true := by
  obtain ⟨h1, s, h2, h3⟩ := valid_parts.1 hv
  obtain ⟨s2, k1, k2⟩ := hck s h2
  have hpos := (valid_pos hv).1
  have hb : b.ops ≠ [] := fun e => by rw [e] at hpos; simp at hpos
  refine valid_parts.2 ⟨header_of h1 ?_ hlen (fun o ho hc => ?_), s2, k1, by rw [k2, h3]⟩
  · have := hne hb
    cases l with
    | nil => exact absurd rfl this
    | cons _ _ => simp
  · cases hbo : b.ops with
    | nil => exact absurd hbo hb
    | cons q r => rw [hbo] at ho; injection ho with ho; subst ho; exact hhead _ r hbo hc
theorem fold_valid {b : Blk} (hv : validB b = true) : validB (foldP b) = true := by
  unfold foldP foldAll
  rw [if_pos hv]
  obtain ⟨_, s, h2, _⟩ := valid_parts.1 hv
  refine valid_of hv (fun hb => fold_nonempty b.ops noneF h2 hb) (foldRun_length _ _) (fun o r hb hc => ?_) (fun s1 h => fold_ck b.ops noneF h)
  rw [hb]
  unfold foldRun
  rw [foldB_mark _ hc, if_pos rfl]
  exact ⟨o, rfl, hc⟩
end Go.Proofs.Ytmjfgnnefcimiaa
namespace Go.Proofs.Ytmjfgnnefcimiaa
open Go.RowKit

/-- What an operation does to the variables: at most it sets the one that it writes. -/
theorem applyP_vs {o : BOp} (hf : formedB o = true) (vs : List Int) (M : MemP) : (applyP o vs M).vs = vs ∨ (hasD o.code = true ∧ writes o = o.d ∧ ∃ x, (applyP o vs M).vs = vs.set o.d.toNat x) := by
  have hD : hasD o.code = true → writes o = o.d := fun h => (formed_d hf h).2.2
  have hd : 1 ≤ o.code → o.code ≤ 17 → hasD o.code = true := fun h1 h2 => by unfold hasD; rw [decide_eq_true_eq]; exact ⟨h1, h2⟩
  unfold applyP
  split
  · rename_i h; have := hd (by omega) (by omega); exact .inr ⟨this, hD this, _, rfl⟩
  split
  · rename_i h; have := hd (by omega) (by omega); exact .inr ⟨this, hD this, _, rfl⟩
  split
  · rename_i h; have := hd (by omega) (by omega)
    split
    · exact .inr ⟨this, hD this, _, rfl⟩
    · exact .inl rfl
  split
  · exact .inl rfl
  split
  · exact .inl rfl
  split
  · exact .inl rfl
  split
  · rename_i h
    have h' : 3 ≤ o.code ∧ o.code ≤ 15 := by unfold isBin at h; simpa using h
    have := hd (by omega) (by omega); exact .inr ⟨this, hD this, _, rfl⟩
  · exact .inl rfl
theorem applyP_other {o : BOp} (hf : formedB o = true) (vs : List Int) (M : MemP) {v : Int} (hv : 0 ≤ v) (hne : writes o ≠ v) : getV (applyP o vs M).vs v = getV vs v := by
  rcases applyP_vs hf vs M with h | ⟨h1, h2, x, h⟩
  · rw [h]
  · rw [h]
    have := formed_d' hf
    exact getV_set_ne this.1 hv (fun e => hne (by rw [h2, e]))
theorem applyP_none {o : BOp} (h : o.code = 20 ∨ o.code = 23) (vs : List Int) (M : MemP) : applyP o vs M = ⟨vs, true, M⟩ := by
  have hb : ¬ isBin o.code = true := by unfold isBin; rw [decide_eq_true_eq]; omega
  unfold applyP; rw [if_neg (by omega), if_neg (by omega), if_neg (by omega), if_neg (by omega), if_neg (by omega), if_neg (by omega), if_neg hb]
/-- An operation in the place of another that does the same. -/
theorem evalL_head {ats : List Int} {o p : BOp} {l m : List BOp} {i : Int} {vs : List Int} {M : MemP} (hc : p.code = o.code) (hn : p.n = o.n) (ha : getV vs p.a = getV vs o.a) (hA : applyP p vs M = applyP o vs M) (hl : evalL ats l (markI o i) (applyP o vs M).vs (applyP o vs M).mem = evalL ats m (markI o i) (applyP o vs M).vs (applyP o vs M).mem) : evalL ats (p :: l) i vs M = evalL ats (o :: m) i vs M := by
  have hm : markI p i = markI o i := by unfold markI; rw [hc, hn]
  show (if _ then _ else _) = (if _ then _ else _)
  rw [hc, hn, ha, hA, hm, hl]

/-! Fold. -/
def FoldSem (f : Int → Option Int) (vs : List Int) : Prop := ∀ v x, 0 ≤ v → v < 28 → f v = some x → getV vs v = x
theorem foldSem_none (vs : List Int) : FoldSem noneF vs := nofun
theorem foldSem_mark {f : Int → Option Int} {vs : List Int} (h : FoldSem f vs) (o : BOp) : FoldSem (foldMark f o) vs := by
  unfold foldMark
  split
  · intro v x h0 h1 hv
    unfold fdel at hv
    split at hv
    · cases hv
    · exact h v x h0 h1 hv
  · exact h
theorem foldSem_upd {f : Int → Option Int} {vs : List Int} (h : FoldSem f vs) (hv : VarsOk vs) {p : BOp} (hf : formedB p = true) (M : MemP) : FoldSem (foldUpd f p) (applyP p vs M).vs := by
  have key : FoldSem (if 0 ≤ writes p then mdel f (writes p) else f) (applyP p vs M).vs := by
    intro v x h0 h1 hx
    have hne : writes p ≠ v ∧ f v = some x := by
      split at hx
      · unfold mdel at hx
        split at hx
        · cases hx
        · rename_i hne; exact ⟨fun e => hne (by rw [e]), hx⟩
      · exact ⟨fun e => by omega, hx⟩
    rw [applyP_other hf vs M h0 hne.1]
    exact h v x h0 h1 hne.2
  unfold foldUpd
  split
  · rename_i hc
    have hc' : p.code = 1 := by simpa using hc
    have hD : hasD p.code = true := by rw [hc']; rfl
    obtain ⟨d0, d1, dw⟩ := formed_d hf hD
    intro v x h0 h1 hx
    unfold mput at hx
    split at hx
    · rename_i he
      injection hx with hx
      rw [applyP_const hc', he, dw, ← hx]
      exact getV_set hv ⟨d0, d1⟩
    · exact key v x h0 h1 hx
  · exact key
theorem wordOp_zero {c a : Int} (hc : memI c [3, 4, 6, 7, 8, 9, 10] = true) (ha : word a) : wordOp c a 0 = a := by
  have ha' : 0 ≤ a ∧ a < 4294967296 := ha
  have hz : ((0 : Int) % 32).toNat = 0 := rfl
  have h1 : (2 : Int) ^ 0 = 1 := rfl
  simp only [memI, List.any_cons, List.any_nil, Bool.or_false, Bool.or_eq_true, beq_iff_eq] at hc
  rcases hc with h | h | h | h | h | h | h <;> subst h
  · show (a + 0) % 4294967296 = a; omega
  · show (a - 0) % 4294967296 = a; omega
  · show orI a 0 = a; unfold orI; simp; omega
  · show xorI a 0 = a; unfold xorI; simp; omega
  · show a * 2 ^ ((0 : Int) % 32).toNat % 4294967296 = a; rw [hz, h1]; omega
  · show a / 2 ^ ((0 : Int) % 32).toNat = a; rw [hz, h1]; omega
  · show signedI a / 2 ^ ((0 : Int) % 32).toNat % 4294967296 = a
    rw [hz, h1]
    unfold signedI
    split <;> omega
theorem const_formed {d n : Int} (hd : fieldB true d = true) : formedB ⟨1, d, 0, 0, n⟩ = true := formed_split.2 ⟨rfl, hd, rfl, rfl, rfl⟩
theorem move_formed {d a : Int} (hd : fieldB true d = true) (ha : fieldB true a = true) : formedB ⟨2, d, a, 0, 0⟩ = true := formed_split.2 ⟨rfl, hd, ha, rfl, rfl⟩
theorem field_d {o : BOp} (hf : formedB o = true) (hD : hasD o.code = true) : fieldB true o.d = true := by have := (formed_split.1 hf).2.1; rwa [hD] at this
theorem field_a {o : BOp} (hf : formedB o = true) (hA : hasA o.code = true) : fieldB true o.a = true := by have := (formed_split.1 hf).2.2.1; rwa [hA] at this
theorem fold_eval (ats : List Int) : ∀ (l : List BOp) (f : Int → Option Int) (i : Int) (vs : List Int) (M : MemP), VarsOk vs → FoldSem f vs → (∀ o ∈ l, formedB o = true) → (∀ o ∈ l, o.ok) → evalL ats (foldRun f l) i vs M = evalL ats l i vs M
  | [], _, _, _, _, _, _, _, _ => rfl
  | o :: l, f, i, vs, M, hv, hs, hf, hok => by
    have hfo := hf o (by simp)
    have hoo := hok o (by simp)
    have hfl : ∀ p ∈ l, formedB p = true := fun p hp => hf p (by simp [hp])
    have hol : ∀ p ∈ l, p.ok := fun p hp => hok p (by simp [hp])
    have hs1 := foldSem_mark hs o
    have ha := formed_a hfo
    have hb := formed_b hfo
    have haw := getV_word hv o.a
    generalize hg : foldMark f o = f1 at hs1
    have ih : ∀ (g : Int → Option Int) (j : Int) (us : List Int) (Q : MemP), VarsOk us → FoldSem g us → evalL ats (foldRun g l) j us Q = evalL ats l j us Q := fun g j us Q h1 h2 => fold_eval ats l g j us Q h1 h2 hfl hol
    -- a pure operation in the place of this one
    have pure : ∀ p : BOp, formedB p = true → word p.n → p.code = 1 ∨ p.code = 2 → 1 ≤ o.code ∧ o.code ≤ 15 → applyP p vs M = applyP o vs M → evalL ats (p :: (if (p.code == 24) = true then [] else foldRun (foldUpd f1 p) l)) i vs M = evalL ats (o :: l) i vs M := by
      intro p hp hpn hc ho hA
      have h24 : ¬ (p.code == 24) = true := by rw [beq_iff_eq]; omega
      have hst : (applyP p vs M).stays = true := by
        rcases hc with h | h
        · rw [applyP_const h]
        · rw [applyP_move h]
      rw [if_neg h24, evalL_go (by omega) (by omega) hst, evalL_go (by omega) (by omega) (by rw [← hA]; exact hst), ih _ _ _ _ (applyP_ok hv hpn) (foldSem_upd hs1 hv hp M), hA]
      have e1 : markI p i = i := if_neg (by omega)
      have e2 : markI o i = i := if_neg (by omega)
      rw [e1, e2]
    have e0 : foldRun f (o :: l) = if (foldB f1 o).2 then (foldB f1 o).1 :: (if (foldB f1 o).1.code == 24 then [] else foldRun (foldUpd f1 (foldB f1 o).1) l) else foldRun f1 l := by rw [← hg]; rfl
    rw [e0]
    have some_of : ∀ {v : Int}, (f1 v).isSome = true → 0 ≤ v → v < 28 → getV vs v = (f1 v).getD 0 := fun {v} h h0 h1 => by
      obtain ⟨x, hx⟩ := Option.isSome_iff_exists.1 h
      rw [hs1 v x h0 h1 hx, hx]; rfl
    have f1w : ∀ {v : Int}, (f1 v).isSome = true → 0 ≤ v → v < 28 → word ((f1 v).getD 0) := fun {v} h h0 h1 => by rw [← some_of h h0 h1]; exact getV_word hv v
    unfold foldB
    by_cases c1 : (o.code == 2 && (f1 o.a).isSome) = true
    · rw [if_pos c1]
      simp only [Bool.and_eq_true, beq_iff_eq] at c1
      have hD : hasD o.code = true := by rw [c1.1]; rfl
      refine pure _ (const_formed (field_d hfo hD)) (f1w c1.2 ha.1 ha.2) (.inl rfl) (by omega) ?_
      rw [applyP_const (by rfl), applyP_move c1.1, some_of c1.2 ha.1 ha.2]
    rw [if_neg c1]
    by_cases c2 : (isBin o.code && (f1 o.a).isSome && (f1 o.b).isSome) = true
    · rw [if_pos c2]
      simp only [Bool.and_eq_true] at c2
      have h' : 3 ≤ o.code ∧ o.code ≤ 15 := by have := c2.1.1; unfold isBin at this; simpa using this
      have hD : hasD o.code = true := by unfold hasD; rw [decide_eq_true_eq]; omega
      refine pure _ (const_formed (field_d hfo hD)) (wordOp_word (f1w c2.1.2 ha.1 ha.2) (f1w c2.2 hb.1 hb.2)) (.inl rfl) (by omega) ?_
      rw [applyP_const (by rfl), applyP_bin c2.1.1, some_of c2.1.2 ha.1 ha.2, some_of c2.2 hb.1 hb.2]
    rw [if_neg c2]
    by_cases c3 : ((f1 o.b).isSome && (f1 o.b).getD 0 == 0 && memI o.code [3, 4, 6, 7, 8, 9, 10]) = true
    · rw [if_pos c3]
      simp only [Bool.and_eq_true, beq_iff_eq] at c3
      have hm := c3.2
      simp only [memI, List.any_cons, List.any_nil, Bool.or_false, Bool.or_eq_true, beq_iff_eq] at hm
      have hbin : isBin o.code = true := by unfold isBin; rw [decide_eq_true_eq]; omega
      have hD : hasD o.code = true := by unfold hasD; rw [decide_eq_true_eq]; omega
      have hA' : hasA o.code = true := by unfold hasA; rw [decide_eq_true_eq]; omega
      refine pure _ (move_formed (field_d hfo hD) (field_a hfo hA')) word0 (.inr rfl) (by omega) ?_
      rw [applyP_move (by rfl), applyP_bin hbin, some_of c3.1.1 hb.1 hb.2, c3.1.2, wordOp_zero c3.2 haw]
    rw [if_neg c3]
    by_cases c4 : (o.code == 21 && (f1 o.a).isSome && (f1 o.a).getD 0 != 0) = true
    · rw [if_pos c4]
      simp only [Bool.and_eq_true, beq_iff_eq] at c4
      have e : applyP o vs M = ⟨vs, true, M⟩ := by rw [applyP_guard c4.1.1, some_of c4.1.2 ha.1 ha.2, c4.2]
      show evalL ats (foldRun f1 l) i vs M = _
      rw [evalL_go (by omega) (by omega) (by rw [e]), e, ih _ _ _ _ hv hs1, show markI o i = i from if_neg (by omega)]
    rw [if_neg c4]
    by_cases c5 : (o.code == 23 && (f1 o.a).isSome) = true
    · rw [if_pos c5]
      simp only [Bool.and_eq_true, beq_iff_eq] at c5
      by_cases hz : ((f1 o.a).getD 0 != 0) = true
      · rw [hz]
        show evalL ats (⟨24, 0, 0, 0, o.n⟩ :: _) i vs M = _
        have hz' : getV vs o.a ≠ 0 := by rw [some_of c5.2 ha.1 ha.2]; simpa using hz
        show (if _ then _ else _) = (if _ then _ else _)
        rw [if_pos (.inl rfl), if_pos (.inr ⟨c5.1, hz'⟩)]
      · have hz2 : ((f1 o.a).getD 0 != 0) = false := by simpa using hz
        rw [hz2]
        have hz' : getV vs o.a = 0 := by rw [some_of c5.2 ha.1 ha.2]; simpa using hz
        have e : applyP o vs M = ⟨vs, true, M⟩ := applyP_none (.inr c5.1) vs M
        show evalL ats (foldRun f1 l) i vs M = _
        rw [evalL_go (by omega) (by omega) (by rw [e]), e, ih _ _ _ _ hv hs1, show markI o i = i from if_neg (by omega)]
    rw [if_neg c5]
    by_cases c6 : (o.code == 25 && (f1 o.a).isSome) = true
    · rw [if_pos c6]
      simp only [Bool.and_eq_true, beq_iff_eq] at c6
      show evalL ats (⟨24, 0, 0, 0, (f1 o.a).getD 0⟩ :: _) i vs M = _
      show (if _ then _ else _) = (if _ then _ else _)
      rw [if_pos (.inl rfl), if_neg (by omega), if_pos c6.1, some_of c6.2 ha.1 ha.2]
    rw [if_neg c6]
    show evalL ats (o :: (if (o.code == 24) = true then [] else foldRun (foldUpd f1 o) l)) i vs M = _
    by_cases h24 : o.code = 24
    · show (if _ then _ else _) = (if _ then _ else _)
      rw [if_pos (.inl h24), if_pos (.inl h24)]
    · rw [if_neg (show ¬ (o.code == 24) = true by simpa using h24)]
      exact evalL_head rfl rfl rfl rfl (ih _ _ _ _ (applyP_ok hv hoo.n) (foldSem_upd hs1 hv hfo M))

/-! Copies. -/
end Go.Proofs.Ytmjfgnnefcimiaa
namespace Go.Proofs.Ytmjfgnnefcimiaa
open Go.RowKit

/-- The passes keep the evaluation of a valid block. -/
theorem fold_same {b : Blk} (hb : b.ok) (hv : validB b = true) {vs : List Int} (hvs : VarsOk vs) (M : MemP) : evalBlk (foldP b) vs M = evalBlk b vs M := by
  unfold evalBlk
  rw [if_pos (fold_valid hv), if_pos hv]
  show evalL b.at_ (foldAll b) 0 vs M = _
  unfold foldAll
  rw [if_pos hv]
  exact fold_eval b.at_ b.ops noneF 0 vs M hvs (foldSem_none vs) (valid_formed hv) hb.ops
end Go.Proofs.Ytmjfgnnefcimiaa
namespace Go.Proofs.Ytmjfgnnefcimiaa
open Go.RowKit

set_option maxRecDepth 100000 in
set_option maxHeartbeats 1000000 in
theorem alike_walk (b c : Blk) (x : SetP) (A1 A2 A3 B1 B2 B3 : Option Addr) (c1 c2 c3 d1 d2 d3 : Nat) (w : World) (hb : b.ok) (hc : c.ok) (hvb : validB b = true) (hvc : validB c = true) (hx : x.ok) (hB : BlkAt w b A1 A2 A3) (hC : BlkAt w c B1 B2 B3) (heq : evalBlk c x.all (setupM x) = evalBlk b x.all (setupM x)) (hlen : (evalBlk b x.all (setupM x)).out.vars.length = 28) (hmem : (evalBlk b x.all (setupM x)).mem.ok 768 3) :
    Calls Try.prog 36 #[.agg #[.slice A1 b.at_.length c1, .slice A2 b.pages.length c2, .slice A3 b.ops.length c3], .agg #[.slice B1 c.at_.length d1, .slice B2 c.pages.length d2, .slice B3 c.ops.length d3], setV x] w fun e w' => e = .returned (.bool true) ∧ Below w.heap.size w w' := by
  have hvs := all_ok hx
  refine calls_satq [.agg #[.slice A1 b.at_.length c1, .slice A2 b.pages.length c2, .slice A3 b.ops.length c3], .agg #[.slice B1 c.at_.length d1, .slice B2 c.pages.length d2, .slice B3 c.ops.length d3], setV x] Try.func36 Try.ntmps36 rfl (by simp) ?_
  refine satq_seq ?_
  conv => whnf
  refine satq_restart fun r w1 hR => ?_
  obtain ⟨g3, us3, e3, f3, k3⟩ := own_cellsAt hR 0 rfl
  obtain rfl := denL_vals_inv (us := [.slice A1 b.at_.length c1, .slice A2 b.pages.length c2, .slice A3 b.ops.length c3]) f3
  obtain ⟨g4, us4, e4, f4, k4⟩ := own_cellsAt hR 1 rfl
  obtain rfl := denL_vals_inv (us := [.slice B1 c.at_.length d1, .slice B2 c.pages.length d2, .slice B3 c.ops.length d3]) f4
  obtain ⟨g5, us5, e5, f5, k5⟩ := own_cellsAt hR 2 rfl
  obtain rfl := denL_vals_inv (us := setL x) f5
  have hB0 := hR.toBelow
  refine ⟨slotFr [(3, .pointer (some ⟨g3, 0, none⟩)), (4, .pointer (some ⟨g4, 0, none⟩)), (5, .pointer (some ⟨g5, 0, none⟩))], fun a hf => slots_den ⟨slot_ref hf 3 rfl e3, slot_ref hf 4 rfl e4, slot_ref hf 5 rfl e5, trivial⟩, ?_⟩
  have hB1 := hB.later hB0
  have hC1 := hC.later hB0
  clear hR e3 e4 e5 f3 f4 f5
  refine satq_mid (α := Unit) (fun _ => [(3, one (.pointer (some ⟨g3, 0, none⟩))), (4, one (.pointer (some ⟨g4, 0, none⟩))), (5, one (.pointer (some ⟨g5, 0, none⟩))), (7, .p (.c (.ref 0 0))), (8, .p (.c (.ref 6 0)))]) (fun _ => memS 0 768 3 (setupM x) ++ memS 6 768 3 (setupM x)) ?_ fun _ => ?_
  · refine satq_vc ?_
    refine sat_anyG (.q 0 (.q 2 (.alt 1 (.alt 3 (.q 4 (.q 5 .done)) .no) .no))) mixed (by kernel_rfl) (by kernel_rfl) ?_
    conv => whnf
    refine ⟨setL x, k5, setL_length hx, ?_⟩
    conv => whnf
    refine ⟨setL x, k5, setL_length hx, ?_⟩
    conv => whnf
    refine ⟨?_, trivial⟩
    conv => whnf
    refine call_newObjs (xs := [setV x]) (memS 0 768 3 (setupM x)) (memS 0 768 3 (setupM x)) (avals_set x) (by kernel_rfl) (memS_sh 0 768 3 _) (memS_ob 768 3 _) (fun r w' hR => setup_mem x w' hx) ?_
    conv => whnf
    refine ⟨?_, trivial⟩
    conv => whnf
    refine call_newObjs (xs := [setV x]) (memS 0 768 3 (setupM x)) (memS 6 768 3 (setupM x)) (avals_set x) (by kernel_rfl) (memS_sh 6 768 3 _) (memS_ob 768 3 _) (fun r w' hR => setup_mem x w' hx) ?_
    conv => whnf
    exact atq_mid () (ent_same rfl (aI rfl (aI rfl (aI rfl (aI rfl (aI rfl trivial))))) (aI ((aI rfl (Or.inl rfl))) (aI ((aI rfl (Or.inl rfl))) (aI ((aI rfl (Or.inl rfl))) (aI ((aI rfl (Or.inl rfl))) (aI ((aI rfl (Or.inl rfl))) (aI ((aI rfl (Or.inl rfl))) (aI ((aI rfl (Or.inl rfl))) (aI ((aI rfl (Or.inl rfl))) (aI ((aI rfl (Or.inl rfl))) (aI ((aI rfl (Or.inl rfl))) (aI ((aI rfl (Or.inl rfl))) (aI ((aI rfl (Or.inl rfl))) trivial)))))))))))))
  · refine satq_vc ?_
    refine sat_anyG (.q 0 (.q 1 (.q 3 (.q 5 (.q 6 (.q 8 (.alt 2 (.alt 4 (.alt 7 (.alt 9 (.alt 10 (.q 11 (.q 12 (.q 13 (.alt 14 (.q 15 (.q 16 .done)) .no)))) .no) .no) .no) .no) .no))))))) mixed (by kernel_rfl) (by kernel_rfl) ?_
    conv => whnf
    refine ⟨_, k3, rfl, ?_⟩
    conv => whnf
    refine ⟨setL x, k5, setL_length hx, ?_⟩
    conv => whnf
    refine ⟨_, k4, rfl, ?_⟩
    conv => whnf
    refine ⟨setL x, k5, setL_length hx, ?_⟩
    conv => whnf
    refine ⟨?_, trivial⟩
    conv => whnf
    refine call_con (xs := [setV x]) (x := varsV x.all) (avals_set x) (by kernel_rfl) (fun r w' hR => vars_walk x w' hx) ?_
    conv => whnf
    refine ⟨?_, trivial⟩
    conv => whnf
    refine call_memW (pre := [.p (.agg [.v (.slice A1 b.at_.length c1), .v (.slice A2 b.pages.length c2), .v (.slice A3 b.ops.length c3)]), .p (.agg (varsC x.all))]) (suf := []) 0 768 3 (setupM x) (evalBlk b x.all (setupM x)).mem (outV (evalBlk b x.all (setupM x)).out) (fun i hi => ?_) (avals_blk_vars _ _ _ _) rfl (by kernel_rfl) (fun w' g gs hk hU => eval_walk b x.all 768 3 (setupM x) A1 A2 A3 c1 c2 c3 w' g gs hU setupM_ok hb hvb hvs (slAt_keeps hk hB1.at_) (slAt_keeps hk hB1.pages) (slAt_keeps hk hB1.ops)) ?_
    · exact mem2_get 0 768 3 _ _ i hi
    conv => whnf
    refine ⟨?_, trivial⟩
    conv => whnf
    refine call_con (xs := [setV x]) (x := varsV x.all) (avals_set x) (by kernel_rfl) (fun r w' hR => vars_walk x w' hx) ?_
    conv => whnf
    refine ⟨?_, trivial⟩
    conv => whnf
    refine call_memW (pre := [.p (.agg [.v (.slice B1 c.at_.length d1), .v (.slice B2 c.pages.length d2), .v (.slice B3 c.ops.length d3)]), .p (.agg (varsC x.all))]) (suf := []) 6 768 3 (setupM x) (evalBlk c x.all (setupM x)).mem (outV (evalBlk c x.all (setupM x)).out) (fun i hi => ?_) (avals_blk_vars _ _ _ _) rfl (by kernel_rfl) (fun w' g gs hk hU => eval_walk c x.all 768 3 (setupM x) B1 B2 B3 d1 d2 d3 w' g gs hU setupM_ok hc hvc hvs (slAt_keeps hk hC1.at_) (slAt_keeps hk hC1.pages) (slAt_keeps hk hC1.ops)) ?_
    · have : i = 0 ∨ i = 1 ∨ i = 2 ∨ i = 3 ∨ i = 4 ∨ i = 5 := by omega
      rcases this with rfl | rfl | rfl | rfl | rfl | rfl <;> rfl
    rw [heq]
    conv => whnf
    refine ⟨?_, trivial⟩
    conv => whnf
    refine q_eql_out (evalBlk b x.all (setupM x)).out hlen rfl rfl rfl ?_
    conv => whnf
    refine ⟨?_, trivial⟩
    conv => whnf
    refine call_mem2 0 6 768 3 (evalBlk b x.all (setupM x)).mem hmem (fun i hi => ?_) (fun i hi => ?_) ?_
    · have : i = 0 ∨ i = 1 ∨ i = 2 ∨ i = 3 ∨ i = 4 ∨ i = 5 := by omega
      rcases this with rfl | rfl | rfl | rfl | rfl | rfl <;> rfl
    · have : i = 0 ∨ i = 1 ∨ i = 2 ∨ i = 3 ∨ i = 4 ∨ i = 5 := by omega
      rcases this with rfl | rfl | rfl | rfl | rfl | rfl <;> rfl
    conv => whnf
    refine atq_ret ?_
    conv => whnf
    exact fin_val rfl fun w' hB => ⟨rfl, hB0.trans (hB.mono hB0.size)⟩
end Go.Proofs.Ytmjfgnnefcimiaa
namespace Go.Proofs.Ytmjfgnnefcimiaa
open Go.RowKit

theorem avals_two_set (s1 s2 s3 t1 t2 t3 : Value) (x : SetP) : avals [.p (.agg [.v s1, .v s2, .v s3]), .p (.agg [.v t1, .v t2, .v t3]), .p (.agg ((setL x).map .v))] = some [.agg #[s1, s2, s3], .agg #[t1, t2, t3], setV x] := by
  simp only [avals, AV.val, Pc.val, valL_vals, valL, CV.val]
set_option maxRecDepth 100000 in
set_option maxHeartbeats 1000000 in
theorem sound_walk (b c : Blk) (x : SetP) (A1 A2 A3 B3 : Option Addr) (c1 c2 c3 d3 : Nat) (w : World) (hb : b.ok) (hc : c.ok) (hvb : validB b = true) (hvc : validB c = true) (hat : c.at_ = b.at_) (hpg : c.pages = b.pages) (hle : c.ops.length ≤ b.ops.length) (hx : x.ok) (hB : BlkAt w b A1 A2 A3) (hC : OpsAt w w.heap.size B3 c.ops) (heq : evalBlk c x.all (setupM x) = evalBlk b x.all (setupM x)) (hlen : (evalBlk b x.all (setupM x)).out.vars.length = 28) (hmem : (evalBlk b x.all (setupM x)).mem.ok 768 3) :
    Calls Try.prog 16 #[.agg #[.slice A1 b.at_.length c1, .slice A2 b.pages.length c2, .slice A3 b.ops.length c3], .agg #[.slice A1 b.at_.length c1, .slice A2 b.pages.length c2, .slice B3 c.ops.length d3], setV x] w fun e w' => e = .returned (.bool true) ∧ Below w.heap.size w w' := by
  refine calls_satq [.agg #[.slice A1 b.at_.length c1, .slice A2 b.pages.length c2, .slice A3 b.ops.length c3], .agg #[.slice A1 b.at_.length c1, .slice A2 b.pages.length c2, .slice B3 c.ops.length d3], setV x] Try.func16 Try.ntmps16 rfl (by simp) ?_
  refine satq_seq ?_
  conv => whnf
  refine satq_restart fun r w1 hR => ?_
  obtain ⟨g3, us3, e3, f3, k3⟩ := own_cellsAt hR 0 rfl
  obtain rfl := denL_vals_inv (us := [.slice A1 b.at_.length c1, .slice A2 b.pages.length c2, .slice A3 b.ops.length c3]) f3
  obtain ⟨g4, us4, e4, f4, k4⟩ := own_cellsAt hR 1 rfl
  obtain rfl := denL_vals_inv (us := [.slice A1 b.at_.length c1, .slice A2 b.pages.length c2, .slice B3 c.ops.length d3]) f4
  obtain ⟨g5, us5, e5, f5, k5⟩ := own_cellsAt hR 2 rfl
  obtain rfl := denL_vals_inv (us := setL x) f5
  have hB0 := hR.toBelow
  refine ⟨slotFr [(3, .pointer (some ⟨g3, 0, none⟩)), (4, .pointer (some ⟨g4, 0, none⟩)), (5, .pointer (some ⟨g5, 0, none⟩))], fun a hf => slots_den ⟨slot_ref hf 3 rfl e3, slot_ref hf 4 rfl e4, slot_ref hf 5 rfl e5, trivial⟩, ?_⟩
  have hB1 := hB.later hB0
  have hC1 := sl_later hC hB0
  clear hR e3 e4 e5 f3 f4 f5
  have part : ∀ {g : Nat} {s1 s2 s3 : Value}, CellsAt w1 Gs.nil g 0 [s1, s2, s3] → CellsAt w1 Gs.nil g 0 [s1] ∧ CellsAt w1 Gs.nil g 1 [s2] ∧ CellsAt w1 Gs.nil g 2 [s3] := fun {g s1 s2 s3} h =>
    ⟨cells_one h.1 h.2.1 (h.2.2 0 s1 rfl), cells_one h.1 h.2.1 (h.2.2 1 s2 rfl), cells_one h.1 h.2.1 (h.2.2 2 s3 rfl)⟩
  obtain ⟨p41, p42, p43⟩ := part k4
  obtain ⟨p31, p32, p33⟩ := part k3
  refine satq_vc ?_
  conv => whnf
  refine ⟨_, p41, ?_⟩
  conv => whnf
  refine ⟨_, p42, ?_⟩
  conv => whnf
  refine ⟨_, p33, ?_⟩
  conv => whnf
  refine ⟨_, k4, rfl, ?_⟩
  conv => whnf
  refine call_con (x := .bool true) rfl (by kernel_rfl) (fun r w' hR => ?_) ?_
  · have := valid_ref A1 A2 B3 c1 c2 d3 c w' hc (by rw [hpg]; exact sl_later hB1.pages hR.toBelow) (sl_later hC1 hR.toBelow)
    rw [valid_same, hvc, hat, hpg] at this
    exact this
  conv => whnf
  refine ⟨true, fun _ => ?_, ?_⟩
  · conv => whnf
    refine ⟨_, k3, rfl, ?_⟩
    conv => whnf
    refine call_con (x := .bool true) rfl (by kernel_rfl) (fun r w' hR => ?_) ?_
    · have := same_ref A1 A2 A3 A1 A2 A3 c1 c2 c3 c1 c2 c3 b b w' hb.lat hb.lpages hb.lops (sl_later hB1.at_ hR.toBelow) (sl_later hB1.pages hR.toBelow) (sl_later hB1.ops hR.toBelow) (sl_later hB1.at_ hR.toBelow) (sl_later hB1.pages hR.toBelow) (sl_later hB1.ops hR.toBelow)
      rw [sameB_self] at this
      exact this
    conv => whnf
    exact ⟨rfl, rfl, rfl, rfl, rfl⟩
  conv => whnf
  refine ⟨true, fun _ => ?_, ?_⟩
  · conv => whnf
    refine ⟨_, p43, ?_⟩
    conv => whnf
    refine ⟨_, p33, ?_⟩
    conv => whnf
    rw [show decide ((c.ops.length : Int) ≤ (b.ops.length : Int)) = true by simp; omega]
    exact ⟨rfl, rfl, rfl, rfl, rfl⟩
  conv => whnf
  refine ⟨true, fun _ => ?_, ?_⟩
  · conv => whnf
    refine ⟨_, k3, rfl, ?_⟩
    conv => whnf
    refine ⟨_, k4, rfl, ?_⟩
    conv => whnf
    refine ⟨setL x, k5, setL_length hx, ?_⟩
    conv => whnf
    refine call_con (x := .bool true) (avals_two_set _ _ _ _ _ _ x) (by kernel_rfl) (fun r w' hR => ?_) ?_
    · have := alike_walk b c x A1 A2 A3 A1 A2 B3 c1 c2 c3 c1 c2 d3 w' hb hc hvb hvc hx (hB1.later hR.toBelow) ⟨by rw [hat]; exact sl_later hB1.at_ hR.toBelow, by rw [hpg]; exact sl_later hB1.pages hR.toBelow, sl_later hC1 hR.toBelow⟩ heq hlen hmem
      rw [hat, hpg] at this
      exact this
    conv => whnf
    exact ⟨rfl, rfl, rfl, rfl, rfl⟩
  conv => whnf
  refine atq_ret ?_
  conv => whnf
  exact fin_val rfl fun w' hB => ⟨rfl, hB0.trans (hB.mono hB0.size)⟩
end Go.Proofs.Ytmjfgnnefcimiaa
namespace Go.Proofs.Ytmjfgnnefcimiaa
open Go.RowKit

/-- sound, of a block whose operations lie in a view. -/
theorem call_sound {w0 : World} {S : List Ow} {K : AV → List Ow → Prop} {φ : Option Addr → Prop} (i : Nat) (b : Blk) (l : List BOp) (x : SetP) (A1 A2 A3 : Option Addr) (c1 c2 c3 n1 n2 n3 : Nat) (hb : b.ok) (hvb : validB b = true) (hx : x.ok) (hB : BlkAt w0 b A1 A2 A3) (hn1 : b.at_.length = n1) (hn2 : b.pages.length = n2) (hn3 : b.ops.length = n3)
    (hl : OptOk b l) (hle : l.length ≤ b.ops.length) (hi : S[i]? = some (.view φ l.length (l.flatMap opC))) (hK : K (one (.bool true)) S) :
    CallS Try.prog w0 Gs.nil 16 [.p (.agg [.v (.slice A1 n1 c1), .v (.slice A2 n2 c2), .v (.slice A3 n3 c3)]), .p (.agg [.v (.slice A1 n1 c1), .v (.slice A2 n2 c2), .row i]), .p (.agg ((setL x).map .v))] S K := by
  subst hn1; subst hn2; subst hn3
  refine callS_val (.bool true) (by kernel_rfl) (fun r w us hR hd => ?_) hK
  obtain ⟨u1, l1, rfl, d1, u2, l2, rfl, d2, u3, l3, rfl, d3, d4⟩ := hd
  obtain rfl : l3 = [] := d4
  obtain rfl := AV.val_den (x := .agg #[.slice A1 b.at_.length c1, .slice A2 b.pages.length c2, .slice A3 b.ops.length c3]) rfl d1
  obtain rfl := AV.val_den (val_agg _) d3
  obtain ⟨us, rfl, hl'⟩ := den_agg d2
  simp only [denL, CV.den] at hl'
  obtain ⟨u1, l1, rfl, rfl, u2, l2, rfl, rfl, u3, l3, rfl, e3, rfl⟩ := hl'
  obtain ⟨A, c, rfl, s, k1, k2, _⟩ := viewAt hR hi e3
  obtain ⟨h1, h2⟩ := evalBlk_ok hb (all_ok hx) (setupM_ok (x := x))
  exact sound_walk b ⟨b.at_, b.pages, l⟩ x A1 A2 A3 A c1 c2 c3 c w hb hl.ok hvb hl.valid rfl rfl hle hx (hB.later hR.toBelow) s (hl.same _ _ (all_ok hx)) h1 h2
theorem fold_ok {b : Blk} (hb : b.ok) (hv : validB b = true) : OptOk b (foldAll b) := ⟨fold_valid hv, foldP_ok hb, fun _ M h => fold_same hb hv h M⟩
set_option maxRecDepth 100000 in
theorem folds_law (A : Option Addr) (n c : Nat) (xs : List Int) (x : SetP) (w : World) (hs : SlAt w w.heap.size A (xs.map (.int .i64))) (hl : xs.length = n) (hnc : n ≤ c) (hx : x.ok) :
    Calls Try.prog 3 #[.slice A n c, setV x] w fun e w' => e = .returned (.bool true) ∧ Below w.heap.size w w' := by
  refine calls_satq [.slice A n c, setV x] Try.func3 Try.ntmps3 rfl (by simp) ?_
  refine satq_seq ?_
  conv => whnf
  refine satq_seq ?_
  conv => whnf
  refine call_con rfl (by kernel_rfl) (fun r w' hR => sanity_law w') ?_
  conv => whnf
  refine satq_cut (α := { b : Blk // MadeOk b }) (fun b => [(3, .p (.c (.ref 3 0))), (5, one (.bool true)), (6, .p (.c (.ref 4 0)))]) (fun b => blkRows b.1 ++ [.cells 27 ((setL x).map .v), .cells 32 [.row 0, .row 1, .row 2]]) ?_ fun b => ?_
  · conv => whnf
    refine call_blk MadeOk (by kernel_rfl) (fun r w' us hR hd => ?_) fun b hb => ?_
    · obtain rfl := avals_den (xs := [.slice A n c]) rfl hd
      exact made_walk A n c xs w' (sl_later hs hR.toBelow) hl hnc
    conv => whnf
    exact ⟨⟨b, hb⟩, ent_ren [1, 2, 3, 0, 4] (aI rfl (aI rfl (aI rfl trivial))) (aI ((Exists.intro _ (aI rfl (aI rfl (aI rfl (aI rfl rfl)))))) (aI ((Exists.intro _ (aI rfl (aI rfl (aI rfl (aI rfl rfl)))))) (aI ((Exists.intro _ (aI rfl (aI rfl (aI rfl (aI rfl rfl)))))) (aI ((Exists.intro _ (aI rfl (aI rfl (Or.inl (renL_vals _ _).symm))))) (aI ((Exists.intro _ (aI rfl (aI rfl (Or.inl rfl))))) trivial))))) rfl (by simp only [blkRows, List.cons_append, List.nil_append, sbnd, Ow.bnd, bndL_vals, bndL, CV.bnd]; rfl) rfl rfl rfl⟩
  obtain ⟨b, hb⟩ := b
  dsimp only
  refine satq_restart fun r w2 hR => ?_
  obtain ⟨g6, A1, c1, A2, c2, A3, c3, b6, k6, s1, s2, s3, m1, m2⟩ := own_blkRows hR 4 0 1 2 b rfl rfl rfl rfl
  obtain ⟨g3, us3, e3, f3, k3⟩ := own_cellsAt hR 3 rfl
  obtain rfl := denL_vals_inv (us := setL x) f3
  have hB1 : Below w.heap.size w w2 := hR.toBelow
  refine ⟨slotFr [(3, .pointer (some ⟨g3, 0, none⟩)), (5, .bool true), (6, .pointer (some ⟨g6, 0, none⟩))], fun a hf => slots_den ⟨slot_ref hf 3 rfl e3, slot_val hf rfl, slot_ref hf 6 rfl b6, trivial⟩, ?_⟩
  clear hR b6 e3 f3
  refine satq_vc ?_
  refine sat_anyG (.q 0 (.q 1 (.q 2 (.q 3 (.q 5 (.alt 4 (.alt 6 (.q 7 (.q 8 .done)) .no) .no)))))) mixed (by kernel_rfl) (by kernel_rfl) ?_
  conv => whnf
  refine ⟨_, k6, rfl, ?_⟩
  conv => whnf
  refine ⟨_, k6, rfl, ?_⟩
  conv => whnf
  refine ⟨setL x, k3, setL_length hx, ?_⟩
  conv => whnf
  refine ⟨?_, trivial⟩
  conv => whnf
  refine call_pass_pl fold_pass (by kernel_rfl) hb.ok fold_nil rfl rfl rfl s1 s2 s3 m1 m2 ?_
  conv => whnf
  refine ⟨?_, trivial⟩
  conv => whnf
  refine call_sound 0 b (foldAll b) x A1 A2 A3 c1 c2 c3 _ _ _ hb.ok hb.valid hx ⟨s1, s2, s3⟩ rfl rfl rfl (fold_ok hb.ok hb.valid) (foldAll_length b) rfl ?_
  conv => whnf
  refine atq_ret ?_
  conv => whnf
  exact fin_val rfl fun w' hB => ⟨rfl, hB1.trans (hB.mono hB1.size)⟩
end Go.Proofs.Ytmjfgnnefcimiaa
namespace Go.Proofs.Ytmjfgnnefcimiaa
open Go.ChangeShapes Go.WideShapes Go.ChangeAt Go.RowKit

set_option maxRecDepth 100000 in
theorem optFolds_lifted (os : Os) (started : os.Started) (H : Type) (enc : TypeId × Value → H) :
    ReturnsInHanded {} Try.checked os 3 .any (Rows.optFoldsSpec.pre6 enc Try.prog Try.f3 Rows.optFoldsRow.domain false) (Rows.optFoldsSpec.post enc Try.prog Try.f3 false true false false) := by
  refine returnsInHanded_of_change (C := Try.checked) ownK started (by kernel_rfl) Try.func3
    (ChangeSpec.witness6 (enc := enc) (C := Try.checked) false ⟨#[], #[.slice none 0 0, setV ⟨0, 0, 0, 0, List.replicate 19 0⟩], []⟩ 8 (by kernel_rfl) (by kernel_rfl) (by kernel_rfl) (by kernel_rfl)) ?_
  intro W base args ds gs before hval0 hW hcnd _
  have hval : ∀ (j : Nat) t v, Try.f3.params[j]? = some t → args[j]? = some v → Value.okWide Try.prog W .any base t v := hval0
  have hW' := hW
  obtain ⟨p, q, hA0, hV, rfl, hfz, hnd⟩ := hW
  have hA : DataW.TrodAll enc Try.prog W 0 (fun _ => true) true Try.f3.params.toList args.toList ds p := hA0
  rw [Try.params3] at hA hval
  obtain ⟨v0, vs0, d0, ds0, p0, q0, hargs, rfl, rfl, h0, r0⟩ := trodAll_cons hA
  obtain ⟨v1, vs1, d1, ds1, p1, q1, rfl, rfl, rfl, h1, r1⟩ := trodAll_cons r0
  obtain ⟨rfl, rfl, rfl⟩ := trodAll_nil r1
  obtain rfl : args = #[v0, v1] := by cases args; simp_all
  obtain ⟨rfl, rfl⟩ := trodVars_none hV
  obtain ⟨a0, len0, cap0, rfl⟩ := okWide_slice Try.underlying22 (hval 0 22 v0 rfl rfl)
  have k0 := h0
  have k1 := h1
  have lt0 : ∀ x ∈ p0, x.block < W.heap.size := by obtain ⟨m, hm⟩ := k0; exact DataW.trod_lt m _ _ _ hm
  have lt1 : ∀ x ∈ p1, x.block < W.heap.size := by obtain ⟨m, hm⟩ := k1; exact DataW.trod_lt m _ _ _ hm
  obtain ⟨xs, w0, hl, hnc⟩ := open_sl h0
  obtain ⟨x, rfl, hx⟩ := open_x (hval 1 27 v1 rfl rfl) h1
  clear hA0 hval0
  refine (folds_law a0 len0 cap0 xs x W w0 hl hnc hx).mono fun e W' ⟨he, bel⟩ => ?_
  subst he
  exact ⟨_, rfl, _, _, _, [], _, [], hW', trodAll_mk1 (shut_bool Try.underlying4 _), (trodAll_cons_mk (Below.trod laidOutP (by kernel_rfl) (of_decide_eq_true (by kernel_rfl)) k0 bel lt0) (trodAll_cons_mk (Below.trod laidOutP (by kernel_rfl) (of_decide_eq_true (by kernel_rfl)) k1 bel lt1) trodAll_mk0)), rfl, bel.frame _, fun h => by cases h⟩
theorem optFolds_holds : Rows.OptFoldsSaid :=
  OpenClaim.holds_of_wide 3 Try.f3 rfl rfl rfl rfl rfl rfl rfl ⟨rfl, rfl, rfl, rfl, rfl⟩ rfl rfl rfl rfl rfl (by kernel_rfl) Try.func3 (by kernel_rfl)
    (of_decide_eq_true (by kernel_rfl)) (by unfold Func.isWrapper; first | (rw [if_pos (by decide +kernel)]; kernel_rfl) | (rw [if_neg (by decide +kernel)]; exact ⟨rfl, rfl⟩))
    (fun os started H enc _ => optFolds_lifted os started H enc)
end Go.Proofs.Ytmjfgnnefcimiaa
#print axioms Go.Proofs.Ytmjfgnnefcimiaa.optFolds_holds
