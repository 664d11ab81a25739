/- The outcome of a block does not depend on the values of variables that are not live before its first operation: for every input, without any condition. -/
import Derived.Test.YtmjfgnnefcimiaaM1
import Derived.Test.YtmjfgnnefcimiaaM13
import Derived.Test.YtmjfgnnefcimiaaM14
import Derived.Test.YtmjfgnnefcimiaaM15
import Derived.Test.YtmjfgnnefcimiaaM16
import Derived.Test.YtmjfgnnefcimiaaM17
import Derived.Test.YtmjfgnnefcimiaaM18
import Derived.Test.YtmjfgnnefcimiaaM19
import Derived.Test.YtmjfgnnefcimiaaM20
import Derived.Test.YtmjfgnnefcimiaaM21
import Derived.Test.YtmjfgnnefcimiaaM22
import Derived.Test.YtmjfgnnefcimiaaM23
import Derived.Test.YtmjfgnnefcimiaaM24
import Derived.Test.YtmjfgnnefcimiaaM25
import Derived.Test.YtmjfgnnefcimiaaM27
import Derived.Test.YtmjfgnnefcimiaaM28
import Derived.Test.YtmjfgnnefcimiaaM29
import Derived.Test.YtmjfgnnefcimiaaM3
import Derived.Test.YtmjfgnnefcimiaaM30
import Derived.Test.YtmjfgnnefcimiaaM31
import Derived.Test.YtmjfgnnefcimiaaM32
import Derived.Test.YtmjfgnnefcimiaaM33
import Derived.Test.YtmjfgnnefcimiaaM34
import Derived.Test.YtmjfgnnefcimiaaM5
import Derived.Test.YtmjfgnnefcimiaaM6
import Derived.Test.YtmjfgnnefcimiaaM7
namespace Go.Proofs.Ytmjfgnnefcimiaa
open Go.RowKit

theorem setM_bit (m k j : Nat) : (setM m k).testBit j = (m.testBit j || decide (k = j)) := by unfold setM; rw [Nat.testBit_or, Nat.testBit_two_pow]
theorem readsM_bit : ∀ (l : List Int) (m : Nat) (v : Nat), (∀ x ∈ l, 0 ≤ x) → (readsM m l).testBit v = (m.testBit v || memI (v : Int) l)
  | [], m, v, _ => by simp [readsM, memI]
  | x :: l, m, v, h => by
    have hx := h x (by simp)
    show (readsM (setM m x.toNat) l).testBit v = _
    rw [readsM_bit l _ v (fun y hy => h y (by simp [hy])), setM_bit]
    unfold memI
    rw [List.any_cons, Bool.or_assoc]
    congr 2
    rw [Bool.eq_iff_iff]; simp; omega
theorem clrM_bit {m d v : Nat} (hd : d < 32) (hv : v < 32) : (clrM m d).testBit v = (m.testBit v && !decide (d = v)) := by
  unfold clrM
  rw [Nat.testBit_and]
  have : (4294967295 - 2 ^ d).testBit v = !decide (d = v) := by
    have e : 4294967295 - 2 ^ d = 2 ^ 32 - (2 ^ d + 1) := by omega
    have h2 : 2 ^ d < 2 ^ 32 := Nat.pow_lt_pow_right (by omega) hd
    rw [e, Nat.testBit_two_pow_sub_succ h2, Nat.testBit_two_pow]
    simp [hv]
  rw [this]
theorem low19_bit (v : Nat) : (524287 : Nat).testBit v = decide (v < 19) := by
  rw [show (524287 : Nat) = 2 ^ 19 - 1 from rfl, Nat.testBit_two_pow_sub_one]
theorem writes_lt {o : BOp} (hf : formedB o = true) : writes o < 28 := by
  have := writes_var hf
  exact this
theorem beforeM_bit {o : BOp} (hf : formedB o = true) (m : Nat) {v : Nat} (hv : v < 28) : (beforeM o m).testBit v = (memI (v : Int) (reads o) || (observesB o && decide ((v : Int) < 19)) || (m.testBit v && !(writes o == (v : Int)))) := by
  have hr : ∀ x ∈ reads o, 0 ≤ x := fun x hx => (reads_var hf x hx).1
  have hw := writes_lt hf
  have hc : (if 0 ≤ writes o then clrM m (writes o).toNat else m).testBit v = (m.testBit v && !(writes o == (v : Int))) := by
    split
    · rename_i h0
      rw [clrM_bit (by omega) (by omega)]
      congr 2
      rw [Bool.eq_iff_iff]; simp; omega
    · rename_i h0
      have : (writes o == (v : Int)) = false := by rw [beq_eq_false_iff_ne]; omega
      rw [this]; simp
  have h19 : decide ((v : Int) < 19) = decide (v < 19) := by rw [decide_eq_decide]; omega
  unfold beforeM
  split
  · rename_i ho
    rw [Nat.testBit_or, readsM_bit _ _ _ hr, hc, low19_bit, ho, h19]
    cases memI (v : Int) (reads o) <;> cases decide (v < 19) <;> simp
  · rename_i ho
    have ho' : observesB o = false := by simpa using ho
    rw [readsM_bit _ _ _ hr, hc, ho']
    cases memI (v : Int) (reads o) <;> simp
end Go.Proofs.Ytmjfgnnefcimiaa
namespace Go.Proofs.Ytmjfgnnefcimiaa
open Go.RowKit

theorem mem_reads {o : BOp} {v : Int} : v ∈ reads o ↔ (hasA o.code = true ∧ v = o.a) ∨ (hasB o.code = true ∧ v = o.b ∧ o.b ≠ o.a) := by
  unfold reads
  rw [List.mem_append]
  constructor
  · rintro (h | h)
    · split at h
      · rename_i hA; exact .inl ⟨hA, by simpa using h⟩
      · cases h
    · split at h
      · rename_i hB; simp at hB; exact .inr ⟨hB.1, by simpa using h, hB.2⟩
      · cases h
  · rintro (⟨h1, h2⟩ | ⟨h1, h2, h3⟩)
    · left; rw [h1, h2]; simp
    · right; rw [if_pos (by rw [h1]; simp [h3]), h2]; simp
theorem hasA_of_B {c : Int} (h : hasB c = true) : hasA c = true := by
  unfold hasB at h; unfold hasA; rw [decide_eq_true_eq] at h ⊢; omega
theorem reads_b {o : BOp} (h : hasB o.code = true) : o.b ∈ reads o := by
  by_cases e : o.b = o.a
  · exact mem_reads.2 (.inl ⟨hasA_of_B h, e⟩)
  · exact mem_reads.2 (.inr ⟨h, rfl, e⟩)
/-! Dead. -/
/-! The result of Opt. -/
end Go.Proofs.Ytmjfgnnefcimiaa
namespace Go.Proofs.Ytmjfgnnefcimiaa
open Go.RowKit

theorem applyP_none {o : BOp} (h : o.code = 20 ∨ o.code = 23) (vs : List Int) (M : MemP) : applyP o vs M = ⟨vs, true, M⟩ := by
  have hb : ¬ isBin o.code = true := by unfold isBin; rw [decide_eq_true_eq]; omega
  unfold applyP; rw [if_neg (by omega), if_neg (by omega), if_neg (by omega), if_neg (by omega), if_neg (by omega), if_neg (by omega), if_neg hb]
/-! Fold. -/
/-! Copies. -/
end Go.Proofs.Ytmjfgnnefcimiaa
namespace Go.Proofs.Ytmjfgnnefcimiaa
open Go.ChangeShapes Go.WideShapes Go.ChangeAt Go.RowKit

set_option maxRecDepth 100000 in
/-- 19 words. -/
theorem open_w19 {H : Type} {enc : TypeId × Value → H} {W : World} {r : Reach} {b0 : Nat} {v : Value} {d : DataW H} {p : List MemPlace} (hv : Value.okWide Try.prog W r b0 25 v) (h : DataW.Trod enc Try.prog W 0 (fun _ => true) true 25 v d p) :
    ∃ zs : List Int, v = .agg (u32L zs).toArray ∧ zs.length = 19 ∧ ∀ z ∈ zs, word z := by
  simp only [Value.okWide, Try.underlying25] at hv
  obtain ⟨cs, rfl, hsz, _⟩ := hv
  obtain ⟨fuel, hf⟩ := h
  obtain ⟨zs, e, l, w⟩ := open_ints_arr (k := .u32) Try.underlying25 Try.underlying24 (by kernel_rfl) (by kernel_rfl) hf
  have e : cs.toList = u32L zs := e
  exact ⟨zs, by rw [← e], l, fun z hz => word_wf (w z hz)⟩
end Go.Proofs.Ytmjfgnnefcimiaa
namespace Go.Proofs.Ytmjfgnnefcimiaa
open Go.RowKit

theorem getV_eq {vs us : List Int} (h1 : vs.length = 28) (h2 : us.length = 28) {k : Nat} (hk : k < 28) (h : getV vs (k : Int) = getV us (k : Int)) : vs[k]? = us[k]? := by
  unfold getV at h
  rw [Int.toNat_natCast, List.getElem?_eq_getElem (by omega), List.getElem?_eq_getElem (by omega)] at h
  rw [List.getElem?_eq_getElem (by omega), List.getElem?_eq_getElem (by omega)]
  simpa using h
theorem guests_eq {vs us : List Int} (h1 : vs.length = 28) (h2 : us.length = 28) (h : ∀ v : Nat, v < 19 → getV vs (v : Int) = getV us (v : Int)) : guestsL vs = guestsL us := by
  unfold guestsL
  rw [h1, h2]
  congr 1
  refine List.ext_getElem? fun k => ?_
  rw [List.getElem?_take, List.getElem?_take]
  split
  · rename_i hk; exact getV_eq h1 h2 (by omega) (h k hk)
  · rfl
theorem memI_reads_a {o : BOp} (hA : hasA o.code = true) : memI o.a (reads o) = true := by
  unfold memI; rw [List.any_eq_true]; exact ⟨o.a, mem_reads.2 (.inl ⟨hA, rfl⟩), by simp⟩
theorem memI_reads_b {o : BOp} (hB : hasB o.code = true) : memI o.b (reads o) = true := by
  unfold memI; rw [List.any_eq_true]; exact ⟨o.b, reads_b hB, by simp⟩
theorem bit_of {o : BOp} (hf : formedB o = true) {m : Nat} {v : Int} (h0 : 0 ≤ v) (h1 : v < 28) (h : (memI v (reads o) || (observesB o && decide (v < 19)) || (m.testBit v.toNat && !(writes o == v))) = true) : (beforeM o m).testBit v.toNat = true := by
  rw [beforeM_bit hf m (by omega), Int.toNat_of_nonneg h0]; exact h
theorem step_same {o : BOp} (hf : formedB o = true) {m : Nat} {vs us : List Int} (hv : VarsOk vs) (hu : VarsOk us) (h : Agree (beforeM o m) vs us) (M : MemP) : StepSame o m vs us M := by
  have ha := formed_a hf
  have hb := formed_b hf
  have hd := formed_d' hf
  have eA : hasA o.code = true → getV us o.a = getV vs o.a := fun hA => by
    have := h o.a.toNat (by omega) (bit_of hf ha.1 ha.2 (by rw [memI_reads_a hA]; rfl))
    rw [Int.toNat_of_nonneg ha.1] at this; exact this.symm
  have eB : hasB o.code = true → getV us o.b = getV vs o.b := fun hB => by
    have := h o.b.toNat (by omega) (bit_of hf hb.1 hb.2 (by rw [memI_reads_b hB]; rfl))
    rw [Int.toNat_of_nonneg hb.1] at this; exact this.symm
  have keep : ∀ v : Nat, v < 28 → m.testBit v = true → writes o ≠ (v : Int) → getV vs (v : Int) = getV us (v : Int) := fun v hv hm hw => by
    refine h v hv ?_
    have := bit_of (v := (v : Int)) hf (m := m) (by omega) (by omega) (by rw [Int.toNat_natCast, hm, show (writes o == (v : Int)) = false by simpa using hw]; simp)
    rwa [Int.toNat_natCast] at this
  have same : writes o < 0 → Agree m vs us := fun hw v hv hm => keep v hv hm (by omega)
  have setA : ∀ x : Int, writes o = o.d → Agree m (vs.set o.d.toNat x) (us.set o.d.toNat x) := fun x hw v hv' hm => by
    by_cases e : (v : Int) = o.d
    · rw [e, getV_set hv hd, getV_set hu hd]
    · rw [getV_set_ne hd.1 (by omega) e, getV_set_ne hd.1 (by omega) e]
      exact keep v hv' hm (fun h => e (by rw [← h, hw]))
  have wD : 1 ≤ o.code → o.code ≤ 17 → writes o = o.d := fun h1 h2 => (formed_d hf (by unfold hasD; rw [decide_eq_true_eq]; exact ⟨h1, h2⟩)).2.2
  have wN : ¬ (1 ≤ o.code ∧ o.code ≤ 17) → writes o < 0 := fun hn => by
    have : hasD o.code = false := by unfold hasD; rw [decide_eq_false_iff_not]; exact hn
    unfold writes; rw [this]; exact (by decide : (-1 : Int) < 0)
  have gs : observesB o = true → guestsL us = guestsL vs := fun ho => by
    refine guests_eq hu.len hv.len fun v hv19 => ?_
    have := h v (by omega) (by
      have := bit_of (v := (v : Int)) hf (m := m) (by omega) (by omega) (by rw [ho]; simp; omega)
      rwa [Int.toNat_natCast] at this)
    exact this.symm
  by_cases c1 : o.code = 1
  · exact ⟨eA, by rw [applyP_const c1, applyP_const c1], by rw [applyP_const c1, applyP_const c1], fun _ => by rw [applyP_const c1, applyP_const c1]; exact setA _ (wD (by omega) (by omega)), gs⟩
  by_cases c2 : o.code = 2
  · have hA : hasA o.code = true := by rw [c2]; rfl
    exact ⟨eA, by rw [applyP_move c2, applyP_move c2], by rw [applyP_move c2, applyP_move c2], fun _ => by rw [applyP_move c2, applyP_move c2, eA hA]; exact setA _ (wD (by omega) (by omega)), gs⟩
  by_cases c3 : isBin o.code = true
  · have h' : 3 ≤ o.code ∧ o.code ≤ 15 := by unfold isBin at c3; simpa using c3
    have hA : hasA o.code = true := by unfold hasA; rw [decide_eq_true_eq]; omega
    have hB : hasB o.code = true := by unfold hasB; rw [decide_eq_true_eq]; omega
    exact ⟨eA, by rw [applyP_bin c3, applyP_bin c3], by rw [applyP_bin c3, applyP_bin c3], fun _ => by rw [applyP_bin c3, applyP_bin c3, eA hA, eB hB]; exact setA _ (wD (by omega) (by omega)), gs⟩
  by_cases c4 : o.code = 16 ∨ o.code = 17
  · have hA : hasA o.code = true := by unfold hasA; rw [decide_eq_true_eq]; omega
    have e : ∀ ws : List Int, applyP o ws M = (match M.bad ((getV ws o.a + o.n) % 4294967296) 1 0 (szN o.code) with
        | none => ⟨ws.set o.d.toNat (M.load ((getV ws o.a + o.n) % 4294967296) 0 (szN o.code)), true, M⟩
        | some _ => ⟨ws, false, M⟩) := fun ws => by
      unfold applyP; rw [if_neg c1, if_neg c2, if_pos c4]
      cases M.bad ((getV ws o.a + o.n) % 4294967296) 1 0 (szN o.code) <;> rfl
    have ho : observesB o = true := by
      have : leaves o.code = true := by unfold leaves; rw [decide_eq_true_eq]; omega
      unfold observesB; rw [this]; rfl
    have e1 := e vs
    have e2 := e us
    rw [eA hA] at e2
    cases hbad : M.bad ((getV vs o.a + o.n) % 4294967296) 1 0 (szN o.code) with
    | none =>
      rw [hbad] at e1 e2
      exact ⟨eA, by rw [e1, e2], by rw [e1, e2], fun _ => by rw [e1, e2]; exact setA _ (wD (by omega) (by omega)), gs⟩
    | some y =>
      rw [hbad] at e1 e2
      exact ⟨eA, by rw [e1, e2], by rw [e1, e2], fun hst => (by rw [e1] at hst; cases hst), gs⟩
  have hw : writes o < 0 := wN (by
    unfold isBin at c3
    rw [decide_eq_true_eq] at c3
    omega)
  have hs := same hw
  by_cases c5 : o.code = 18 ∨ o.code = 19
  · have hA : hasA o.code = true := by unfold hasA; rw [decide_eq_true_eq]; omega
    have hB : hasB o.code = true := by unfold hasB; rw [decide_eq_true_eq]; omega
    have e : ∀ ws : List Int, applyP o ws M = ⟨ws, (M.bad ((getV ws o.a + o.n) % 4294967296) 2 0 (szN o.code)).isNone, M.storeM ((getV ws o.a + o.n) % 4294967296) (szN o.code) (getV ws o.b)⟩ := fun ws => by
      unfold applyP; rw [if_neg c1, if_neg c2, if_neg c4, if_pos c5]
    have e1 := e vs
    have e2 := e us
    rw [eA hA, eB hB] at e2
    exact ⟨eA, by rw [e1, e2], by rw [e1, e2], fun _ => by rw [e1, e2]; exact hs, gs⟩
  by_cases c6 : o.code = 21
  · have hA : hasA o.code = true := by rw [c6]; rfl
    have e1 := applyP_guard c6 vs M
    have e2 := applyP_guard c6 us M
    rw [eA hA] at e2
    exact ⟨eA, by rw [e1, e2], by rw [e1, e2], fun _ => by rw [e1, e2]; exact hs, gs⟩
  have e : ∀ ws : List Int, applyP o ws M = ⟨ws, !decide (o.code = 22), M⟩ := fun ws => by
    unfold applyP
    rw [if_neg c1, if_neg c2, if_neg c4, if_neg c5, if_neg c6]
    by_cases c7 : o.code = 22
    · rw [if_pos c7]; simp [c7]
    · rw [if_neg c7, if_neg c3]; simp [c7]
  have e1 := e vs
  have e2 := e us
  exact ⟨eA, by rw [e1, e2], by rw [e1, e2], fun _ => by rw [e1, e2]; exact hs, gs⟩
theorem leaves_of {o : BOp} (_hf : formedB o = true) {vs : List Int} {M : MemP} (h : ¬ (applyP o vs M).stays = true) : leaves o.code = true := by
  unfold leaves
  rw [decide_eq_true_eq]
  by_cases c1 : o.code = 1
  · rw [applyP_const c1] at h; exact absurd rfl h
  by_cases c2 : o.code = 2
  · rw [applyP_move c2] at h; exact absurd rfl h
  by_cases c3 : isBin o.code = true
  · rw [applyP_bin c3] at h; exact absurd rfl h
  by_cases c4 : 16 ≤ o.code ∧ o.code ≤ 19 ∨ o.code = 21 ∨ o.code = 22
  · exact c4
  exfalso
  refine h ?_
  unfold applyP
  rw [if_neg c1, if_neg c2, if_neg (by omega), if_neg (by omega), if_neg (by omega), if_neg (by omega), if_neg c3]
/-- A block's rest over variables of which those agree that are live: one step. -/
theorem evalL_step {ats : List Int} {o : BOp} {l r : List BOp} {i : Int} {vs us : List Int} {M : MemP} (hf : formedB o = true) (ho : o.ok) {m : Nat} (hv : VarsOk vs) (hu : VarsOk us) (h : Agree (beforeM o m) vs us)
    (ih : ∀ (j : Int) (vs us : List Int) (Q : MemP), VarsOk vs → VarsOk us → Agree m vs us → evalL ats r j us Q = evalL ats l j vs Q) : evalL ats (o :: r) i us M = evalL ats (o :: l) i vs M := by
  have hs := step_same hf hv hu h M
  show (if _ then _ else _) = (if _ then _ else _)
  by_cases c1 : o.code = 24
  · rw [if_pos (.inl c1), if_pos (.inl c1), hs.guests (by unfold observesB; rw [c1]; rfl)]
  by_cases c2 : o.code = 25
  · have hn : ∀ ws : List Int, ¬ (o.code = 24 ∨ (o.code = 23 ∧ getV ws o.a ≠ 0)) := by
      rintro ws (h | ⟨h, _⟩) <;> omega
    rw [if_neg (hn us), if_neg (hn vs), if_pos c2, if_pos c2, hs.guests (by unfold observesB; rw [c2]; rfl), hs.a (by rw [c2]; rfl)]
  by_cases c3 : o.code = 23
  · rw [hs.a (by rw [c3]; rfl)]
    by_cases c4 : getV vs o.a = 0
    · have hn : ¬ (o.code = 24 ∨ (o.code = 23 ∧ getV vs o.a ≠ 0)) := by
        rintro (h | ⟨_, h⟩)
        · exact c1 h
        · exact h c4
      rw [if_neg hn, if_neg hn, if_neg c2, if_neg c2, hs.stays]
      have hst : (applyP o vs M).stays = true := by rw [applyP_none (.inr c3)]
      rw [if_pos hst, if_pos hst, hs.mem]
      exact ih _ _ _ _ (applyP_ok hv ho.n) (applyP_ok hu ho.n) (hs.agree hst)
    · rw [if_pos (.inr ⟨c3, c4⟩), if_pos (.inr ⟨c3, c4⟩), hs.guests (by unfold observesB; rw [c3]; rfl)]
  · have hn : ∀ ws : List Int, ¬ (o.code = 24 ∨ (o.code = 23 ∧ getV ws o.a ≠ 0)) := by
      rintro ws (h | ⟨h, _⟩)
      · exact c1 h
      · exact c3 h
    rw [if_neg (hn us), if_neg (hn vs), if_neg c2, if_neg c2, hs.stays, hs.mem]
    by_cases hst : (applyP o vs M).stays = true
    · rw [if_pos hst, if_pos hst]
      exact ih _ _ _ _ (applyP_ok hv ho.n) (applyP_ok hu ho.n) (hs.agree hst)
    · rw [if_neg hst, if_neg hst]
      have hob : observesB o = true := by
        have : leaves o.code = true := leaves_of hf hst
        unfold observesB; rw [this]; rfl
      rw [hs.guests hob]
theorem unused_eval (ats : List Int) : ∀ (l : List BOp) (i : Int) (vs us : List Int) (M : MemP), (∀ o ∈ l, formedB o = true) → (∀ o ∈ l, o.ok) → VarsOk vs → VarsOk us → Agree ((liveL l).headD 0) vs us → evalL ats l i us M = evalL ats l i vs M
  | [], _, _, _, _, _, _, _, _, _ => rfl
  | o :: l, i, vs, us, M, hf, hok, hv, hu, h =>
    evalL_step (hf o (by simp)) (hok o (by simp)) hv hu h fun j vs us Q h1 h2 h3 => unused_eval ats l j vs us Q (fun p hp => hf p (by simp [hp])) (fun p hp => hok p (by simp [hp])) h1 h2 h3
end Go.Proofs.Ytmjfgnnefcimiaa
namespace Go.Proofs.Ytmjfgnnefcimiaa
open Go.RowKit

/-- A call that hands back a view of something new. -/
theorem call_view {P : Program} {w0 : World} {S : List Ow} {K : AV → List Ow → Prop} {fid : FuncId} {args : List AV} {us : List Value} {n : Nat} {xs : List Value} (hx : avals args = some us) (hok : fnOk P fid = true)
    (h : ∀ r w, Rel w0 Gs.nil S r w → Calls P fid us.toArray w fun e w' => ∃ A c, e = .returned (.slice A n c) ∧ SlAt w' w'.heap.size A xs ∧ n ≤ c ∧ c ≤ maxLen ∧ Fresh w.heap.size A ∧ Below w.heap.size w w')
    (hK : K (.p (.c (.row S.length))) (S ++ [.view viewT n xs])) : CallS P w0 Gs.nil fid args S K := by
  refine ⟨hok, fun r w vs hR hd => ?_⟩
  obtain rfl := avals_den hx hd
  refine (h r w hR).mono fun e w' ⟨A, c, he, hs, k1, k2, hf, hB⟩ => ?_
  refine ⟨.p (.c (.row S.length)), _, _, r.set S.length none (some (.slice A n c)), he, by simp [AV.den, Pc.den, CV.den, Env.set], hR.snoc (o := .view viewT n xs) hB (b := none) nofun (view_holds (w := w) (by simp [Env.set]) (by simp [Env.set]) hs k1 k2 trivial hf (fun k x hk => ?_)), hR.le_new _ _, hK⟩
  simp only [Env.set] at hk
  split at hk
  · cases hk
  · exact (hR.new k x hk).1
theorem slot_row {r : Env} {f : Fr} {a : Act} (hf : FDen r f a) (d : Nat) {i : Nat} {u : Value} (h : f.get d = .p (.c (.row i))) (hb : r.val i = some u) : a.tmps.getD d undef = u := by
  have := hf d
  rw [h] at this
  obtain h := (show r.val i = some (a.tmps.getD d undef) from this)
  rw [hb] at h; injection h with h; exact h.symm
end Go.Proofs.Ytmjfgnnefcimiaa
namespace Go.Proofs.Ytmjfgnnefcimiaa
open Go.RowKit

section
variable {w0 : World} {S : List Ow} {K : AV → List Ow → Prop} {b : Blk} {A1 A2 A3 : Option Addr} {n1 n2 n3 c1 c2 c3 : Nat}
end
theorem cells_later {w w' : World} {g o : Nat} {xs : List Value} (h : CellsAt w Gs.nil g o xs) (hB : Below w.heap.size w w') : CellsAt w' Gs.nil g o xs := ⟨Nat.lt_of_lt_of_le h.1 hB.size, h.2.1, fun j u hj => (hB.cell h.1).trans (h.2.2 j u hj)⟩
end Go.Proofs.Ytmjfgnnefcimiaa
namespace Go.Proofs.Ytmjfgnnefcimiaa
open Go.RowKit

/-- Of the first j variables those that are not in the mask have other values. -/
def mixTo (m : Nat) (xs os : List Int) (j : Nat) : List Int := (List.range xs.length).map fun k => if k < j ∧ m.testBit k = false then os.getD k 0 else xs.getD k 0
theorem mixTo_length (m : Nat) (xs os : List Int) (j : Nat) : (mixTo m xs os j).length = xs.length := by simp [mixTo]
theorem mixTo_get {m : Nat} {xs os : List Int} {j k : Nat} (h : k < xs.length) : (mixTo m xs os j)[k]? = some (if k < j ∧ m.testBit k = false then os.getD k 0 else xs.getD k 0) := by
  unfold mixTo
  rw [List.getElem?_map, List.getElem?_range h]; rfl
theorem mixTo_zero (m : Nat) (xs os : List Int) : mixTo m xs os 0 = xs := by
  refine List.ext_getElem? fun k => ?_
  rcases Nat.lt_or_ge k xs.length with h | h
  · rw [mixTo_get h, if_neg (by omega), List.getD_eq_getElem?_getD, List.getElem?_eq_getElem h]; rfl
  · rw [List.getElem?_eq_none h, List.getElem?_eq_none (by rw [mixTo_length]; exact h)]
theorem mixTo_keep {m : Nat} {xs os : List Int} {j : Nat} (hm : m.testBit j = true) : mixTo m xs os (j + 1) = mixTo m xs os j := by
  unfold mixTo
  refine List.map_congr_left fun k _ => ?_
  by_cases hk : k = j
  · subst hk; rw [hm, if_neg (by simp), if_neg (by simp)]
  · by_cases h1 : k < j ∧ m.testBit k = false
    · rw [if_pos h1, if_pos ⟨by omega, h1.2⟩]
    · rw [if_neg h1, if_neg (fun h => h1 ⟨by omega, h.2⟩)]
theorem mixTo_set {m : Nat} {xs os : List Int} {j : Nat} (hm : m.testBit j = false) (hj : j < xs.length) : (mixTo m xs os j).set j (os.getD j 0) = mixTo m xs os (j + 1) := by
  refine List.ext_getElem? fun k => ?_
  rcases Nat.lt_or_ge k xs.length with h | h
  · rw [mixTo_get h]
    by_cases hk : k = j
    · subst hk
      rw [List.getElem?_set_self (by rw [mixTo_length]; exact h), if_pos ⟨by omega, hm⟩]
    · rw [List.getElem?_set_ne (fun e => hk e.symm), mixTo_get h]
      by_cases h1 : k < j ∧ m.testBit k = false
      · rw [if_pos h1, if_pos ⟨by omega, h1.2⟩]
      · rw [if_neg h1, if_neg (fun h => h1 ⟨by omega, h.2⟩)]
  · rw [List.getElem?_eq_none (by rw [List.length_set, mixTo_length]; exact h), List.getElem?_eq_none (by rw [mixTo_length]; exact h)]
theorem mixTo_word {m : Nat} {xs os : List Int} {j : Nat} (h1 : ∀ z ∈ xs, word z) (h2 : ∀ z ∈ os, word z) : ∀ z ∈ mixTo m xs os j, word z := by
  have get : ∀ (l : List Int) (k : Nat), (∀ z ∈ l, word z) → word (l.getD k 0) := fun l k h => by
    rw [List.getD_eq_getElem?_getD]
    cases hk : l[k]? with
    | none => exact word0
    | some z => exact h z (List.mem_of_getElem? hk)
  intro z hz
  obtain ⟨k, _, rfl⟩ := List.mem_map.1 hz
  split
  · exact get os k h2
  · exact get xs k h1
/-- A setup with other variables. -/
def SetP.mix (x : SetP) (m : Nat) (os : List Int) (j : Nat) : SetP := { x with vars := mixTo m x.vars os j }
theorem mix_ok {x : SetP} (h : x.ok) (m : Nat) {os : List Int} (ho : ∀ z ∈ os, word z) (j : Nat) : (x.mix m os j).ok := ⟨h.fill, by show (mixTo _ _ _ _).length = 19; rw [mixTo_length]; exact h.len, mixTo_word h.word ho⟩
theorem mix_mem (x : SetP) (m : Nat) (os : List Int) (j : Nat) : setupM (x.mix m os j) = setupM x := rfl
theorem mix_agree {x : SetP} (h : x.ok) (m : Nat) (os : List Int) (j : Nat) : Agree m (x.mix m os j).all x.all := by
  intro v hv hm
  unfold SetP.all getV
  rw [Int.toNat_natCast]
  show ((mixTo m x.vars os j ++ List.replicate 9 0)[v]?).getD 0 = _
  rcases Nat.lt_or_ge v 19 with h1 | h1
  · rw [List.getElem?_append_left (by rw [mixTo_length, h.len]; exact h1), List.getElem?_append_left (by rw [h.len]; exact h1), mixTo_get (by rw [h.len]; exact h1), if_neg (by rw [hm]; simp), List.getD_eq_getElem?_getD]
    rfl
  · rw [List.getElem?_append_right (by rw [mixTo_length, h.len]; exact h1), List.getElem?_append_right (by rw [h.len]; exact h1), mixTo_length]
theorem unused_same {b : Blk} (hb : b.ok) (hv : validB b = true) {x : SetP} (hx : x.ok) {os : List Int} (ho : ∀ z ∈ os, word z) (j : Nat) (M : MemP) : evalBlk b (x.mix ((liveL b.ops).headD 0) os j).all M = evalBlk b x.all M := by
  unfold evalBlk
  rw [if_pos hv, if_pos hv]
  exact (unused_eval b.at_ b.ops 0 _ _ M (valid_formed hv) hb.ops (all_ok (mix_ok hx _ ho j)) (all_ok hx) (mix_agree hx _ os j)).symm
end Go.Proofs.Ytmjfgnnefcimiaa
namespace Go.Proofs.Ytmjfgnnefcimiaa
open Go.RowKit

/-- The address of an element of an array in plain memory. -/
theorem q_index_arr {P : Program} {w0 : World} {G : Gs} {S : List Ow} {f : Fr} {o : Oper} {K : AV → Prop} {t e : TypeId} {x ix : Operand} {q : IntKind} {inf : TypeInfo} (b off n k : Nat) (hop : o.op = .indexAddr t x ix) (ht : P.underlying t = some (.array n e)) (hi : P.info? e = some inf) (hsz : inf.size = 1) (hx : f.ev x = one (.pointer (some ⟨b, off, none⟩))) (hix : f.ev ix = one (.int q (k : Int))) (hk : k < n) (hK : K (one (.pointer (some ⟨b, off + k * 1, none⟩)))) : QRun P w0 G S f o K := by
  refine ⟨_, hK, fun r a hf => ?_⟩
  have h1 := hf.ev x
  have h2 := hf.ev ix
  rw [hx] at h1; rw [hix] at h2
  refine ⟨_, den_one _ _, fun w hR => ?_⟩
  have hrun := run_indexAt_array (P := P) (b := b) (off := off) (q := q) (k := (k : Int)) ht hi (by omega) (by omega) w
  rw [Int.toNat_natCast, hsz] at hrun
  simp only [execOp, hop, den_v h1, den_v h2, Sem.run_bind, hrun, Result.andThen_ok, Sem.run_pure]
theorem setC_put (x : SetP) (j : Nat) (v : Int) : setAll ((setL x).map CV.v) (0 + 4 + j * 1) [.v (.int .u32 v)] = (setL { x with vars := x.vars.set j v }).map CV.v := by
  have e : 0 + 4 + j * 1 = j + 1 + 1 + 1 + 1 := by omega
  rw [set_vals, e]
  simp [setL, u32L, List.map_set]
theorem onesL_set (S : List Ow) (x : SetP) : onesL S ((setL x).map CV.v) = true := onesL_u32 S x.vars
theorem liveL_lt : ∀ (l : List BOp), (∀ o ∈ l, formedB o = true) → (liveL l).headD 0 < 4294967296
  | [], _ => by show 0 < 4294967296; omega
  | o :: l, h => by
    show beforeM o ((liveL l).headD 0) < 4294967296
    exact beforeM_lt (liveL_lt l fun p hp => h p (by simp [hp])) (h o (by simp))
theorem setC_length {x : SetP} (h : x.ok) : ((setL x).map CV.v).length = 23 := by simp [h.len]
theorem setC_ble {x : SetP} (h : x.ok) {j : Nat} (hj : j < 19) (c : CV) : Nat.ble (0 + 4 + j * 1 + [c].length) ((setL x).map CV.v).length = true := Nat.ble_eq_true_of_le (by rw [setC_length h]; show 0 + 4 + j * 1 + 1 ≤ 23; omega)
theorem setC_ble8 {x : SetP} (h : x.ok) : Nat.ble ((setL x).map CV.v).length 8 = false := by rw [setC_length h]; rfl
set_option maxRecDepth 100000 in
set_option maxHeartbeats 1000000 in
theorem unused_law (A : Option Addr) (n c : Nat) (xs : List Int) (x : SetP) (os : List Int) (w : World) (hs : SlAt w w.heap.size A (xs.map (.int .i64))) (hl : xs.length = n) (hnc : n ≤ c) (hx : x.ok) (hol : os.length = 19) (how : ∀ z ∈ os, word z) :
    Calls Try.prog 12 #[.slice A n c, setV x, .agg (u32L os).toArray] w fun e w' => e = .returned (.bool true) ∧ Below w.heap.size w w' := by
  refine calls_satq [.slice A n c, setV x, .agg (u32L os).toArray] Try.func12 Try.ntmps12 rfl (by simp) ?_
  refine satq_seq ?_
  conv => whnf
  refine satq_seq ?_
  conv => whnf
  refine call_con rfl (by kernel_rfl) (fun r w' hR => sanity_law w') ?_
  conv => whnf
  refine satq_cut (α := { b : Blk // MadeOk b }) (fun b => [(4, .p (.c (.ref 3 0))), (5, .p (.c (.ref 4 0))), (7, one (.bool true)), (8, .p (.c (.ref 5 0)))]) (fun b => blkRows b.1 ++ [.cells 27 ((setL x).map .v), .cells 25 ((u32L os).map .v), .cells 32 [.row 0, .row 1, .row 2]]) ?_ fun b => ?_
  · conv => whnf
    refine call_blk MadeOk (by kernel_rfl) (fun r w' us hR hd => ?_) fun b hb => ?_
    · obtain rfl := avals_den (xs := [.slice A n c]) rfl hd
      exact made_walk A n c xs w' (sl_later hs hR.toBelow) hl hnc
    conv => whnf
    exact ⟨⟨b, hb⟩, ent_ren [2, 3, 4, 0, 1, 5] (aI rfl (aI rfl (aI rfl (aI rfl trivial)))) (aI ((Exists.intro _ (aI rfl (aI rfl (aI rfl (aI rfl rfl)))))) (aI ((Exists.intro _ (aI rfl (aI rfl (aI rfl (aI rfl rfl)))))) (aI ((Exists.intro _ (aI rfl (aI rfl (aI rfl (aI rfl rfl)))))) (aI ((Exists.intro _ (aI rfl (aI rfl (Or.inl (renL_vals _ _).symm))))) (aI ((Exists.intro _ (aI rfl (aI rfl (Or.inl (renL_vals _ _).symm))))) (aI ((Exists.intro _ (aI rfl (aI rfl (Or.inl rfl))))) trivial)))))) rfl (by simp only [blkRows, List.cons_append, List.nil_append, sbnd, Ow.bnd, bndL_vals, bndL, CV.bnd]; rfl) rfl rfl rfl⟩
  obtain ⟨b, hb⟩ := b
  dsimp only
  refine satq_restart fun r w2 hR => ?_
  obtain ⟨g8, A1, c1, A2, c2, A3, c3, b8, k8, s1, s2, s3, m1, m2⟩ := own_blkRows hR 5 0 1 2 b rfl rfl rfl rfl
  obtain ⟨g4, us4, e4, f4, k4⟩ := own_cellsAt hR 3 rfl
  obtain rfl := denL_vals_inv (us := setL x) f4
  obtain ⟨g5, us5, e5, f5, k5⟩ := own_cellsAt hR 4 rfl
  obtain rfl := denL_vals_inv (us := u32L os) f5
  have hB1 : Below w.heap.size w w2 := hR.toBelow
  refine ⟨slotFr [(4, .pointer (some ⟨g4, 0, none⟩)), (5, .pointer (some ⟨g5, 0, none⟩)), (7, .bool true), (8, .pointer (some ⟨g8, 0, none⟩))], fun a hf => slots_den ⟨slot_ref hf 4 rfl e4, slot_ref hf 5 rfl e5, slot_val hf rfl, slot_ref hf 8 rfl b8, trivial⟩, ?_⟩
  clear hR b8 e4 e5 f4 f5
  have hv := hb.valid
  have hL : liveAll b = liveL b.ops := by unfold liveAll; rw [if_pos hv]
  have hLl : (liveL b.ops).length = b.ops.length := liveL_length _
  refine satq_seq ?_
  conv => whnf
  refine ⟨_, k8, rfl, ?_⟩
  conv => whnf
  refine call_view (n := (liveAll b).length) (xs := (liveAll b).map natV) rfl (by kernel_rfl) (fun r w' hR => live_opt b A1 A2 A3 c1 c2 c3 w' hb.ok (sl_later s2 hR.toBelow) (sl_later s3 hR.toBelow)) ?_
  rw [hL, hLl]
  conv => whnf
  refine satq_restart fun r w3 hR => ?_
  have hB2 : Below w.heap.size w w3 := hB1.trans (hR.toBelow.mono hB1.size)
  obtain ⟨u9, v9⟩ : ∃ u, r.val 0 = some u := by
    obtain ⟨A, c, h, _⟩ := hR.own 0 _ rfl
    exact ⟨_, h⟩
  obtain ⟨A9, c9, rfl, s9, _, _, _, _⟩ := viewAt hR rfl v9
  have k4' := cells_later k4 hR.toBelow
  have k5' := cells_later k5 hR.toBelow
  have k8' := cells_later k8 hR.toBelow
  have hBk : BlkAt w3 b A1 A2 A3 := BlkAt.later ⟨s1, s2, s3⟩ hR.toBelow
  refine ⟨slotFr [(4, .pointer (some ⟨g4, 0, none⟩)), (5, .pointer (some ⟨g5, 0, none⟩)), (7, .bool true), (8, .pointer (some ⟨g8, 0, none⟩)), (9, .slice A9 b.ops.length c9)], fun a hf => slots_den ⟨slot_val hf rfl, slot_val hf rfl, slot_val hf rfl, slot_val hf rfl, slot_row hf 9 rfl v9, trivial⟩, ?_⟩
  clear hR v9 k4 k5 k8 s1 s2 s3
  obtain ⟨hp1, hp2⟩ : 0 < b.ops.length ∧ b.ops.length ≤ 2000 := by
    have := (valid_parts.1 hv).1
    unfold headerB at this
    simp only [Bool.and_eq_true, decide_eq_true_eq] at this
    omega
  obtain ⟨m0, hm0⟩ : ∃ m, (liveL b.ops)[0]? = some m := ⟨_, List.getElem?_eq_getElem (by omega)⟩
  have hhead : (liveL b.ops).headD 0 = m0 := by
    cases hq : liveL b.ops with
    | nil => rw [hq] at hm0; simp at hm0
    | cons a l => rw [hq] at hm0; simp at hm0; simp [hm0]
  have hm32 : m0 < 4294967296 := by rw [← hhead]; exact liveL_lt _ (valid_formed hv)
  obtain ⟨b9, o9, rfl, z9, y9⟩ := s9 0 (natV m0) (by rw [List.getElem?_map, hm0]; rfl)
  have hcell9 : CellsAt w3 Gs.nil b9 (o9 + (0 : Int).toNat * 1) [natV m0] := cells_one z9 (by simp) y9
  have p83 : CellsAt w3 Gs.nil g8 2 [.slice A3 b.ops.length c3] := cells_one k8'.1 k8'.2.1 (k8'.2.2 2 _ rfl)
  refine satq_seq ?_
  conv => whnf
  refine ⟨_, p83, ?_⟩
  conv => whnf
  refine ⟨fun h => absurd h (by simp), fun _ => ?_⟩
  conv => whnf
  refine satq_seq ?_
  conv => whnf
  refine ⟨setL x, k4', setL_length hx, ?_⟩
  conv => whnf
  erw [beq_len (setC_length hx), onesL_set]
  conv => whnf
  erw [ble_of (m := List.map CV.v (setL ⟨0, 0, 0, 0, List.replicate 19 0⟩)) (setC_length hx)]
  conv => whnf
  have hput : ∀ Z : List CV, Z.length = 23 → setAll Z 0 ((setL x).map CV.v) = (setL x).map CV.v := fun Z hZ => setAll_same (by rw [hZ, setC_length hx])
  erw [hput _ rfl]
  conv => whnf
  have hmx : ∀ j, (x.mix m0 os j).ok := fun j => mix_ok hx m0 how j
  have hm00 : x.mix m0 os 0 = x := by unfold SetP.mix; rw [mixTo_zero]
  refine satq_cut (α := Unit) (fun _ => [(4, one (.pointer (some ⟨g4, 0, none⟩))), (7, one (.bool true)), (8, one (.pointer (some ⟨g8, 0, none⟩))), (10, .p (.c (.ref 0 0)))]) (fun _ => [.cells 27 ((setL (x.mix m0 os 19)).map .v)]) ?_ fun _ => ?_
  · conv => whnf
    refine ⟨{ j : Nat // j ≤ 19 }, fun y => [(4, one (.pointer (some ⟨g4, 0, none⟩))), (5, one (.pointer (some ⟨g5, 0, none⟩))), (7, one (.bool true)), (8, one (.pointer (some ⟨g8, 0, none⟩))), (9, one (.slice (some ⟨b9, o9, none⟩) b.ops.length c9)), (10, .p (.c (.ref 0 0))), (11, one (.int .i64 (y.1 : Int)))], fun y => [.cells 27 ((setL (x.mix m0 os y.1)).map .v)], fun y => 19 - y.1,
      ⟨⟨0, by omega⟩, ent_same rfl (aI rfl (aI rfl (aI rfl (aI rfl (aI rfl (aI rfl (aI rfl trivial))))))) (aI ((aI rfl (Or.inl (by rw [hm00])))) trivial)⟩, fun y => ?_⟩
    obtain ⟨j, hj⟩ := y
    dsimp only
    conv => whnf
    refine ⟨fun hc => ?_, fun hc => ?_⟩
    · have hlt : j < 19 := by simp at hc; omega
      conv => whnf
      refine ⟨⟨by omega, by omega⟩, ?_⟩
      conv => whnf
      refine ⟨_, hcell9, ?_⟩
      conv => whnf
      refine ⟨by omega, (m0 : Int) / 2 ^ j, ?_, ?_⟩
      · rw [show min (j : Int).toNat IntKind.u32.bits = j by rw [Int.toNat_natCast]; exact Nat.min_eq_left (by show j ≤ 32; omega)]
        exact Int.fdiv_eq_ediv_of_nonneg _ (by exact Int.le_of_lt (Int.pow_pos (by decide)))
      conv => whnf
      refine ⟨_, rfl, ?_⟩
      conv => whnf
      rw [bit_test m0 j hm32]
      refine ⟨fun ht => ?_, fun ht => ?_⟩
      · have hbit : m0.testBit j = false := by simpa using ht
        conv => whnf
        refine q_index_arr g5 0 19 j rfl rfl rfl rfl rfl rfl hlt ?_
        conv => whnf
        have hcell5 : CellsAt w3 Gs.nil g5 (0 + j * 1) [.int .u32 (os.getD j 0)] := cells_one k5'.1 k5'.2.1 (by
          have := k5'.2.2 j (.int .u32 (os.getD j 0)) (by rw [List.getElem?_map, List.getD_eq_getElem?_getD, List.getElem?_eq_getElem (by omega)]; rfl)
          rw [Nat.mul_one]
          exact this)
        refine ⟨_, hcell5, ?_⟩
        conv => whnf
        refine ⟨⟨by omega, by omega⟩, ?_⟩
        conv => whnf
        erw [setC_ble (hmx j) hlt]
        conv => whnf
        erw [setC_ble8 (hmx j)]
        conv => whnf
        have hset : setAll ((setL (x.mix m0 os j)).map CV.v) (0 + 4 + j * 1) [.v (.int .u32 (os.getD j 0))] = (setL (x.mix m0 os (j + 1))).map CV.v := by
          rw [setC_put]
          unfold SetP.mix
          rw [← mixTo_set hbit (by rw [hx.len]; exact hlt)]
        refine ⟨_, wr64 (by omega), ?_⟩
        conv => whnf
        exact ⟨⟨j + 1, by omega⟩, ent_same rfl (aI rfl (aI rfl (aI rfl (aI rfl (aI rfl (aI rfl (aI rfl trivial))))))) (aI ((aI rfl (Or.inl hset))) trivial), by show 19 - (j + 1) < 19 - j; omega⟩
      · have hbit : m0.testBit j = true := by simpa using ht
        conv => whnf
        have hkeep : (setL (x.mix m0 os j)).map CV.v = (setL (x.mix m0 os (j + 1))).map CV.v := by unfold SetP.mix; rw [mixTo_keep hbit]
        refine ⟨_, wr64 (by omega), ?_⟩
        conv => whnf
        exact ⟨⟨j + 1, by omega⟩, ent_same rfl (aI rfl (aI rfl (aI rfl (aI rfl (aI rfl (aI rfl (aI rfl trivial))))))) (aI ((aI rfl (Or.inl hkeep))) trivial), by show 19 - (j + 1) < 19 - j; omega⟩
    · have hje : j = 19 := by simp at hc; omega
      subst hje
      conv => whnf
      refine ⟨_, _, ent_refl, ?_⟩
      conv => whnf
      exact ⟨(), ent_same rfl (aI rfl (aI rfl (aI rfl (aI rfl trivial)))) (aI ((aI rfl (Or.inl rfl))) trivial)⟩
  refine satq_restart fun r w4 hR => ?_
  obtain ⟨g10, us10, e10, f10, k10⟩ := own_cellsAt hR 0 rfl
  obtain rfl := denL_vals_inv (us := setL (x.mix m0 os 19)) f10
  have hB3 : Below w.heap.size w w4 := hB2.trans (hR.toBelow.mono hB2.size)
  have q4 := cells_later k4' hR.toBelow
  have q8 := cells_later k8' hR.toBelow
  have hBk2 := hBk.later hR.toBelow
  refine ⟨slotFr [(4, .pointer (some ⟨g4, 0, none⟩)), (7, .bool true), (8, .pointer (some ⟨g8, 0, none⟩)), (10, .pointer (some ⟨g10, 0, none⟩))], fun a hf => slots_den ⟨slot_val hf rfl, slot_val hf rfl, slot_val hf rfl, slot_ref hf 10 rfl e10, trivial⟩, ?_⟩
  clear hR e10 f10
  have hsame := unused_same hb.ok hv hx how 19 (setupM x)
  rw [hhead] at hsame
  have hy := hmx 19
  have hmy : setupM (x.mix m0 os 19) = setupM x := mix_mem x m0 os 19
  obtain ⟨ho1, ho2⟩ := evalBlk_ok hb.ok (all_ok hx) (setupM_ok (x := x))
  generalize x.mix m0 os 19 = y at k10 hsame hy hmy
  refine satq_mid (α := Unit) (fun _ => [(4, one (.pointer (some ⟨g4, 0, none⟩))), (7, one (.bool true)), (8, one (.pointer (some ⟨g8, 0, none⟩))), (10, one (.pointer (some ⟨g10, 0, none⟩))), (12, .p (.c (.ref 0 0))), (13, .p (.c (.ref 6 0)))]) (fun _ => memS 0 768 3 (setupM x) ++ memS 6 768 3 (setupM x)) ?_ fun _ => ?_
  · refine satq_vc ?_
    refine sat_anyG (.q 0 (.q 2 (.alt 1 (.alt 3 (.q 4 (.q 5 .done)) .no) .no))) mixed (by kernel_rfl) (by kernel_rfl) ?_
    conv => whnf
    refine ⟨setL x, q4, setL_length hx, ?_⟩
    conv => whnf
    refine ⟨setL y, k10, setL_length hy, ?_⟩
    conv => whnf
    refine ⟨?_, trivial⟩
    conv => whnf
    refine call_newObjs (xs := [setV x]) (memS 0 768 3 (setupM x)) (memS 0 768 3 (setupM x)) (avals_set x) (by kernel_rfl) (memS_sh 0 768 3 _) (memS_ob 768 3 _) (fun r w' hR => setup_mem x w' hx) ?_
    conv => whnf
    refine ⟨?_, trivial⟩
    conv => whnf
    refine call_newObjs (xs := [setV y]) (memS 0 768 3 (setupM x)) (memS 6 768 3 (setupM x)) (avals_set y) (by kernel_rfl) (memS_sh 6 768 3 _) (memS_ob 768 3 _) (fun r w' hR => by rw [← hmy]; exact setup_mem y w' hy) ?_
    conv => whnf
    exact atq_mid () (ent_same rfl (aI rfl (aI rfl (aI rfl (aI rfl (aI rfl (aI rfl trivial)))))) (aI ((aI rfl (Or.inl rfl))) (aI ((aI rfl (Or.inl rfl))) (aI ((aI rfl (Or.inl rfl))) (aI ((aI rfl (Or.inl rfl))) (aI ((aI rfl (Or.inl rfl))) (aI ((aI rfl (Or.inl rfl))) (aI ((aI rfl (Or.inl rfl))) (aI ((aI rfl (Or.inl rfl))) (aI ((aI rfl (Or.inl rfl))) (aI ((aI rfl (Or.inl rfl))) (aI ((aI rfl (Or.inl rfl))) (aI ((aI rfl (Or.inl rfl))) trivial)))))))))))))
  refine satq_vc ?_
  refine sat_anyG (.q 0 (.q 1 (.q 2 (.q 3 (.q 5 (.q 7 (.q 8 (.q 10 (.alt 4 (.alt 6 (.alt 9 (.alt 11 (.alt 12 (.q 13 (.q 14 (.q 15 (.q 16 (.alt 17 (.q 18 (.q 19 .done)) .no))))) .no) .no) .no) .no) .no))))))))) mixed (by kernel_rfl) (by kernel_rfl) ?_
  conv => whnf
  refine ⟨_, q8, rfl, ?_⟩
  conv => whnf
  refine ⟨setL x, q4, setL_length hx, ?_⟩
  conv => whnf
  refine ⟨_, q8, rfl, ?_⟩
  conv => whnf
  refine ⟨setL y, k10, setL_length hy, ?_⟩
  conv => whnf
  refine ⟨?_, trivial⟩
  conv => whnf
  refine call_con (xs := [setV x]) (x := varsV x.all) (avals_set x) (by kernel_rfl) (fun r w' hR => vars_walk x w' hx) ?_
  conv => whnf
  refine ⟨?_, trivial⟩
  conv => whnf
  refine call_memW (pre := [.p (.agg [.v (.slice A1 b.at_.length c1), .v (.slice A2 b.pages.length c2), .v (.slice A3 b.ops.length c3)]), .p (.agg (varsC x.all))]) (suf := []) 0 768 3 (setupM x) (evalBlk b x.all (setupM x)).mem (outV (evalBlk b x.all (setupM x)).out) (fun i hi => ?_) (avals_blk_vars _ _ _ _) rfl (by kernel_rfl) (fun w' g gs hk hU => eval_walk b x.all 768 3 (setupM x) A1 A2 A3 c1 c2 c3 w' g gs hU setupM_ok hb.ok hv (all_ok hx) (slAt_keeps hk hBk2.at_) (slAt_keeps hk hBk2.pages) (slAt_keeps hk hBk2.ops)) ?_
  · exact mem2_get 0 768 3 _ _ i hi
  conv => whnf
  refine ⟨?_, trivial⟩
  conv => whnf
  refine call_con (xs := [setV y]) (x := varsV y.all) (avals_set y) (by kernel_rfl) (fun r w' hR => vars_walk y w' hy) ?_
  conv => whnf
  refine ⟨?_, trivial⟩
  conv => whnf
  refine call_memW (pre := [.p (.agg [.v (.slice A1 b.at_.length c1), .v (.slice A2 b.pages.length c2), .v (.slice A3 b.ops.length c3)]), .p (.agg (varsC y.all))]) (suf := []) 6 768 3 (setupM x) (evalBlk b y.all (setupM x)).mem (outV (evalBlk b y.all (setupM x)).out) (fun i hi => ?_) (avals_blk_vars _ _ _ _) rfl (by kernel_rfl) (fun w' g gs hk hU => eval_walk b y.all 768 3 (setupM x) A1 A2 A3 c1 c2 c3 w' g gs hU setupM_ok hb.ok hv (all_ok hy) (slAt_keeps hk hBk2.at_) (slAt_keeps hk hBk2.pages) (slAt_keeps hk hBk2.ops)) ?_
  · have : i = 0 ∨ i = 1 ∨ i = 2 ∨ i = 3 ∨ i = 4 ∨ i = 5 := by omega
    rcases this with rfl | rfl | rfl | rfl | rfl | rfl <;> rfl
  rw [hsame]
  conv => whnf
  refine ⟨?_, trivial⟩
  conv => whnf
  refine q_eql_out (evalBlk b x.all (setupM x)).out ho1 rfl rfl rfl ?_
  conv => whnf
  refine ⟨?_, trivial⟩
  conv => whnf
  refine call_mem2 0 6 768 3 (evalBlk b x.all (setupM x)).mem ho2 (fun i hi => ?_) (fun i hi => ?_) ?_
  · have : i = 0 ∨ i = 1 ∨ i = 2 ∨ i = 3 ∨ i = 4 ∨ i = 5 := by omega
    rcases this with rfl | rfl | rfl | rfl | rfl | rfl <;> rfl
  · have : i = 0 ∨ i = 1 ∨ i = 2 ∨ i = 3 ∨ i = 4 ∨ i = 5 := by omega
    rcases this with rfl | rfl | rfl | rfl | rfl | rfl <;> rfl
  conv => whnf
  refine atq_ret ?_
  conv => whnf
  exact fin_val rfl fun w' hB => ⟨rfl, hB3.trans (hB.mono hB3.size)⟩
end Go.Proofs.Ytmjfgnnefcimiaa
namespace Go.Proofs.Ytmjfgnnefcimiaa
open Go.ChangeShapes Go.WideShapes Go.ChangeAt Go.RowKit

set_option maxRecDepth 100000 in
theorem optUnused_lifted (os : Os) (started : os.Started) (H : Type) (enc : TypeId × Value → H) :
    ReturnsInHanded {} Try.checked os 12 .any (Rows.optUnusedSpec.pre6 enc Try.prog Try.f12 Rows.optUnusedRow.domain false) (Rows.optUnusedSpec.post enc Try.prog Try.f12 false true false false) := by
  refine returnsInHanded_of_change (C := Try.checked) ownK started (by kernel_rfl) Try.func12
    (ChangeSpec.witness6 (enc := enc) (C := Try.checked) false ⟨#[], #[.slice none 0 0, setV ⟨0, 0, 0, 0, List.replicate 19 0⟩, .agg (u32L (List.replicate 19 0)).toArray], []⟩ 8 (by kernel_rfl) (by kernel_rfl) (by kernel_rfl) (by kernel_rfl)) ?_
  intro W base args ds gs before hval0 hW hcnd _
  have hval : ∀ (j : Nat) t v, Try.f12.params[j]? = some t → args[j]? = some v → Value.okWide Try.prog W .any base t v := hval0
  have hW' := hW
  obtain ⟨p, q, hA0, hV, rfl, hfz, hnd⟩ := hW
  have hA : DataW.TrodAll enc Try.prog W 0 (fun _ => true) true Try.f12.params.toList args.toList ds p := hA0
  rw [Try.params12] at hA hval
  obtain ⟨v0, vs0, d0, ds0, p0, q0, hargs, rfl, rfl, h0, r0⟩ := trodAll_cons hA
  obtain ⟨v1, vs1, d1, ds1, p1, q1, rfl, rfl, rfl, h1, r1⟩ := trodAll_cons r0
  obtain ⟨v2, vs2, d2, ds2, p2, q2, rfl, rfl, rfl, h2, r2⟩ := trodAll_cons r1
  obtain ⟨rfl, rfl, rfl⟩ := trodAll_nil r2
  obtain rfl : args = #[v0, v1, v2] := by cases args; simp_all
  obtain ⟨rfl, rfl⟩ := trodVars_none hV
  obtain ⟨a0, len0, cap0, rfl⟩ := okWide_slice Try.underlying22 (hval 0 22 v0 rfl rfl)
  have k0 := h0
  have k1 := h1
  have k2 := h2
  have lt0 : ∀ x ∈ p0, x.block < W.heap.size := by obtain ⟨m, hm⟩ := k0; exact DataW.trod_lt m _ _ _ hm
  have lt1 : ∀ x ∈ p1, x.block < W.heap.size := by obtain ⟨m, hm⟩ := k1; exact DataW.trod_lt m _ _ _ hm
  have lt2 : ∀ x ∈ p2, x.block < W.heap.size := by obtain ⟨m, hm⟩ := k2; exact DataW.trod_lt m _ _ _ hm
  obtain ⟨xs, w0, hl, hnc⟩ := open_sl h0
  obtain ⟨x, rfl, hx⟩ := open_x (hval 1 27 v1 rfl rfl) h1
  obtain ⟨os', rfl, hol, how⟩ := open_w19 (hval 2 25 v2 rfl rfl) h2
  clear hA0 hval0
  refine (unused_law a0 len0 cap0 xs x os' W w0 hl hnc hx hol how).mono fun e W' ⟨he, bel⟩ => ?_
  subst he
  exact ⟨_, rfl, _, _, _, [], _, [], hW', trodAll_mk1 (shut_bool Try.underlying4 _), (trodAll_cons_mk (Below.trod laidOutP (by kernel_rfl) (of_decide_eq_true (by kernel_rfl)) k0 bel lt0) (trodAll_cons_mk (Below.trod laidOutP (by kernel_rfl) (of_decide_eq_true (by kernel_rfl)) k1 bel lt1) (trodAll_cons_mk (Below.trod laidOutP (by kernel_rfl) (of_decide_eq_true (by kernel_rfl)) k2 bel lt2) trodAll_mk0))), rfl, bel.frame _, fun h => by cases h⟩
theorem optUnused_holds : Rows.OptUnusedSaid :=
  OpenClaim.holds_of_wide 12 Try.f12 rfl rfl rfl rfl rfl rfl rfl ⟨rfl, rfl, rfl, rfl, rfl⟩ rfl rfl rfl rfl rfl (by kernel_rfl) Try.func12 (by kernel_rfl)
    (of_decide_eq_true (by kernel_rfl)) (by unfold Func.isWrapper; first | (rw [if_pos (by decide +kernel)]; kernel_rfl) | (rw [if_neg (by decide +kernel)]; exact ⟨rfl, rfl⟩))
    (fun os started H enc _ => optUnused_lifted os started H enc)
end Go.Proofs.Ytmjfgnnefcimiaa
#print axioms Go.Proofs.Ytmjfgnnefcimiaa.optUnused_holds
