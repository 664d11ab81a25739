/- Walks: calls that the laws have in common. Plain: the evaluation does not depend on variables that are not live; Dead keeps it. Plain: where an evaluation stands; the result of Opt is equivalent. Plain: what an evaluation gives is well-formed; the result of Opt is equivalent. -/
import Derived.Test.YtmjfgnnefcimiaaK1
import Derived.Test.YtmjfgnnefcimiaaK10
import Derived.Test.YtmjfgnnefcimiaaK11
import Derived.Test.YtmjfgnnefcimiaaK12
import Derived.Test.YtmjfgnnefcimiaaK14
import Derived.Test.YtmjfgnnefcimiaaK15
import Derived.Test.YtmjfgnnefcimiaaK16
import Derived.Test.YtmjfgnnefcimiaaK17
import Derived.Test.YtmjfgnnefcimiaaK18
import Derived.Test.YtmjfgnnefcimiaaK19
import Derived.Test.YtmjfgnnefcimiaaK20
import Derived.Test.YtmjfgnnefcimiaaK21
import Derived.Test.YtmjfgnnefcimiaaK23
import Derived.Test.YtmjfgnnefcimiaaK24
import Derived.Test.YtmjfgnnefcimiaaK25
import Derived.Test.YtmjfgnnefcimiaaK26
import Derived.Test.YtmjfgnnefcimiaaK27
import Derived.Test.YtmjfgnnefcimiaaK28
import Derived.Test.YtmjfgnnefcimiaaK3
import Derived.Test.YtmjfgnnefcimiaaK4
import Derived.Test.YtmjfgnnefcimiaaK5
namespace Go.Proofs.Ytmjfgnnefcimiaa
open Go.RowKit

theorem call_turned {w0 : World} {S : List Ow} {K : AV → List Ow → Prop} (i j k : Nat) (b : Blk) (q0 q1 q2 : Int) (hi : S[i]? = some (.row 24 1 b.at_.length (b.at_.map (.int .u32)))) (hj : S[j]? = some (.row 3 1 b.pages.length (b.pages.map (.int .i64)))) (hk : S[k]? = some (.row 53 5 b.ops.length (b.ops.flatMap opC))) (hb : MadeOk b)
    (hK : ∀ b', TurnOk b' → K (.p (.agg [.row S.length, .row (S.length + 1), .row (S.length + 2)])) (S ++ blkRows b')) : CallS Try.prog w0 Gs.nil 21 [.p (.agg [.row i, .row j, .row k]), .p (.agg [.v (.int .i64 q0), .v (.int .i64 q1), .v (.int .i64 q2)])] S K := by
  refine call_blk TurnOk (by kernel_rfl) (fun r w us hR hd => ?_) hK
  obtain ⟨u1, l1, rfl, d1, u2, l2, rfl, d2, d3⟩ := hd
  obtain rfl : l2 = [] := d3
  obtain rfl := AV.val_den (x := .agg #[.int .i64 q0, .int .i64 q1, .int .i64 q2]) rfl d2
  obtain ⟨vs, rfl, hl⟩ := den_agg d1
  simp only [denL, CV.den] at hl
  obtain ⟨u1, l1, rfl, e1, u2, l2, rfl, e2, u3, l3, rfl, e3, rfl⟩ := hl
  obtain ⟨A1, c1, rfl, s1, _⟩ := hR.rowAt hi e1
  obtain ⟨A2, c2, rfl, s2, _⟩ := hR.rowAt hj e2
  obtain ⟨A3, c3, rfl, s3, _⟩ := hR.rowAt hk e3
  have hv := hb.valid
  have hlat : b.at_.length ≤ 900 := by
    unfold validB headerB at hv
    simp only [Bool.and_eq_true, decide_eq_true_eq] at hv
    omega
  have hlen := hb.len
  have hlp : b.pages.length ≤ 900 := Nat.le_trans hb.lp (by omega)
  exact turned_walk b A1 A2 A3 c1 c2 c3 q0 q1 q2 w hb.ok hlat hlp (by omega) s1 s2 s3
/-- A block that three rows and a cell hold, seen as plain memory. -/
theorem own_blkRows {w0 : World} {G : Gs} {S : List Ow} {r : Env} {w : World} (hR : Rel w0 G S r w) (k i1 i2 i3 : Nat) (b : Blk) {t : TypeId} (hk : S[k]? = some (.cells t [.row i1, .row i2, .row i3])) (h1 : S[i1]? = some (.row 24 1 b.at_.length (b.at_.map (.int .u32)))) (h2 : S[i2]? = some (.row 3 1 b.pages.length (b.pages.map (.int .i64)))) (h3 : S[i3]? = some (.row 53 5 b.ops.length (b.ops.flatMap opC))) :
    ∃ g A1 c1 A2 c2 A3 c3, r.blk k = some g ∧ CellsAt w Gs.nil g 0 [.slice A1 b.at_.length c1, .slice A2 b.pages.length c2, .slice A3 b.ops.length c3] ∧ SlAt w w.heap.size A1 (b.at_.map (.int .u32)) ∧ SlAt w w.heap.size A2 (b.pages.map (.int .i64)) ∧ OpsAt w w.heap.size A3 b.ops ∧ b.ops.length ≤ c3 ∧ c3 ≤ maxLen := by
  obtain ⟨g, us, e1, e2, e3⟩ := own_cellsAt hR k hk
  simp only [denL, CV.den] at e2
  obtain ⟨u1, l1, rfl, d1, u2, l2, rfl, d2, u3, l3, rfl, d3, rfl⟩ := e2
  obtain ⟨A1, c1, rfl, s1, _⟩ := hR.rowAt h1 d1
  obtain ⟨A2, c2, rfl, s2, _⟩ := hR.rowAt h2 d2
  obtain ⟨A3, c3, rfl, s3, m1, m2⟩ := hR.rowAt h3 d3
  exact ⟨g, A1, c1, A2, c2, A3, c3, e1, e3, s1, s2, s3, m1, m2⟩
section
variable {w0 : World} {S : List Ow} {K : AV → List Ow → Prop} {b : Blk} {A1 A2 A3 : Option Addr} {n1 n2 n3 c1 c2 c3 : Nat}
/-- A pass over a block in plain memory. -/
theorem call_pass_pl {P : Program} {fid : FuncId} {F : Blk → List BOp} (hp : Pass P fid F) (hok : fnOk P fid = true) (hb : b.ok) (h0 : b.ops = [] → F b = []) (hn1 : b.at_.length = n1) (hn2 : b.pages.length = n2) (hn3 : b.ops.length = n3)
    (h1 : SlAt w0 w0.heap.size A1 (b.at_.map (.int .u32))) (h2 : SlAt w0 w0.heap.size A2 (b.pages.map (.int .i64))) (h3 : OpsAt w0 w0.heap.size A3 b.ops) (hc3 : n3 ≤ c3) (hm3 : c3 ≤ maxLen)
    (hK : K (.p (.agg [.v (.slice A1 n1 c1), .v (.slice A2 n2 c2), .row S.length])) (S ++ [.view viewT (F b).length ((F b).flatMap opC)])) :
    CallS P w0 Gs.nil fid [.p (.agg [.v (.slice A1 n1 c1), .v (.slice A2 n2 c2), .v (.slice A3 n3 c3)])] S K := by
  subst hn1; subst hn2; subst hn3
  refine ⟨hok, fun r w us hR hd => ?_⟩
  obtain ⟨u1, l1, rfl, d1, d2⟩ := hd
  obtain rfl : l1 = [] := d2
  obtain rfl := AV.val_den (x := .agg #[.slice A1 b.at_.length c1, .slice A2 b.pages.length c2, .slice A3 b.ops.length c3]) rfl d1
  refine (hp b A1 A2 A3 c1 c2 c3 w hb (sl_later h1 hR.toBelow) (sl_later h2 hR.toBelow) (sl_later h3 hR.toBelow) hc3 hm3).mono fun e w' ⟨A', c', he, ho, k1, k2, k3, hB⟩ => ?_
  refine ⟨.p (.agg [.v (.slice A1 b.at_.length c1), .v (.slice A2 b.pages.length c2), .row S.length]), _, _, r.set S.length none (some (.slice A' (F b).length c')), he, ⟨[.slice A1 b.at_.length c1, .slice A2 b.pages.length c2, .slice A' (F b).length c'], rfl, ?_⟩,
    hR.snoc (o := .view viewT (F b).length ((F b).flatMap opC)) hB (b := none) nofun ⟨A', c', by simp [Env.set], k1, ⟨k2, trivial⟩, by simp [Env.set], fun j u hj => ?_⟩, hR.le_new _ _, hK⟩
  · simp only [denL, CV.den]
    exact ⟨_, _, rfl, rfl, _, _, rfl, rfl, _, _, rfl, by simp [Env.set], rfl⟩
  · obtain ⟨b', off, e4, e5, e6⟩ := ho j u hj
    refine ⟨b', off, e4, e5, fun q hq => ?_, e6⟩
    simp only [Env.set] at hq
    split at hq
    · cases hq
    · rcases k3 with k3 | rfl
      · have := k3 b' off none e4
        have := (hR.new q b' hq).1
        omega
      · have hpos : 0 < b.ops.length := by
          rcases Nat.eq_zero_or_pos b.ops.length with h | h
          · rw [h0 (List.eq_nil_of_length_eq_zero h)] at hj; simp at hj
          · exact h
        have h5 := ops_lt (e4 ▸ h3) hpos
        exact absurd ((hR.new q b' hq).2 h5) (by simp)
theorem call_blkV2 {fid : FuncId} (i : Nat) {φ : Option Addr → Prop} {n : Nat} {xs : List Value} {x : Value} {s1 s2 t1 t2 t3 : Value} (hi : S[i]? = some (.view φ n xs)) (hok : fnOk Try.prog fid = true)
    (h : ∀ r w A c, Rel w0 Gs.nil S r w → SlAt w w.heap.size A xs → n ≤ c → c ≤ maxLen → Calls Try.prog fid #[.agg #[t1, t2, t3], .agg #[s1, s2, .slice A n c]] w fun e w' => e = .returned x ∧ Below w.heap.size w w') (hK : K (AV.of x) S) :
    CallS Try.prog w0 Gs.nil fid [.p (.agg [.v t1, .v t2, .v t3]), .p (.agg [.v s1, .v s2, .row i])] S K := by
  refine callS_val x hok (fun r w us hR hd => ?_) hK
  obtain ⟨u1, l1, rfl, d1, u2, l2, rfl, d2, d3⟩ := hd
  obtain rfl : l2 = [] := d3
  obtain rfl := AV.val_den (x := .agg #[t1, t2, t3]) rfl d1
  obtain ⟨us, rfl, hl'⟩ := den_agg d2
  simp only [denL, CV.den] at hl'
  obtain ⟨u1, l1, rfl, rfl, u2, l2, rfl, rfl, u3, l3, rfl, e3, rfl⟩ := hl'
  obtain ⟨A, c, rfl, s, k1, k2, _⟩ := viewAt hR hi e3
  exact h r w A c hR s k1 k2
end
theorem slot_val {r : Env} {f : Fr} {a : Act} (hf : FDen r f a) {d : Nat} {x : Value} (h : (f.get d).val = some x) : a.tmps.getD d undef = x := AV.val_den h (hf d)
/-- sanity, with its measure. -/
theorem sanity_law (w : World) : Calls Try.prog 14 #[] w fun e w' => e = .returned (.bool true) ∧ Below w.heap.size w w' := sanity_true once_mu w
theorem sameB_self (b : Blk) : sameB b b = true := by simp [sameB]
end Go.Proofs.Ytmjfgnnefcimiaa
namespace Go.Proofs.Ytmjfgnnefcimiaa
open Go.RowKit

/-- The variables of a mask have the same values. -/
def Agree (m : Nat) (vs us : List Int) : Prop := ∀ v : Nat, v < 28 → m.testBit v = true → getV vs (v : Int) = getV us (v : Int)
theorem getV_eq {vs us : List Int} (h1 : vs.length = 28) (h2 : us.length = 28) {k : Nat} (hk : k < 28) (h : getV vs (k : Int) = getV us (k : Int)) : vs[k]? = us[k]? := by
  unfold getV at h
  rw [Int.toNat_natCast, List.getElem?_eq_getElem (by omega), List.getElem?_eq_getElem (by omega)] at h
  rw [List.getElem?_eq_getElem (by omega), List.getElem?_eq_getElem (by omega)]
  simpa using h
theorem guests_eq {vs us : List Int} (h1 : vs.length = 28) (h2 : us.length = 28) (h : ∀ v : Nat, v < 19 → getV vs (v : Int) = getV us (v : Int)) : guestsL vs = guestsL us := by
  unfold guestsL
  rw [h1, h2]
  congr 1
  refine List.ext_getElem? fun k => ?_
  rw [List.getElem?_take, List.getElem?_take]
  split
  · rename_i hk; exact getV_eq h1 h2 (by omega) (h k hk)
  · rfl
theorem memI_reads_a {o : BOp} (hA : hasA o.code = true) : memI o.a (reads o) = true := by
  unfold memI; rw [List.any_eq_true]; exact ⟨o.a, mem_reads.2 (.inl ⟨hA, rfl⟩), by simp⟩
theorem memI_reads_b {o : BOp} (hB : hasB o.code = true) : memI o.b (reads o) = true := by
  unfold memI; rw [List.any_eq_true]; exact ⟨o.b, reads_b hB, by simp⟩
theorem bit_of {o : BOp} (hf : formedB o = true) {m : Nat} {v : Int} (h0 : 0 ≤ v) (h1 : v < 28) (h : (memI v (reads o) || (observesB o && decide (v < 19)) || (m.testBit v.toNat && !(writes o == v))) = true) : (beforeM o m).testBit v.toNat = true := by
  rw [beforeM_bit hf m (by omega), Int.toNat_of_nonneg h0]; exact h
/-- An operation over variables of which those agree that are live before it. -/
structure StepSame (o : BOp) (m : Nat) (vs us : List Int) (M : MemP) : Prop where
  a : hasA o.code = true → getV us o.a = getV vs o.a
  stays : (applyP o us M).stays = (applyP o vs M).stays
  mem : (applyP o us M).mem = (applyP o vs M).mem
  agree : (applyP o vs M).stays = true → Agree m (applyP o vs M).vs (applyP o us M).vs
  guests : observesB o = true → guestsL us = guestsL vs
theorem step_same {o : BOp} (hf : formedB o = true) {m : Nat} {vs us : List Int} (hv : VarsOk vs) (hu : VarsOk us) (h : Agree (beforeM o m) vs us) (M : MemP) : StepSame o m vs us M := by
  have ha := formed_a hf
  have hb := formed_b hf
  have hd := formed_d' hf
  have eA : hasA o.code = true → getV us o.a = getV vs o.a := fun hA => by
    have := h o.a.toNat (by omega) (bit_of hf ha.1 ha.2 (by rw [memI_reads_a hA]; rfl))
    rw [Int.toNat_of_nonneg ha.1] at this; exact this.symm
  have eB : hasB o.code = true → getV us o.b = getV vs o.b := fun hB => by
    have := h o.b.toNat (by omega) (bit_of hf hb.1 hb.2 (by rw [memI_reads_b hB]; rfl))
    rw [Int.toNat_of_nonneg hb.1] at this; exact this.symm
  have keep : ∀ v : Nat, v < 28 → m.testBit v = true → writes o ≠ (v : Int) → getV vs (v : Int) = getV us (v : Int) := fun v hv hm hw => by
    refine h v hv ?_
    have := bit_of (v := (v : Int)) hf (m := m) (by omega) (by omega) (by rw [Int.toNat_natCast, hm, show (writes o == (v : Int)) = false by simpa using hw]; simp)
    rwa [Int.toNat_natCast] at this
  have same : writes o < 0 → Agree m vs us := fun hw v hv hm => keep v hv hm (by omega)
  have setA : ∀ x : Int, writes o = o.d → Agree m (vs.set o.d.toNat x) (us.set o.d.toNat x) := fun x hw v hv' hm => by
    by_cases e : (v : Int) = o.d
    · rw [e, getV_set hv hd, getV_set hu hd]
    · rw [getV_set_ne hd.1 (by omega) e, getV_set_ne hd.1 (by omega) e]
      exact keep v hv' hm (fun h => e (by rw [← h, hw]))
  have wD : 1 ≤ o.code → o.code ≤ 17 → writes o = o.d := fun h1 h2 => (formed_d hf (by unfold hasD; rw [decide_eq_true_eq]; exact ⟨h1, h2⟩)).2.2
  have wN : ¬ (1 ≤ o.code ∧ o.code ≤ 17) → writes o < 0 := fun hn => by
    have : hasD o.code = false := by unfold hasD; rw [decide_eq_false_iff_not]; exact hn
    unfold writes; rw [this]; exact (by decide : (-1 : Int) < 0)
  have gs : observesB o = true → guestsL us = guestsL vs := fun ho => by
    refine guests_eq hu.len hv.len fun v hv19 => ?_
    have := h v (by omega) (by
      have := bit_of (v := (v : Int)) hf (m := m) (by omega) (by omega) (by rw [ho]; simp; omega)
      rwa [Int.toNat_natCast] at this)
    exact this.symm
  by_cases c1 : o.code = 1
  · exact ⟨eA, by rw [applyP_const c1, applyP_const c1], by rw [applyP_const c1, applyP_const c1], fun _ => by rw [applyP_const c1, applyP_const c1]; exact setA _ (wD (by omega) (by omega)), gs⟩
  by_cases c2 : o.code = 2
  · have hA : hasA o.code = true := by rw [c2]; rfl
    exact ⟨eA, by rw [applyP_move c2, applyP_move c2], by rw [applyP_move c2, applyP_move c2], fun _ => by rw [applyP_move c2, applyP_move c2, eA hA]; exact setA _ (wD (by omega) (by omega)), gs⟩
  by_cases c3 : isBin o.code = true
  · have h' : 3 ≤ o.code ∧ o.code ≤ 15 := by unfold isBin at c3; simpa using c3
    have hA : hasA o.code = true := by unfold hasA; rw [decide_eq_true_eq]; omega
    have hB : hasB o.code = true := by unfold hasB; rw [decide_eq_true_eq]; omega
    exact ⟨eA, by rw [applyP_bin c3, applyP_bin c3], by rw [applyP_bin c3, applyP_bin c3], fun _ => by rw [applyP_bin c3, applyP_bin c3, eA hA, eB hB]; exact setA _ (wD (by omega) (by omega)), gs⟩
  by_cases c4 : o.code = 16 ∨ o.code = 17
  · have hA : hasA o.code = true := by unfold hasA; rw [decide_eq_true_eq]; omega
    have e : ∀ ws : List Int, applyP o ws M = (match M.bad ((getV ws o.a + o.n) % 4294967296) 1 0 (szN o.code) with
        | none => ⟨ws.set o.d.toNat (M.load ((getV ws o.a + o.n) % 4294967296) 0 (szN o.code)), true, M⟩
        | some _ => ⟨ws, false, M⟩) := fun ws => by
      unfold applyP; rw [if_neg c1, if_neg c2, if_pos c4]
      cases M.bad ((getV ws o.a + o.n) % 4294967296) 1 0 (szN o.code) <;> rfl
    have ho : observesB o = true := by
      have : leaves o.code = true := by unfold leaves; rw [decide_eq_true_eq]; omega
      unfold observesB; rw [this]; rfl
    have e1 := e vs
    have e2 := e us
    rw [eA hA] at e2
    cases hbad : M.bad ((getV vs o.a + o.n) % 4294967296) 1 0 (szN o.code) with
    | none =>
      rw [hbad] at e1 e2
      exact ⟨eA, by rw [e1, e2], by rw [e1, e2], fun _ => by rw [e1, e2]; exact setA _ (wD (by omega) (by omega)), gs⟩
    | some y =>
      rw [hbad] at e1 e2
      exact ⟨eA, by rw [e1, e2], by rw [e1, e2], fun hst => (by rw [e1] at hst; cases hst), gs⟩
  have hw : writes o < 0 := wN (by
    unfold isBin at c3
    rw [decide_eq_true_eq] at c3
    omega)
  have hs := same hw
  by_cases c5 : o.code = 18 ∨ o.code = 19
  · have hA : hasA o.code = true := by unfold hasA; rw [decide_eq_true_eq]; omega
    have hB : hasB o.code = true := by unfold hasB; rw [decide_eq_true_eq]; omega
    have e : ∀ ws : List Int, applyP o ws M = ⟨ws, (M.bad ((getV ws o.a + o.n) % 4294967296) 2 0 (szN o.code)).isNone, M.storeM ((getV ws o.a + o.n) % 4294967296) (szN o.code) (getV ws o.b)⟩ := fun ws => by
      unfold applyP; rw [if_neg c1, if_neg c2, if_neg c4, if_pos c5]
    have e1 := e vs
    have e2 := e us
    rw [eA hA, eB hB] at e2
    exact ⟨eA, by rw [e1, e2], by rw [e1, e2], fun _ => by rw [e1, e2]; exact hs, gs⟩
  by_cases c6 : o.code = 21
  · have hA : hasA o.code = true := by rw [c6]; rfl
    have e1 := applyP_guard c6 vs M
    have e2 := applyP_guard c6 us M
    rw [eA hA] at e2
    exact ⟨eA, by rw [e1, e2], by rw [e1, e2], fun _ => by rw [e1, e2]; exact hs, gs⟩
  have e : ∀ ws : List Int, applyP o ws M = ⟨ws, !decide (o.code = 22), M⟩ := fun ws => by
    unfold applyP
    rw [if_neg c1, if_neg c2, if_neg c4, if_neg c5, if_neg c6]
    by_cases c7 : o.code = 22
    · rw [if_pos c7]; simp [c7]
    · rw [if_neg c7, if_neg c3]; simp [c7]
  have e1 := e vs
  have e2 := e us
  exact ⟨eA, by rw [e1, e2], by rw [e1, e2], fun _ => by rw [e1, e2]; exact hs, gs⟩
theorem leaves_of {o : BOp} (_hf : formedB o = true) {vs : List Int} {M : MemP} (h : ¬ (applyP o vs M).stays = true) : leaves o.code = true := by
  unfold leaves
  rw [decide_eq_true_eq]
  by_cases c1 : o.code = 1
  · rw [applyP_const c1] at h; exact absurd rfl h
  by_cases c2 : o.code = 2
  · rw [applyP_move c2] at h; exact absurd rfl h
  by_cases c3 : isBin o.code = true
  · rw [applyP_bin c3] at h; exact absurd rfl h
  by_cases c4 : 16 ≤ o.code ∧ o.code ≤ 19 ∨ o.code = 21 ∨ o.code = 22
  · exact c4
  exfalso
  refine h ?_
  unfold applyP
  rw [if_neg c1, if_neg c2, if_neg (by omega), if_neg (by omega), if_neg (by omega), if_neg (by omega), if_neg c3]
/-- A block's rest over variables of which those agree that are live: one step. -/
theorem evalL_step {ats : List Int} {o : BOp} {l r : List BOp} {i : Int} {vs us : List Int} {M : MemP} (hf : formedB o = true) (ho : o.ok) {m : Nat} (hv : VarsOk vs) (hu : VarsOk us) (h : Agree (beforeM o m) vs us)
    (ih : ∀ (j : Int) (vs us : List Int) (Q : MemP), VarsOk vs → VarsOk us → Agree m vs us → evalL ats r j us Q = evalL ats l j vs Q) : evalL ats (o :: r) i us M = evalL ats (o :: l) i vs M := by
  have hs := step_same hf hv hu h M
  show (if _ then _ else _) = (if _ then _ else _)
  by_cases c1 : o.code = 24
  · rw [if_pos (.inl c1), if_pos (.inl c1), hs.guests (by unfold observesB; rw [c1]; rfl)]
  by_cases c2 : o.code = 25
  · have hn : ∀ ws : List Int, ¬ (o.code = 24 ∨ (o.code = 23 ∧ getV ws o.a ≠ 0)) := by
      rintro ws (h | ⟨h, _⟩) <;> omega
    rw [if_neg (hn us), if_neg (hn vs), if_pos c2, if_pos c2, hs.guests (by unfold observesB; rw [c2]; rfl), hs.a (by rw [c2]; rfl)]
  by_cases c3 : o.code = 23
  · rw [hs.a (by rw [c3]; rfl)]
    by_cases c4 : getV vs o.a = 0
    · have hn : ¬ (o.code = 24 ∨ (o.code = 23 ∧ getV vs o.a ≠ 0)) := by
        rintro (h | ⟨_, h⟩)
        · exact c1 h
        · exact h c4
      rw [if_neg hn, if_neg hn, if_neg c2, if_neg c2, hs.stays]
      have hst : (applyP o vs M).stays = true := by rw [applyP_none (.inr c3)]
      rw [if_pos hst, if_pos hst, hs.mem]
      exact ih _ _ _ _ (applyP_ok hv ho.n) (applyP_ok hu ho.n) (hs.agree hst)
    · rw [if_pos (.inr ⟨c3, c4⟩), if_pos (.inr ⟨c3, c4⟩), hs.guests (by unfold observesB; rw [c3]; rfl)]
  · have hn : ∀ ws : List Int, ¬ (o.code = 24 ∨ (o.code = 23 ∧ getV ws o.a ≠ 0)) := by
      rintro ws (h | ⟨h, _⟩)
      · exact c1 h
      · exact c3 h
    rw [if_neg (hn us), if_neg (hn vs), if_neg c2, if_neg c2, hs.stays, hs.mem]
    by_cases hst : (applyP o vs M).stays = true
    · rw [if_pos hst, if_pos hst]
      exact ih _ _ _ _ (applyP_ok hv ho.n) (applyP_ok hu ho.n) (hs.agree hst)
    · rw [if_neg hst, if_neg hst]
      have hob : observesB o = true := by
        have : leaves o.code = true := leaves_of hf hst
        unfold observesB; rw [this]; rfl
      rw [hs.guests hob]
theorem dead_eval (ats : List Int) : ∀ (l : List BOp) (i : Int) (vs us : List Int) (M : MemP), (∀ o ∈ l, formedB o = true) → (∀ o ∈ l, o.ok) → VarsOk vs → VarsOk us → Agree (mD l) vs us → evalL ats (rD l) i us M = evalL ats l i vs M
  | [], _, _, _, _, _, _, _, _, _ => rfl
  | o :: l, i, vs, us, M, hf, hok, hv, hu, h => by
    have hfo := hf o (by simp)
    have hoo := hok o (by simp)
    have hfl : ∀ p ∈ l, formedB p = true := fun p hp => hf p (by simp [hp])
    have hol : ∀ p ∈ l, p.ok := fun p hp => hok p (by simp [hp])
    have ih := fun (j : Int) (vs us : List Int) (Q : MemP) (h1 : VarsOk vs) (h2 : VarsOk us) (h3 : Agree (mD l) vs us) => dead_eval ats l j vs us Q hfl hol h1 h2 h3
    rw [rD_cons]
    rw [mD_cons] at h
    by_cases hd : deadB o (mD l) = true
    · rw [if_pos hd] at h ⊢
      obtain ⟨hp, hw, _⟩ := dead_not hfo hfl hd
      obtain ⟨k1, k2, _⟩ := pure_code hp
      have hbit : (mD l).testBit o.d.toNat = false := by
        unfold deadB at hd
        simp only [Bool.and_eq_true] at hd
        simpa using hd.2
      have hst : (applyP o vs M).stays = true ∧ (applyP o vs M).mem = M := by
        by_cases c1 : o.code = 1
        · rw [applyP_const c1]; exact ⟨rfl, rfl⟩
        by_cases c2 : o.code = 2
        · rw [applyP_move c2]; exact ⟨rfl, rfl⟩
        · rw [applyP_bin (by unfold isBin; rw [decide_eq_true_eq]; omega)]; exact ⟨rfl, rfl⟩
      rw [evalL_go (by omega) (by omega) hst.1, hst.2, show markI o i = i from if_neg (by omega)]
      refine ih _ _ _ _ (applyP_ok hv hoo.n) hu fun v hv28 hm => ?_
      have hne : writes o ≠ (v : Int) := fun e => by
        rw [hw] at e
        rw [e, Int.toNat_natCast, hm] at hbit
        cases hbit
      rw [applyP_other hfo vs M (by omega) hne]
      exact h v hv28 hm
    · rw [if_neg hd] at h ⊢
      exact evalL_step hfo hoo hv hu h ih
/-- The passes keep the evaluation of a valid block. -/
theorem fold_same {b : Blk} (hb : b.ok) (hv : validB b = true) {vs : List Int} (hvs : VarsOk vs) (M : MemP) : evalBlk (foldP b) vs M = evalBlk b vs M := by
  unfold evalBlk
  rw [if_pos (fold_valid hv), if_pos hv]
  show evalL b.at_ (foldAll b) 0 vs M = _
  unfold foldAll
  rw [if_pos hv]
  exact fold_eval b.at_ b.ops noneF 0 vs M hvs (foldSem_none vs) (valid_formed hv) hb.ops
theorem copy_same {b : Blk} (hb : b.ok) (hv : validB b = true) {vs : List Int} (hvs : VarsOk vs) (M : MemP) : evalBlk (copyP b) vs M = evalBlk b vs M := by
  unfold evalBlk
  rw [if_pos (copy_valid hv), if_pos hv]
  show evalL b.at_ (copyAll b) 0 vs M = _
  unfold copyAll
  rw [if_pos hv]
  exact copy_eval b.at_ b.ops noneF 0 vs M hvs (copySem_none vs) (valid_formed hv) hb.ops
theorem dead_same {b : Blk} (hb : b.ok) (hv : validB b = true) {vs : List Int} (hvs : VarsOk vs) (M : MemP) : evalBlk (deadP b) vs M = evalBlk b vs M := by
  unfold evalBlk
  rw [if_pos (dead_valid hv), if_pos hv]
  show evalL b.at_ (deadAll b) 0 vs M = _
  unfold deadAll
  rw [if_pos hv]
  exact dead_eval b.at_ b.ops 0 vs vs M (valid_formed hv) hb.ops hvs hvs fun _ _ _ => rfl
theorem once_same {b : Blk} (hb : b.ok) (hv : validB b = true) {vs : List Int} (hvs : VarsOk vs) (M : MemP) : evalBlk (onceP b) vs M = evalBlk b vs M := by
  unfold onceP
  rw [dead_same (copyP_ok (foldP_ok hb)) (copy_valid (fold_valid hv)) hvs, copy_same (foldP_ok hb) (fold_valid hv) hvs, fold_same hb hv hvs]
end Go.Proofs.Ytmjfgnnefcimiaa
namespace Go.Proofs.Ytmjfgnnefcimiaa
open Go.RowKit

/-! Opt. -/
theorem optN_same_eval {mu : Blk → Nat} (hmu : ∀ b, b.ok → (onceP b).ops ≠ b.ops → mu (onceP b) < mu b) {vs : List Int} (hvs : VarsOk vs) (M : MemP) : ∀ (n : Nat) {b : Blk}, b.ok → validB b = true → evalBlk (optN n b) vs M = evalBlk b vs M
  | 0, b, _, _ => rfl
  | n + 1, b, hb, hv => by
    unfold optN
    split
    · rfl
    · rw [optN_same_eval hmu hvs M n (onceP_ok hb) (once_valid hv), once_same hb hv hvs]
end Go.Proofs.Ytmjfgnnefcimiaa
namespace Go.Proofs.Ytmjfgnnefcimiaa
open Go.RowKit

/-- The result of Opt. -/
structure OptOk (b : Blk) (l : List BOp) : Prop where
  valid : validB ⟨b.at_, b.pages, l⟩ = true
  ok : (⟨b.at_, b.pages, l⟩ : Blk).ok
  same : ∀ vs M, VarsOk vs → evalBlk ⟨b.at_, b.pages, l⟩ vs M = evalBlk b vs M
theorem optN_length {mu : Blk → Nat} (hmu : ∀ b, b.ok → (onceP b).ops ≠ b.ops → mu (onceP b) < mu b) : ∀ (n : Nat) (b : Blk), (optN n b).ops.length ≤ b.ops.length
  | 0, b => Nat.le_refl _
  | n + 1, b => by
    unfold optN
    split
    · exact Nat.le_refl _
    · refine Nat.le_trans (optN_length hmu n (onceP b)) ?_
      show (deadAll (copyP (foldP b))).length ≤ _
      exact Nat.le_trans (deadAll_length _) (Nat.le_trans (copyAll_length _) (foldAll_length _))
theorem opt_ok {mu : Blk → Nat} (hmu : ∀ b, b.ok → (onceP b).ops ≠ b.ops → mu (onceP b) < mu b) {b : Blk} (hb : b.ok) (hv : validB b = true) : OptOk b (optAll mu b) ∧ (optAll mu b).length ≤ b.ops.length := by
  obtain ⟨h1, h2, _⟩ := opt_fixed hmu hb hv
  refine ⟨⟨h1, h2, fun vs M hvs => ?_⟩, ?_⟩
  · obtain ⟨_, _, k3, k4, _⟩ := optN_keeps hmu (mu b) hb hv (Nat.le_refl _)
    have e : (⟨b.at_, b.pages, optAll mu b⟩ : Blk) = optN (mu b) b := by
      unfold optAll
      rw [if_pos hv]
      cases hq : optN (mu b) b with
      | mk a p l => rw [hq] at k3 k4; simp at k3 k4; rw [k3, k4]
    rw [e]
    exact optN_same_eval hmu hvs M (mu b) hb hv
  · unfold optAll
    rw [if_pos hv]
    exact optN_length hmu _ b
end Go.Proofs.Ytmjfgnnefcimiaa
