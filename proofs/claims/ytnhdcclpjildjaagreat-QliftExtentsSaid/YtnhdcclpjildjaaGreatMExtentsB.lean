/- Walks: the guest variables; sizes of accesses. -/
import Derived.ProofKit
import Derived.OpenShut
import Derived.ShutString
import Derived.ChangeOld
import Derived.Below
import Derived.Lib.SmallJoins
import Derived.Deep.Strs
import Derived.Test.YtnhdcclpjildjaaGreatC12
import Derived.Test.YtnhdcclpjildjaaGreatMExtentsA
namespace Go.Proofs.YtnhdcclpjildjaaGreat
open Go.RowKit

abbrev varsV (vs : List Int) : Value := .agg (u32L vs).toArray
theorem onesL_u32 (S : List Ow) : ∀ vs : List Int, onesL S (List.map CV.v (u32L vs)) = true
 | [] => rfl
 | v :: vs => by
  show (match oneS S (.v (.int .u32 v)) with | true => onesL S (List.map CV.v (u32L vs)) | false => false) = true
  exact onesL_u32 S vs
def guestsTo (vs : List Int) (j : Nat) : List Int := vs.take 19 ++ List.replicate (j - 19) 0 ++ vs.drop j
theorem guests_set {vs : List Int} {j : Nat} (h : 19 ≤ j) (hj : j < vs.length) : (guestsTo vs j).set j 0 = guestsTo vs (j + 1) := by
 unfold guestsTo
 have h1 : (vs.take 19 ++ List.replicate (j - 19) (0 : Int)).length = j := by simp; omega
 rw [List.set_append_right _ _ (by omega), h1, Nat.sub_self, show vs.drop j = vs[j] :: vs.drop (j + 1) from List.drop_eq_getElem_cons hj, List.set_cons_zero, show j + 1 - 19 = (j - 19) + 1 by omega, List.replicate_succ']
 simp
theorem guestsTo_length {vs : List Int} {j : Nat} (h : 19 ≤ j) (hj : j ≤ vs.length) : (guestsTo vs j).length = vs.length := by
 unfold guestsTo; simp; omega
theorem size_walk (c : Int) (w : World) : Calls Tryz.prog 85 #[.int .i64 c] w fun e w' => e = .returned (.int .i64 (sizeI c)) ∧ Below w.heap.size w w' := by
 refine calls_val [.int .i64 c] Tryz.func85 Tryz.ntmps85 rfl (by simp) ?_
 conv => whnf
 refine ⟨c == 19, fun _ => ?_, ?_⟩
 ·conv => whnf
  exact ⟨rfl, rfl, rfl, rfl, rfl⟩
 conv => whnf
 refine ⟨fun hc => ?_, fun hc => ?_⟩
 ·conv => whnf
  exact fin_val rfl fun w' hB => ⟨by unfold sizeI; rw [if_pos (show (c == 17 || c == 19) = true from hc)], hB⟩
 ·conv => whnf
  exact fin_val rfl fun w' hB => ⟨by unfold sizeI; rw [if_neg (by rw [show (c == 17 || c == 19) = false from hc]; decide)], hB⟩
set_option maxRecDepth 100000 in
theorem guests_walk (vs : List Int) (w : World) (hl : vs.length = 28) : Calls Tryz.prog 58 #[varsV vs] w fun e w' => e = .returned (varsV (guestsL vs)) ∧ Below w.heap.size w w' := by
 refine calls_val [varsV vs] Tryz.func58 Tryz.ntmps58 rfl (by simp) ?_
 conv => whnf
 have e0 : guestsTo vs 19 = vs := by unfold guestsTo; simp
 refine ⟨{ j : Nat // 19 ≤ j ∧ j ≤ 28 }, fun x => [(1, .p (.c (.ref 0 0))), (2, .p (.c (.ref 1 0))), (3, one (.int .i64 (x.1 : Int)))], fun x => [.cells 53 (List.map CV.v (u32L (guestsTo vs x.1))), .cells 53 (List.map CV.v (u32L (List.replicate 28 0)))], fun x => 28 - x.1,
  ⟨⟨19, by omega, by omega⟩, ent_same rfl (aI rfl (aI rfl (aI rfl trivial))) (aI ((aI rfl (Or.inl (by rw [e0])))) (aI sM trivial))⟩, fun x => ?_⟩
 obtain ⟨j, hj1, hj2⟩ := x
 have hlen : (List.map CV.v (u32L (guestsTo vs j))).length = 28 := by rw [List.length_map, List.length_map, guestsTo_length hj1 (by omega), hl]
 dsimp only
 conv => whnf
 refine ⟨fun hc => ?_, fun hc => ?_⟩
 ·have hlt : j < 28 := by simp at hc; omega
  conv => whnf
  refine ⟨⟨by omega, by omega⟩, ?_⟩
  conv => whnf
  rw [show Nat.ble (0 + (j : Int).toNat * tsz Tryz.prog 35 + [CV.v (Value.int IntKind.u32 0)].length) (List.map CV.v (u32L (guestsTo vs j))).length = true from Nat.ble_eq_true_of_le (by rw [hlen]; show 0 + _ * 1 + 1 ≤ 28; omega)]
  conv => whnf
  rw [show Nat.ble (List.map CV.v (u32L (guestsTo vs j))).length 8 = false from by rw [hlen]; rfl]
  conv => whnf
  refine ⟨_, wr64 (by omega), ?_⟩
  conv => whnf
  have hset : setAll (List.map CV.v (u32L (guestsTo vs j))) (0 + (j : Int).toNat * tsz Tryz.prog 35) [CV.v (Value.int IntKind.u32 0)] = List.map CV.v (u32L (guestsTo vs (j + 1))) := by
   rw [set_vals, ← guests_set hj1 (by omega)]
   show List.map CV.v ((u32L (guestsTo vs j)).set (0 + (j : Int).toNat * 1) _) = _
   rw [Nat.zero_add, Nat.mul_one, Int.toNat_natCast]
   simp only [List.map_set]
  exact ⟨⟨j + 1, by omega, by omega⟩, ent_same rfl (aI rfl (aI rfl (aI rfl trivial))) (aI ((aI rfl (Or.inl hset))) (aI sM trivial)), by show 28 - (j + 1) < 28 - j; omega⟩
 ·have hje : j = 28 := by simp at hc; omega
  subst hje
  conv => whnf
  refine ⟨_, _, ent_refl, ?_⟩
  conv => whnf
  rw [show cut (List.map CV.v (u32L (guestsTo vs 28))) 0 (Tryz.prog.types[53].size) = some (List.map CV.v (u32L (guestsTo vs 28))) from cut_all hlen]
  conv => whnf
  have hl2 : (List.map CV.v (u32L (List.replicate 28 0))).length = 28 := rfl
  rw [show Nat.beq (List.map CV.v (u32L (guestsTo vs 28))).length (Tryz.prog.types[53].size) = true from by rw [hlen]; rfl, onesL_u32]
  conv => whnf
  rw [show Nat.ble (0 + (List.map CV.v (u32L (guestsTo vs 28))).length) (List.map CV.v (u32L (List.replicate 28 0))).length = true from Nat.ble_eq_true_of_le (by rw [hlen, hl2]; omega)]
  conv => whnf
  rw [setAll_same (show (List.map CV.v (u32L (List.replicate 28 0))).length = (List.map CV.v (u32L (guestsTo vs 28))).length by rw [hlen, hl2])]
  conv => whnf
  rw [show cut (List.map CV.v (u32L (guestsTo vs 28))) 0 (Tryz.prog.types[53].size) = some (List.map CV.v (u32L (guestsTo vs 28))) from cut_all hlen]
  conv => whnf
  refine fin_val (val_agg _) fun w' hB => ⟨?_, hB⟩
  have : guestsTo vs 28 = guestsL vs := by unfold guestsTo guestsL; rw [List.drop_eq_nil_of_le (by omega), hl]; simp
  rw [this]
end Go.Proofs.YtnhdcclpjildjaaGreat
namespace Go.Proofs.YtnhdcclpjildjaaGreat
open Go.RowKit

def markI (o : BOp) (i : Int) : Int := if o.code = 20 then o.n else i
def evalL (ats : List Int) : List BOp → Int → List Int → MemP → EvR
 | [], _, _, M => ⟨Outc.zero, M⟩
 | o :: l, i, vs, M =>
  if o.code = 24 ∨ (o.code = 23 ∧ getV vs o.a ≠ 0) then ⟨⟨false, 0, ats.length, o.n, guestsL vs⟩, M⟩
  else if o.code = 25 then ⟨⟨false, 0, ats.length, getV vs o.a, guestsL vs⟩, M⟩
  else if (applyP o vs M).stays = true then evalL ats l (markI o i) (applyP o vs M).vs (applyP o vs M).mem
  else ⟨⟨true, markI o i, markI o i, (ats[(markI o i).toNat]?).getD 0, guestsL vs⟩, (applyP o vs M).mem⟩
def evalBlk (b : Blk) (vs : List Int) (M : MemP) : EvR := if validB b = true then evalL b.at_ b.ops 0 vs M else ⟨Outc.zero, M⟩
theorem getV_word {vs : List Int} (h : VarsOk vs) (i : Int) : word (getV vs i) := by
 unfold getV
 cases hi : vs[i.toNat]? with
 | none => exact word0
 | some x => exact h.word x (List.mem_of_getElem? hi)
theorem set_ok {vs : List Int} (h : VarsOk vs) (i : Nat) {x : Int} (hx : Go.Proofs.YtnhdcclpjildjaaGreat.word x) : VarsOk (vs.set i x) := ⟨by rw [List.length_set]; exact h.len, fun y hy => by
 rcases List.mem_or_eq_of_mem_set hy with h1 | h1
 ·exact h.word y h1
 ·rw [h1]; exact hx⟩
theorem applyP_ok {o : BOp} {vs : List Int} {M : MemP} (h : VarsOk vs) (hn : word o.n) : VarsOk (applyP o vs M).vs := by
 unfold applyP
 split
 ·exact set_ok h _ hn
 split
 ·exact set_ok h _ (getV_word h _)
 split
 ·split
  ·exact set_ok h _ (load_word M _ _ _)
  ·exact h
 split
 ·exact h
 split
 ·exact h
 split
 ·exact h
 split
 ·exact set_ok h _ (wordOp_word (getV_word h _) (getV_word h _))
 ·exact h
theorem formed_a {o : BOp} (hf : formedB o = true) : 0 ≤ o.a ∧ o.a < 28 := by
 have h := (formed_split.1 hf).2.2.1
 cases hA : hasA o.code <;> rw [hA] at h <;> simp [fieldB] at h <;> omega
theorem formed_b {o : BOp} (hf : formedB o = true) : 0 ≤ o.b ∧ o.b < 28 := by
 have h := (formed_split.1 hf).2.2.2.1
 cases hB : hasB o.code <;> rw [hB] at h <;> simp [fieldB] at h <;> omega
theorem formed_d' {o : BOp} (hf : formedB o = true) : 0 ≤ o.d ∧ o.d < 28 := by
 have h := (formed_split.1 hf).2.1
 cases hD : hasD o.code <;> rw [hD] at h <;> simp [fieldB] at h <;> omega
theorem applyP_const {o : BOp} (h : o.code = 1) (vs : List Int) (M : MemP) : applyP o vs M = ⟨vs.set o.d.toNat o.n, true, M⟩ := by unfold applyP; rw [if_pos h]
theorem applyP_move {o : BOp} (h : o.code = 2) (vs : List Int) (M : MemP) : applyP o vs M = ⟨vs.set o.d.toNat (getV vs o.a), true, M⟩ := by unfold applyP; rw [if_neg (by omega), if_pos h]
theorem applyP_bin {o : BOp} (h : isBin o.code = true) (vs : List Int) (M : MemP) : applyP o vs M = ⟨vs.set o.d.toNat (wordOp o.code (getV vs o.a) (getV vs o.b)), true, M⟩ := by
 have h' : 3 ≤ o.code ∧ o.code ≤ 15 := by unfold isBin at h; simpa using h
 unfold applyP; rw [if_neg (by omega), if_neg (by omega), if_neg (by omega), if_neg (by omega), if_neg (by omega), if_neg (by omega), if_pos h]
theorem applyP_guard {o : BOp} (h : o.code = 21) (vs : List Int) (M : MemP) : applyP o vs M = ⟨vs, getV vs o.a != 0, M⟩ := by
 unfold applyP; rw [if_neg (by omega), if_neg (by omega), if_neg (by omega), if_neg (by omega), if_pos h]
theorem evalL_go {ats : List Int} {o : BOp} {l : List BOp} {i : Int} {vs : List Int} {M : MemP} (h1 : ¬ (o.code = 24 ∨ (o.code = 23 ∧ getV vs o.a ≠ 0))) (h2 : o.code ≠ 25) (h3 : (applyP o vs M).stays = true) : evalL ats (o :: l) i vs M = evalL ats l (markI o i) (applyP o vs M).vs (applyP o vs M).mem := by
 show (if _ then _ else _) = _
 rw [if_neg h1, if_neg h2, if_pos h3]
/-! Fold. -/
/-! Copies. -/
end Go.Proofs.YtnhdcclpjildjaaGreat
namespace Go.Proofs.YtnhdcclpjildjaaGreat
open Go.RowKit

theorem marks_le : ∀ (l : List BOp) {s s2 : Ck}, ckRun s l = some s2 → s.marks ≤ s2.marks
 | [], s, s2, h => by injection h with h; subst h; exact Nat.le_refl _
 | o :: l, s, s2, h => by
  obtain ⟨s1, h1, h2⟩ := ck_uncons h
  have := marks_le l h2
  obtain ⟨_, _, h3, h4⟩ := ck_step h1
  by_cases hc : o.code = 20
  ·have := (h3 hc).2; subst this; simp at *; omega
  ·have : s1.marks = s.marks := by
    have := h4 hc
    rw [this.2]
   omega
def EvAt (n : Nat) (l : List BOp) (i : Int) : Prop := ∃ s s2 : Ck, ckRun s l = some s2 ∧ s2.marks = n ∧ 0 ≤ i ∧ i < n
theorem evAt_step {n : Nat} {o : BOp} {l : List BOp} {i : Int} (h : EvAt n (o :: l) i) : EvAt n l (markI o i) := by
 obtain ⟨s, s2, h1, h2, h3, h4⟩ := h
 obtain ⟨s1, k1, k2⟩ := ck_uncons h1
 obtain ⟨_, _, k3, _⟩ := ck_step k1
 have hm := marks_le l k2
 refine ⟨s1, s2, k2, h2, ?_⟩
 unfold markI
 split
 ·rename_i hc
  obtain ⟨e1, e2⟩ := k3 hc
  subst e2
  have hm : s.marks + 1 ≤ s2.marks := hm
  omega
 ·exact ⟨h3, h4⟩
theorem evAt_start {b : Blk} (hv : validB b = true) : EvAt b.at_.length b.ops 0 := by
 obtain ⟨hh, s, h1, h2⟩ := valid_parts.1 hv
 refine ⟨_, s, h1, h2, by omega, ?_⟩
 unfold headerB at hh
 simp only [Bool.and_eq_true, decide_eq_true_eq] at hh
 omega
theorem drop_at {l : List BOp} {j : Nat} {o : BOp} (h : l[j]? = some o) : l.drop j = o :: l.drop (j + 1) := by
 have hj : j < l.length := by
  rcases Nat.lt_or_ge j l.length with h1 | h1
  ·exact h1
  ·rw [List.getElem?_eq_none h1] at h; cases h
 rw [List.drop_eq_getElem_cons hj]
 rw [List.getElem?_eq_getElem hj] at h
 injection h with h; rw [h]
theorem evalL_exit {ats : List Int} {o : BOp} {l : List BOp} {i : Int} {vs : List Int} {M : MemP} (h : o.code = 24 ∨ (o.code = 23 ∧ getV vs o.a ≠ 0)) : evalL ats (o :: l) i vs M = ⟨⟨false, 0, ats.length, o.n, guestsL vs⟩, M⟩ := if_pos h
theorem evalL_var {ats : List Int} {o : BOp} {l : List BOp} {i : Int} {vs : List Int} {M : MemP} (h : o.code = 25) : evalL ats (o :: l) i vs M = ⟨⟨false, 0, ats.length, getV vs o.a, guestsL vs⟩, M⟩ := by
 show (if _ then _ else _) = _
 rw [if_neg (by omega), if_pos h]
theorem evalL_leave {ats : List Int} {o : BOp} {l : List BOp} {i : Int} {vs : List Int} {M : MemP} (h1 : ¬ (o.code = 24 ∨ (o.code = 23 ∧ getV vs o.a ≠ 0))) (h2 : o.code ≠ 25) (h3 : (applyP o vs M).stays = false) :
  evalL ats (o :: l) i vs M = ⟨⟨true, markI o i, markI o i, (ats[(markI o i).toNat]?).getD 0, guestsL vs⟩, (applyP o vs M).mem⟩ := by
 show (if _ then _ else _) = _
 rw [if_neg h1, if_neg h2, if_neg (by rw [h3]; decide)]
theorem guests_ok {vs : List Int} (h : VarsOk vs) : VarsOk (guestsL vs) := by
 refine ⟨?_, fun x hx => ?_⟩
 ·unfold guestsL; simp [h.len]
 ·unfold guestsL at hx
  rcases List.mem_append.1 hx with h1 | h1
  ·exact h.word x (List.mem_of_mem_take h1)
  ·rw [List.eq_of_mem_replicate h1]; exact word0
theorem applyP_mem {o : BOp} {vs : List Int} {M : MemP} {n p : Nat} (h : M.ok n p) (hv : VarsOk vs) : (applyP o vs M).mem.ok n p := by
 unfold applyP
 split
 ·exact h
 split
 ·exact h
 split
 ·split <;> exact h
 split
 ·exact storeM_ok h _ _ (getV_word hv _).1
 split
 ·exact h
 split
 ·exact h
 split <;> exact h

/-! Opt. -/
end Go.Proofs.YtnhdcclpjildjaaGreat
namespace Go.Proofs.YtnhdcclpjildjaaGreat
open Go.ChangeShapes Go.WideShapes Go.ChangeAt Go.RowKit

theorem ownK : ownKnob Tryz.prog.godebug = none := by kernel_rfl
theorem laidOutP : laidOutB Tryz.prog = true := by kernel_rfl
theorem cells_lt {w : World} {b o : Nat} {u : Value} (h : w.cell? ⟨b, o, none⟩ = some u) : b < w.heap.size := by
 rcases Nat.lt_or_ge b w.heap.size with h1 | h1
 ·exact h1
 ·simp [World.cell?, Array.getElem?_eq_none h1] at h
theorem int_wf {n : Int} (h : (Lit.int .i64 n).wf = true) : -9223372036854775808 ≤ n ∧ n < 9223372036854775808 := by
 simp [Lit.wf, IntKind.min, IntKind.max, IntKind.signed, IntKind.bits] at h
 omega
theorem open_ints_arr {H : Type} {enc : TypeId × Value → H} {W : World} {fuel n : Nat} {t e : TypeId} {k : IntKind} {cs : List Value} {x : DataW H × List MemPlace} (ht : Tryz.prog.underlying t = some (.array n e)) (he : Tryz.prog.underlying e = some (.int k)) (hc : Tryz.prog.cellsOf e = 1) (hct : Tryz.prog.cellsOf t = n)
  (h : DataW.trod enc Tryz.prog W 0 (fun _ => true) true fuel t cs = some x) : ∃ zs : List Int, cs = zs.map (Value.int k) ∧ zs.length = n ∧ ∀ z ∈ zs, (Lit.int k z).wf = true := by
 obtain ⟨xs, m, _, _, hl, hlen, hel⟩ := DataW.trod_array ht h
 rw [hct] at hl
 have get : ∀ i (hi : i < n), ∃ z, cs[i]? = some (.int k z) ∧ (Lit.int k z).wf = true := fun i hi => by
  have := hel i hi
  rw [hc, List.getElem?_eq_getElem (by omega)] at this
  obtain ⟨z, e1, _, e3⟩ := DataW.trod_int he this
  refine ⟨z, ?_, e3⟩
  have h0 : ((cs.drop (i * 1)).take 1)[0]? = some (.int k z) := by rw [e1]; rfl
  rw [List.getElem?_take, if_pos (by omega), List.getElem?_drop] at h0
  simpa using h0
 refine ⟨(List.range n).map fun i => intOf (cs.getD i undef), ?_, by simp, fun z hz => ?_⟩
 ·refine List.ext_getElem? fun i => ?_
  rw [List.getElem?_map, List.getElem?_map]
  rcases Nat.lt_or_ge i n with hi | hi
  ·obtain ⟨z, e1, _⟩ := get i hi
   rw [List.getElem?_range hi, e1]
   simp [List.getD_eq_getElem?_getD, e1, intOf]
  ·rw [List.getElem?_eq_none (by omega), List.getElem?_eq_none (by simpa using hi)]; rfl
 ·obtain ⟨i, hi, rfl⟩ := List.mem_map.1 hz
  have hi : i < n := by simpa using hi
  obtain ⟨z, e1, e2⟩ := get i hi
  simpa [List.getD_eq_getElem?_getD, e1, intOf] using e2
end Go.Proofs.YtnhdcclpjildjaaGreat
namespace Go.Proofs.YtnhdcclpjildjaaGreat
open Go.RowKit

def endsQ (op : Int) : Bool := decide (op = 27 ∨ (32 ≤ op ∧ op ≤ 37) ∨ op = 40 ∨ (48 ≤ op ∧ op ≤ 51))
theorem is_ops {op : Int} (h : (qForm op).is = true) : (1 ≤ op ∧ op ≤ 12) ∨ (16 ≤ op ∧ op ≤ 27) ∨ (32 ≤ op ∧ op ≤ 37) ∨ op = 40 ∨ op = 41 ∨ (48 ≤ op ∧ op ≤ 54) := by
 unfold qForm at h
 repeat' split at h
 all_goals first | omega | cases h
theorem qCode_zero {op : Int} : qCode op ≠ 0 ↔ (1 ≤ op ∧ op ≤ 12) ∨ (16 ≤ op ∧ op ≤ 22) := by
 unfold qCode
 repeat' split
 all_goals omega
theorem tail_iff {i : QI} (hv : (qForm i.op).is = true) (a : Int) : (qTail i a).isSome = (!simpleQ i.op || endsQ i.op) := by
 have ho := is_ops hv
 unfold qTail simpleQ endsQ
 have hz := @qCode_zero i.op
 by_cases hc : qCode i.op ≠ 0
 ·have := hz.1 hc
  rw [if_pos hc]
  have e1 : decide (i.op < 48) = true := by rw [decide_eq_true_eq]; omega
  have e2 : decide (i.op = 27 ∨ (32 ≤ i.op ∧ i.op ≤ 37) ∨ i.op = 40 ∨ (48 ≤ i.op ∧ i.op ≤ 51)) = false := by rw [decide_eq_false_iff_not]; omega
  rw [e1, e2]; rfl
 ·have hn : ¬ ((1 ≤ i.op ∧ i.op ≤ 12) ∨ (16 ≤ i.op ∧ i.op ≤ 22)) := fun h => hc (hz.2 h)
  rw [if_neg hc]
  by_cases h1 : i.op = 41 ∨ (23 ≤ i.op ∧ i.op ≤ 26)
  ·rw [if_pos h1]
   have e1 : decide (i.op < 48) = true := by rw [decide_eq_true_eq]; omega
   have e2 : decide (i.op = 27 ∨ (32 ≤ i.op ∧ i.op ≤ 37) ∨ i.op = 40 ∨ (48 ≤ i.op ∧ i.op ≤ 51)) = false := by rw [decide_eq_false_iff_not]; omega
   rw [e1, e2]; rfl
  ·rw [if_neg h1]
   have e3 : (!decide (i.op < 48) || decide (i.op = 27 ∨ (32 ≤ i.op ∧ i.op ≤ 37) ∨ i.op = 40 ∨ (48 ≤ i.op ∧ i.op ≤ 51))) = true := by
    by_cases h48 : i.op < 48
    ·have e2 : decide (i.op = 27 ∨ (32 ≤ i.op ∧ i.op ≤ 37) ∨ i.op = 40 ∨ (48 ≤ i.op ∧ i.op ≤ 51)) = true := by rw [decide_eq_true_eq]; omega
     rw [e2]; simp
    ·have e1 : decide (i.op < 48) = false := by rw [decide_eq_false_iff_not]; exact h48
     rw [e1]; rfl
   rw [e3]
   repeat' split
   all_goals rfl
theorem tail_none (a : Int) : (qTail ⟨0, 0, 0, 0, 0⟩ a).isSome = true := rfl
end Go.Proofs.YtnhdcclpjildjaaGreat
namespace Go.Proofs.YtnhdcclpjildjaaGreat
open Go.RowKit

def putR (p : Int) : List Int → List Int → Bool → Option (List Int)
 | [], out, done => some (if done = true then out else out ++ [p])
 | x :: r, out, done => if x = p then none else if done = false ∧ p < x then putR p r (out ++ [p, x]) true else putR p r (out ++ [x]) done
theorem putR_done {p : Int} : ∀ {r out : List Int}, (∀ x ∈ r, p < x) → putR p r out true = some (out ++ r)
 | [], out, _ => by simp [putR]
 | x :: r, out, h => by
  have h1 := h x (by simp)
  unfold putR
  rw [if_neg (by omega), if_neg (by simp), putR_done fun y hy => h y (by simp [hy])]
  simp
theorem putP_skip {x p : Int} {l : List Int} (h1 : ¬ x = p) (h2 : ¬ p < x) : putP (x :: l) p = x :: putP l p := by
 show (if x = p then x :: l else if p < x then p :: x :: l else x :: putP l p) = _
 rw [if_neg h1, if_neg h2]
theorem putR_open {p : Int} : ∀ {r out : List Int}, Inc r → putR p r out false = if p ∈ r then none else some (out ++ putP r p)
 | [], out, _ => by simp [putR, putP]
 | x :: r, out, h => by
  unfold Inc at h
  rw [List.pairwise_cons] at h
  unfold putR
  by_cases hx : x = p
  ·subst hx
   rw [if_pos rfl, if_pos (by simp)]
  ·rw [if_neg hx]
   by_cases hlt : p < x
   ·have hn : ¬ p ∈ x :: r := fun hm => by
     rcases List.mem_cons.1 hm with rfl | hm
     ·omega
     ·have := h.1 p hm; omega
    rw [if_pos ⟨rfl, hlt⟩, if_neg hn, putR_done fun y hy => Int.lt_trans hlt (h.1 y hy)]
    unfold putP
    rw [if_neg hx, if_pos hlt]
    simp
   ·rw [if_neg (fun hh => hlt hh.2), putR_open h.2]
    by_cases hm : p ∈ r
    ·rw [if_pos hm, if_pos (List.mem_cons_of_mem _ hm)]
    ·have hn : ¬ p ∈ x :: r := fun hh => by
      rcases List.mem_cons.1 hh with hh | hh
      ·exact hx hh.symm
      ·exact hm hh
     rw [if_neg hm, if_neg hn, putP_skip hx hlt]
     simp
theorem putP_mem {p : Int} : ∀ {l : List Int}, Inc l → p ∈ l → putP l p = l
 | [], _, h => by cases h
 | x :: l, hi, h => by
  unfold Inc at hi
  rw [List.pairwise_cons] at hi
  unfold putP
  by_cases hx : x = p
  ·rw [if_pos hx]
  ·have hm : p ∈ l := (List.mem_cons.1 h).resolve_left fun e => hx e.symm
   have := hi.1 p hm
   rw [if_neg hx, if_neg (by omega), putP_mem hi.2 hm]
theorem putR_is {p : Int} {l : List Int} (h : Inc l) : (putR p l [] false).getD l = putP l p := by
 rw [putR_open h]
 split
 ·rename_i hm; exact (putP_mem h hm).symm
 ·rfl
theorem liftAts_length (pc : Int) (m : Nat) : (liftAts pc m).length = m := by simp [liftAts]
def goesQ (F : Int → Option QI) (a : Int) : Bool := match F a with | none => false | some i => simpleQ i.op && !endsQ i.op
theorem goes_iff {F : Int → Option QI} (hF : ∀ a i, F a = some i → (qForm i.op).is = true) (a : Int) : (qTail (qAt F a) a).isSome = !goesQ F a := by
 unfold goesQ qAt
 cases h : F a with
 | none => exact tail_none a
 | some i =>
  show (qTail i a).isSome = !(simpleQ i.op && !endsQ i.op)
  rw [tail_iff (hF a i h)]
  cases simpleQ i.op <;> cases endsQ i.op <;> rfl
def refLen (F : Int → Option QI) (pc : Int) (n : Nat) : Nat → Nat → Nat
 | 0, k => k
 | fuel + 1, k => if goesQ F (qAddr pc k) = false ∨ k + 1 = n then k + 1 else refLen F pc n fuel (k + 1)
theorem refLen_is {F : Int → Option QI} (hF : ∀ a i, F a = some i → (qForm i.op).is = true) (pc : Int) (n : Nat) : ∀ fuel k : Nat, refLen F pc n fuel k = liftLen F pc n fuel k
 | 0, k => rfl
 | fuel + 1, k => by
  rw [liftLen_succ]
  show (if goesQ F (qAddr pc k) = false ∨ k + 1 = n then k + 1 else refLen F pc n fuel (k + 1)) = _
  have hg := goes_iff hF (qAddr pc k)
  cases hq : qTail (qAt F (qAddr pc k)) (qAddr pc k) with
  | some t =>
   rw [hq] at hg
   have : goesQ F (qAddr pc k) = false := by cases hb : goesQ F (qAddr pc k) with | false => rfl | true => rw [hb] at hg; cases hg
   rw [if_pos (Or.inl this)]
  | none =>
   rw [hq] at hg
   have hb : goesQ F (qAddr pc k) = true := by cases hb : goesQ F (qAddr pc k) with | true => rfl | false => rw [hb] at hg; cases hg
   by_cases hkn : k + 1 = n
   ·simp only [if_pos hkn]
    rw [if_pos (Or.inr hkn)]
   ·simp only [if_neg hkn]
    rw [if_neg (fun h => h.elim (fun h => by rw [hb] at h; cases h) hkn)]
    exact refLen_is hF pc n fuel (k + 1)
end Go.Proofs.YtnhdcclpjildjaaGreat
namespace Go.Proofs.YtnhdcclpjildjaaGreat
open Go.RowKit
section
variable (P : Program) (W : World) (G : Gs) (N : Nd)
end
section
variable {P : Program} {W : World} {G : Gs} {N : Nd} {ops : Array Oper} {l : List Oper}
end
section
variable (P : Program) (W : World) (G : Gs) (N : Nd) {α : Type}
end
section
variable {P : Program} {W : World} {G : Gs} {N : Nd} {ops : Array Oper} {l : List Oper} {α : Type}
end
theorem rel_anew {w0 : World} {G : Gs} {S : List Ow} {r : Env} {w : World} (h : Rel w0 G S r w) (hc : cellsS S = true) : ∃ gs : List Nat, gs.length = S.length ∧ (∀ i, r.blk i = gs[i]?) ∧ Rel w ⟨gs, []⟩ S r w := by
 have hblk : ∀ i, i < S.length → ∃ b, r.blk i = some b := fun i hi => by
  have ho := h.own i _ (List.getElem?_eq_getElem hi)
  have hm : (match S[i] with | .cells _ _ => true | _ => false) = true := by
   unfold cellsS at hc
   exact List.all_eq_true.1 hc _ (List.getElem_mem hi)
  cases hs : S[i] with
  | cells t l => rw [hs] at ho; obtain ⟨b, us, e, _⟩ := ho; exact ⟨b, e⟩
  | row => rw [hs] at hm; cases hm
  | ext => rw [hs] at hm; cases hm
  | view => rw [hs] at hm; cases hm
  | gone => rw [hs] at hm; cases hm
 have hgs : ∀ i, r.blk i = ((List.range S.length).map fun i => (r.blk i).getD 0)[i]? := fun i => by
  rcases Nat.lt_or_ge i S.length with h1 | h1
  ·obtain ⟨b, hb⟩ := hblk i h1
   rw [List.getElem?_map, List.getElem?_range h1, hb]; simp [hb]
  ·rw [h.outB i h1, List.getElem?_eq_none (by simpa using h1)]
 refine ⟨(List.range S.length).map fun i => (r.blk i).getD 0, by simp, hgs, rel_base h (fun i g hg => by rw [hgs i]; exact hg) fun i b hb => .inl ?_⟩
 rw [hgs i] at hb
 exact List.mem_of_getElem? hb
theorem satq_anew {P : Program} {w0 : World} {G : Gs} {N : Nd} {d : Code} {f : Fr} {S : List Ow} {Q : Exit → Act → World → Prop} (S2 : List Ow) (ks : List Nat) (hS : RLe S (fun i => ks.getD i 0) S2 ks) (hb : sbnd S2.length S2 = true) (hi : injB S ks = true) (hG : idB G.fix.length ks 0 = true) (hGl : Nat.ble G.fix.length S2.length = true) (hc : cellsS S2 = true)
  (h : ∀ r w (gs : List Nat), Rel w0 G S r w → gs.length = S2.length → (∀ i, i < S2.length → r.blk (ks.getD i 0) = gs[i]?) → (∀ e f S, AtQ w0 G N e f S Q → AtQ w ⟨gs, []⟩ N e f S Q) → ∃ f2, (∀ a r2, (∀ i, r2.blk i = gs[i]?) → FDen r f a → FDen r2 f2 a) ∧ SatQ P w ⟨gs, []⟩ N d f2 S2 Q) : SatQ P w0 G N d f S Q :=
 ⟨fun a w ⟨r, hR, hf, hN, hd⟩ => by
  have h1 := rel_ren hR ks hS hb hi hG hGl
  obtain ⟨gs, hl, hgs, hR2⟩ := rel_anew h1 hc
  have hback : ∀ e f S, AtQ w0 G N e f S Q → AtQ w ⟨gs, []⟩ N e f S Q := fun e f' S' hq => ⟨fun a' w' ⟨r', hR', hf', hN', hd'⟩ =>
   hq.out a' w' ⟨r', rel_back h1 hR' (fun b hb => by
    rcases hb with hb | hb
    ·obtain ⟨i, hi⟩ := List.getElem?_of_mem hb
     exact ⟨i, by rw [hgs i]; exact hi⟩
    ·cases hb) (fun i g hg => by rw [← hgs i]; exact h1.first i g hg), hf', hN', hd'⟩⟩
  obtain ⟨f2, hf2, hsat⟩ := h r w gs hR hl (fun i hi => by rw [← hgs i, comp_blk hi]) hback
  exact hsat.out a w ⟨_, hR2, hf2 a _ hgs hf, hN, hd⟩⟩
theorem unflat {w : World} {G : Gs} {b off : Nat} {xs : List Value} (h : CellsAt w G.flat b off xs) : CellsAt w G b off xs := ⟨h.1, fun hm => h.2.1 (flat_mem.2 hm), h.2.2⟩
theorem anew_cells {w0 w : World} {G : Gs} {S S2 : List Ow} {r : Env} {gs ks : List Nat} (hR : Rel w0 G S r w) (hl : gs.length = S2.length) (hgs : ∀ i, i < S2.length → r.blk (ks.getD i 0) = gs[i]?) (hk : ks.length = S2.length) (j : Nat) {t : TypeId} {us : List Value} (hj : S[j]? = some (.cells t (us.map .v))) (hn : memB j ks = false) :
  ∃ b, r.blk j = some b ∧ ∀ (off : Nat) (xs : List Value), (∀ (k : Nat) (u : Value), xs[k]? = some u → us[off + k]? = some u) → CellsAt w (Gs.flat ⟨gs, []⟩) b off xs := by
 obtain ⟨b, vs, e1, e2, e3⟩ := hR.own j _ hj
 obtain rfl := denL_vals_inv e3
 refine ⟨b, e1, fun off xs hx => ⟨(hR.new j b e1).1, fun hm => ?_, fun k u hu => by simp [World.cell?, e2, hx k u hu]⟩⟩
 rcases hm with hm | hm
 ·cases hm
 ·have hm : b ∈ gs := by simpa [Gs.flat] using hm
  obtain ⟨i, hi⟩ := List.getElem?_of_mem hm
  have hil : i < S2.length := by
   rw [← hl]
   rcases Nat.lt_or_ge i gs.length with h1 | h1
   ·exact h1
   ·rw [List.getElem?_eq_none h1] at hi; cases hi
  have := hgs i hil
  rw [hi] at this
  have hji := hR.inj _ _ b this e1
  have hmem : j ∈ ks := by
   rw [← hji, List.getD_eq_getElem?_getD, List.getElem?_eq_getElem (by omega)]
   exact List.getElem_mem _
  rw [memB_of hmem] at hn
  cases hn
theorem slot_plain {r r2 : Env} {f : Fr} {a : Act} (hf : FDen r f a) (d : Nat) {i off b : Nat} (h : f.get d = .p (.c (.ref i off))) (hb : r.blk i = some b) : AV.den r2 (one (.pointer (some ⟨b, off, none⟩))) (a.tmps.getD d undef) := by
 have := hf d
 rw [h] at this
 obtain ⟨b', hb', hu⟩ := den_ref this
 rw [hb] at hb'; injection hb' with hb'; subst hb'
 rw [hu]; exact den_one _ _
end Go.Proofs.YtnhdcclpjildjaaGreat
namespace Go.Proofs.YtnhdcclpjildjaaGreat
open Go.RowKit

set_option maxRecDepth 100000 in
theorem mem_code (M : MemP) (n p : Nat) (a : Int) (w : World) (g : Nat) (gs : List Nat) (hU : ObjsAt w (g :: gs) (memS 0 n p M)) (hM : M.ok n p) (ha : word a) (hlt : a < (n : Int)) :
  Calls Tryz.prog 81 #[.pointer (some ⟨g, 0, none⟩), .int .u32 a] w fun e w' => e = .returned (.int .u8 (M.code a)) ∧ ObjsAt w' (g :: gs) (memS 0 n p M) ∧ GrownBys w w' (g :: gs) := by
 obtain ⟨g0, g1, g2, g3, g4, g5, hg⟩ := six_blocks hU
 injection hg with hg0 hgs
 subst hgs; subst hg0
 have hw : 0 ≤ a ∧ a < 4294967296 := ha
 obtain ⟨y, hy⟩ : ∃ y, M.image[a.toNat]? = some y := ⟨_, List.getElem?_eq_getElem (by rw [hM.li]; omega)⟩
 have hget : (List.map CV.v M.iV)[a.toNat]? = some (.v (byteV (M.code a))) := by
  unfold MemP.code; rw [hy]; exact tail_at hy
 refine calls_objs [.p (.c (.ref 0 0)), one (.int .u32 a)] [.pointer (some ⟨g, 0, none⟩), .int .u32 a] Tryz.func81 Tryz.ntmps81 rfl (by simp) hU ⟨_, _, rfl, den_mk_ref rfl, avdenL_of [.int .u32 a]⟩ ?_
 conv => whnf
 refine call_memR (pre := []) (suf := [one (.int .u32 a)]) 0 n p M (.bool (decide (a < (n : Int)))) (fun i hi => by rw [Nat.zero_add]) rfl rfl (by kernel_rfl) (fun w' g gs hk hU => mem_in M n p a w' g gs hU hM ha) ?_
 conv => whnf
 refine ⟨fun hc => absurd hc (by simp; omega), fun _ => ?_⟩
 conv => whnf
 refine ⟨fun hc => absurd hc (by decide), fun _ => ?_⟩
 conv => whnf
 refine ⟨⟨by omega, by omega⟩, ?_⟩
 conv => whnf
 rw [show (List.map CV.v M.iV)[0 + a.toNat * tsz Tryz.prog 5]? = some (.v (byteV (M.code a))) by show (List.map CV.v M.iV)[0 + a.toNat * 1]? = _; rw [Nat.zero_add, Nat.mul_one]; exact hget]
 conv => whnf
 exact fin_objs rfl rfl (fun i o h => h) (memS_ob n p M) fun w' h1 h2 => ⟨rfl, h1, h2⟩
end Go.Proofs.YtnhdcclpjildjaaGreat
namespace Go.Proofs.YtnhdcclpjildjaaGreat
open Go.RowKit

theorem renL_vals (σ : Nat → Nat) : ∀ us : List Value, renL σ (us.map CV.v) = us.map CV.v
 | [] => rfl
 | u :: us => by simp only [List.map_cons, renL, CV.ren, renL_vals σ us]
def envNew (r : Env) (n : Nat) (gs : List Nat) : Env := ⟨fun i => if i < n then r.blk i else gs[i - n]?, r.val⟩
theorem Rel.newObjs {w0 : World} {G : Gs} {S U V : List Ow} {r : Env} {w w' : World} {gs : List Nat} (hR : Rel w0 G S r w) (h : NewObjs w w' gs U) (hsh : ShAll S.length U V) (hob : ObAll U.length U) : Rel w0 G (S ++ V) (envNew r S.length gs) w' ∧ r.le (envNew r S.length gs) := by
 have hVl := hsh.length
 have hUl := h.at_.len
 have hfrom : ∀ i b, i < U.length → (envOf gs).blk i = some b → (envNew r S.length gs).blk (S.length + i) = some b := fun i b _ hb => by
  show (if S.length + i < S.length then _ else gs[S.length + i - S.length]?) = some b
  rw [if_neg (by omega), show S.length + i - S.length = i by omega]; exact hb
 refine hR.snocs h.below V (envNew r S.length gs) (fun i hi => ⟨if_pos hi, rfl⟩) (fun i x hi hx => ?_) (fun i j x hi hj hx hy => ?_) (fun i hi => ?_) (fun j o hj => ?_)
 ·have hx : (if i < S.length then r.blk i else gs[i - S.length]?) = some x := hx
  rw [if_neg (by omega)] at hx
  have hm := List.mem_of_getElem? hx
  exact ⟨h.fresh x hm, h.at_.lt x hm⟩
 ·have hx : (if i < S.length then r.blk i else gs[i - S.length]?) = some x := hx
  have hy : (if j < S.length then r.blk j else gs[j - S.length]?) = some x := hy
  rw [if_neg (by omega)] at hx hy
  have := h.at_.nodup _ _ x hx hy
  omega
 ·have hlt : ¬ i < S.length := by omega
  refine ⟨?_, hR.outV i (by omega)⟩
  show (if i < S.length then r.blk i else gs[i - S.length]?) = none
  rw [if_neg hlt, List.getElem?_eq_none (by omega)]
 ·obtain ⟨o', h1, h2⟩ := hsh.get' j hj
  have h3 := h.at_.own j o' h1
  have h4 := hob o' (List.mem_of_getElem? h1)
  have hjl : j < U.length := by
   rcases Nat.lt_or_ge j U.length with h5 | h5
   ·exact h5
   ·rw [List.getElem?_eq_none h5] at h1; cases h1
  cases o' with
  | cells t l =>
   cases o with
   | cells t' l' =>
    obtain ⟨rfl, rfl⟩ := h2
    obtain ⟨b, us, e1, e2, e3⟩ := h3
    exact ⟨b, us, hfrom j b hjl e1, e2, sh_denL (n := U.length) hfrom h4 e3⟩
   | row => exact h2.elim
   | ext => exact h2.elim
   | view => exact h2.elim
   | gone => exact h2.elim
  | row => exact h4.elim
  | ext => exact h4.elim
  | view => exact h4.elim
  | gone => exact h4.elim
theorem call_newObjs {P : Program} {w0 : World} {G : Gs} {fid : FuncId} {args : List AV} {xs : List Value} {S : List Ow} {K : AV → List Ow → Prop} (U V : List Ow) (hx : avals args = some xs) (hok : fnOk P fid = true) (hsh : ShAll S.length U V) (hob : ObAll U.length U)
  (h : ∀ r w, Rel w0 G S r w → Calls P fid xs.toArray w fun e w' => ∃ g gs, e = .returned (.pointer (some ⟨g, 0, none⟩)) ∧ NewObjs w w' (g :: gs) U) (hK : K (.p (.c (.ref S.length 0))) (S ++ V)) : CallS P w0 G fid args S K := by
 refine ⟨hok, fun r w us hR hd => ?_⟩
 obtain rfl := avals_den hx hd
 refine (h r w hR).mono fun e w' ⟨g, gs, he, hn⟩ => ?_
 obtain ⟨h1, h2⟩ := hR.newObjs hn hsh hob
 refine ⟨_, _, _, _, he, den_mk_ref ?_, h1, h2, hK⟩
 show (if S.length < S.length then r.blk S.length else (g :: gs)[S.length - S.length]?) = some g
 rw [if_neg (by omega), Nat.sub_self]; rfl
theorem fin_newObjs {w0 : World} {S : List Ow} {R : Ending → World → Prop} (k : Nat) (U V : List Ow) (hpos : 0 < U.length) (hS : ∀ i, i < U.length → S[k + i]? = V[i]?) (hsh : ShAll k U V) (hob : ObAll U.length U)
  (h : ∀ w g gs, NewObjs w0 w (g :: gs) U → R (.returned (.pointer (some ⟨g, 0, none⟩))) w) : Fin w0 Gs.nil S (.p (.c (.ref k 0))) R := by
 refine ⟨fun r w u hR hd => ?_⟩
 obtain ⟨g, hg, rfl⟩ := den_ref hd
 have hnew : ∀ i b, r.blk i = some b → w0.heap.size ≤ b := fun i b hb => by
  rcases Nat.lt_or_ge b w0.heap.size with h1 | h1
  ·exact absurd ((hR.new i b hb).2 h1) (by simp)
  ·exact h1
 have hown : ∀ i, i < U.length → ∃ b t l, U[i]? = some (.cells t l) ∧ r.blk (k + i) = some b ∧ ∃ us : List Value, w.heap[b]? = some (.cells us.toArray t (0, 0)) ∧ denL r (l.map (CV.sh k)) us := fun i hi => by
  have hu := List.getElem?_eq_getElem hi
  obtain ⟨o', h1, h2⟩ := hsh.get i hu
  have h3 := hR.own (k + i) o' (by rw [hS i hi, h1])
  have h4 := hob _ (List.getElem_mem hi)
  cases ho : U[i] with
  | cells t l =>
   rw [ho] at h2 hu
   cases o' with
   | cells t' l' =>
    obtain ⟨rfl, rfl⟩ := h2
    obtain ⟨b, us, e1, e2, e3⟩ := h3
    exact ⟨b, t, l, hu, e1, us, e2, e3⟩
   | row => exact h2.elim
   | ext => exact h2.elim
   | view => exact h2.elim
   | gone => exact h2.elim
  | row => rw [ho] at h4; exact h4.elim
  | ext => rw [ho] at h4; exact h4.elim
  | view => rw [ho] at h4; exact h4.elim
  | gone => rw [ho] at h4; exact h4.elim
 obtain ⟨gs, hgl, hgs⟩ : ∃ gs : List Nat, gs.length = U.length ∧ ∀ i, i < U.length → gs[i]? = r.blk (k + i) := by
  refine ⟨(List.range U.length).map fun i => (r.blk (k + i)).getD 0, by simp, fun i hi => ?_⟩
  obtain ⟨b, _, _, _, hb, _⟩ := hown i hi
  rw [List.getElem?_map, List.getElem?_range hi, hb]
  simp [hb]
 have hto : ∀ i b, i < U.length → r.blk (k + i) = some b → (envOf gs).blk i = some b := fun i b hi hb => by
  show gs[i]? = some b
  rw [hgs i hi]; exact hb
 have hin : ∀ (i b : Nat), gs[i]? = some b → i < U.length ∧ r.blk (k + i) = some b := fun i b hb => by
  have hi : i < U.length := by
   rcases Nat.lt_or_ge i U.length with h1 | h1
   ·exact h1
   ·rw [List.getElem?_eq_none (by omega)] at hb; cases hb
  exact ⟨hi, by rw [← hgs i hi]; exact hb⟩
 have hmem : ∀ b, b ∈ gs → ∃ i, i < U.length ∧ r.blk (k + i) = some b := fun b hb => by
  obtain ⟨i, hi⟩ := List.getElem?_of_mem hb
  exact ⟨i, hin i b hi⟩
 have hU : NewObjs w0 w gs U := by
  refine ⟨⟨hgl.symm, fun i j b hi hj => ?_, fun b hb => ?_, fun i o ho => ?_⟩, fun b hb => ?_, hR.toBelow⟩
  ·have := hR.inj _ _ b (hin i b hi).2 (hin j b hj).2
   omega
  ·obtain ⟨i, _, hi⟩ := hmem b hb
   exact (hR.new _ b hi).1
  ·have hi : i < U.length := by
    rcases Nat.lt_or_ge i U.length with h1 | h1
    ·exact h1
    ·rw [List.getElem?_eq_none h1] at ho; cases ho
   obtain ⟨b, t, l, e1, e2, us, e3, e4⟩ := hown i hi
   rw [ho] at e1; injection e1 with e1; subst e1
   exact ⟨b, us, hto i b hi e2, e3, denL_sh (n := U.length) hto (hob _ (List.mem_of_getElem? ho)) e4⟩
  ·obtain ⟨i, _, hi⟩ := hmem b hb
   exact hnew _ b hi
 cases gs with
 | nil => simp at hgl; omega
 | cons g' gs =>
  have := hto 0 g hpos (by simpa using hg)
  have : g' = g := by injection this
  subst this
  exact h w g' gs hU
end Go.Proofs.YtnhdcclpjildjaaGreat
namespace Go.Proofs.YtnhdcclpjildjaaGreat
open Go.RowKit

theorem mem_zero_ok {p : Nat} (hp : p ≤ 4096) : (MemP.zero p).ok (256 * p) p :=
 ⟨List.length_replicate, List.length_replicate, List.length_replicate, List.length_replicate, List.length_replicate, rfl, hp, fun x hx => by rw [List.eq_of_mem_replicate hx]; omega, fun x hx => by rw [List.eq_of_mem_replicate hx]; omega, fun x hx => by rw [List.eq_of_mem_replicate hx]; omega⟩
theorem made_zero (z : Value) (n : Nat) : (madeCells #[z] (n * 1)).toList = List.replicate n z := by
 refine List.ext_getElem? fun i => ?_
 simp only [madeCells, Array.getElem?_toList, Array.getElem?_map, List.getElem?_replicate, Nat.mul_one]
 by_cases h : i < n <;> simp [h, Nat.mod_one]
theorem memS_bnd (n p : Nat) (M : MemP) : sbnd 6 (memS 0 n p M) = true := by
 simp only [sbnd, Ow.bnd, bndL_vals, bndL, CV.bnd]
 rfl
set_option maxRecDepth 100000 in
theorem new_mem (p : Nat) (w : World) (hp : 1 ≤ p ∧ p ≤ 64) :
  Calls Tryz.prog 63 #[.int .i64 (p : Int), .bool false] w fun e w' => ∃ g gs, e = .returned (.pointer (some ⟨g, 0, none⟩)) ∧ NewObjs w w' (g :: gs) (memS 0 (256 * p) p (MemP.zero p)) := by
 obtain ⟨Z, hZ⟩ : ∃ Z : List Value, Z = List.replicate (256 * p) (byteV 0) := ⟨_, rfl⟩
 obtain ⟨Y, hY⟩ : ∃ Y : List Value, Y = List.replicate p (intV 0) := ⟨_, rfl⟩
 obtain ⟨n, hn⟩ : ∃ n, n = 256 * p := ⟨_, rfl⟩
 have hmZ : (madeCells (Value.int .u8 0).cells (n * 1)).toList = Z := by rw [hZ, hn]; exact made_zero _ _
 have hmY : (madeCells (Value.int .i64 0).cells (p * 1)).toList = Y := by rw [hY]; exact made_zero _ _
 have h256 : (256 : Int) * (p : Int) = (n : Int) := by omega
 have hfb : Fr.bnd 4 [(1, one (.bool false)), (5, one (.int .i64 (p : Int))), (6, .p (.c (.ref 3 0)))] = true := rfl
 have hsb : sbnd 4 [.cells 5 (Z.map .v), .cells 5 (Z.map .v), .cells 3 (Y.map .v), .cells 125 [.sl 0 0 n n, .v (.slice none 0 0), .sl 1 0 n n, .v (.slice none 0 0), .sl 2 0 p p, .v (.bool false)]] = true := by
  simp only [sbnd, Ow.bnd, bndL_vals, bndL, CV.bnd]; rfl
 refine calls_satq [.int .i64 (p : Int), .bool false] Tryz.func63 Tryz.ntmps63 rfl (by simp) ?_
 refine satq_seq ?_
 conv => whnf
 refine satq_seq ?_
 conv => whnf
 refine op_min rfl rfl rfl rfl ?_
 rw [if_neg (by omega)]
 conv => whnf
 refine op_max rfl rfl rfl rfl ?_
 rw [if_pos (by omega)]
 conv => whnf
 refine satq_mid (α := Unit) (fun _ => [(1, one (.bool false)), (5, one (.int .i64 (p : Int))), (6, .p (.c (.ref 3 0)))]) (fun _ => [.cells 5 (Z.map .v), .cells 5 (Z.map .v), .cells 3 (Y.map .v), .cells 125 [.sl 0 0 n n, .v (.slice none 0 0), .sl 1 0 n n, .v (.slice none 0 0), .sl 2 0 p p, .v (.bool false)]]) ?_ fun _ => ?_
 ·refine satq_vc ?_
  refine sat_anyG (.q 0 (.q 1 (.q 3 (.q 4 (.q 6 (.q 8 (.alt 2 (.alt 5 (.alt 7 (.q 9 (.alt 10 (.q 11 .done) .no)) .no) (.alt 7 (.alt 5 (.q 9 (.alt 10 (.q 11 .done) .no)) .no) .no)) (.alt 5 (.alt 2 (.alt 7 (.q 9 (.alt 10 (.q 11 .done) .no)) .no) (.alt 7 (.alt 2 (.q 9 (.alt 10 (.q 11 .done) .no)) .no) .no)) (.alt 7 (.alt 2 (.alt 5 (.q 9 (.alt 10 (.q 11 .done) .no)) .no) (.alt 5 (.alt 2 (.q 9 (.alt 10 (.q 11 .done) .no)) .no) .no)) .no))))))))) mixed (by kernel_rfl) (by kernel_rfl) ?_
  conv => whnf
  refine ⟨(n : Int), by rw [h256]; exact wr64 (by omega), ?_⟩
  conv => whnf
  refine ⟨(n : Int), by rw [h256]; exact wr64 (by omega), ?_⟩
  conv => whnf
  refine ⟨?_, ?_, ?_, trivial⟩
  ·conv => whnf
   refine op_makeCells 1 n rfl rfl rfl rfl rfl rfl rfl (by omega) (by show 1 * n ≤ _; omega) (by show n ≤ 9223372036854775807; omega) rfl (xs := Z) hmZ ?_
   conv => whnf
   refine ⟨?_, ?_, trivial⟩
   ·conv => whnf
    refine op_makeCells 1 n rfl rfl rfl rfl rfl rfl rfl (by omega) (by show 1 * n ≤ _; omega) (by show n ≤ 9223372036854775807; omega) rfl (xs := Z) hmZ ?_
    conv => whnf
    refine ⟨?_, trivial⟩
    conv => whnf
    refine op_makeCells 1 p rfl rfl rfl rfl rfl rfl rfl (by omega) (by show 8 * p ≤ _; omega) (by show p ≤ 9223372036854775807; omega) rfl (xs := Y) hmY ?_
    conv => whnf
    refine ⟨?_, trivial⟩
    conv => whnf
    exact atq_mid () (ent_ren [0, 1, 2, 3] (aI rfl (aI rfl (aI rfl trivial))) (aI ((Exists.intro _ (aI rfl (aI rfl (Or.inl (renL_vals _ _).symm))))) (aI ((Exists.intro _ (aI rfl (aI rfl (Or.inl (renL_vals _ _).symm))))) (aI ((Exists.intro _ (aI rfl (aI rfl (Or.inl (renL_vals _ _).symm))))) (aI ((Exists.intro _ (aI rfl sM))) trivial)))) hfb hsb rfl rfl rfl)
   ·conv => whnf
    refine op_makeCells 1 p rfl rfl rfl rfl rfl rfl rfl (by omega) (by show 8 * p ≤ _; omega) (by show p ≤ 9223372036854775807; omega) rfl (xs := Y) hmY ?_
    conv => whnf
    refine ⟨?_, trivial⟩
    conv => whnf
    refine op_makeCells 1 n rfl rfl rfl rfl rfl rfl rfl (by omega) (by show 1 * n ≤ _; omega) (by show n ≤ 9223372036854775807; omega) rfl (xs := Z) hmZ ?_
    conv => whnf
    refine ⟨?_, trivial⟩
    conv => whnf
    exact atq_mid () (ent_ren [0, 2, 1, 3] (aI rfl (aI rfl (aI rfl trivial))) (aI ((Exists.intro _ (aI rfl (aI rfl (Or.inl (renL_vals _ _).symm))))) (aI ((Exists.intro _ (aI rfl (aI rfl (Or.inl (renL_vals _ _).symm))))) (aI ((Exists.intro _ (aI rfl (aI rfl (Or.inl (renL_vals _ _).symm))))) (aI ((Exists.intro _ (aI rfl sM))) trivial)))) hfb hsb rfl rfl rfl)
  ·conv => whnf
   refine op_makeCells 1 n rfl rfl rfl rfl rfl rfl rfl (by omega) (by show 1 * n ≤ _; omega) (by show n ≤ 9223372036854775807; omega) rfl (xs := Z) hmZ ?_
   conv => whnf
   refine ⟨?_, ?_, trivial⟩
   ·conv => whnf
    refine op_makeCells 1 n rfl rfl rfl rfl rfl rfl rfl (by omega) (by show 1 * n ≤ _; omega) (by show n ≤ 9223372036854775807; omega) rfl (xs := Z) hmZ ?_
    conv => whnf
    refine ⟨?_, trivial⟩
    conv => whnf
    refine op_makeCells 1 p rfl rfl rfl rfl rfl rfl rfl (by omega) (by show 8 * p ≤ _; omega) (by show p ≤ 9223372036854775807; omega) rfl (xs := Y) hmY ?_
    conv => whnf
    refine ⟨?_, trivial⟩
    conv => whnf
    exact atq_mid () (ent_ren [1, 0, 2, 3] (aI rfl (aI rfl (aI rfl trivial))) (aI ((Exists.intro _ (aI rfl (aI rfl (Or.inl (renL_vals _ _).symm))))) (aI ((Exists.intro _ (aI rfl (aI rfl (Or.inl (renL_vals _ _).symm))))) (aI ((Exists.intro _ (aI rfl (aI rfl (Or.inl (renL_vals _ _).symm))))) (aI ((Exists.intro _ (aI rfl sM))) trivial)))) hfb hsb rfl rfl rfl)
   ·conv => whnf
    refine op_makeCells 1 p rfl rfl rfl rfl rfl rfl rfl (by omega) (by show 8 * p ≤ _; omega) (by show p ≤ 9223372036854775807; omega) rfl (xs := Y) hmY ?_
    conv => whnf
    refine ⟨?_, trivial⟩
    conv => whnf
    refine op_makeCells 1 n rfl rfl rfl rfl rfl rfl rfl (by omega) (by show 1 * n ≤ _; omega) (by show n ≤ 9223372036854775807; omega) rfl (xs := Z) hmZ ?_
    conv => whnf
    refine ⟨?_, trivial⟩
    conv => whnf
    exact atq_mid () (ent_ren [2, 0, 1, 3] (aI rfl (aI rfl (aI rfl trivial))) (aI ((Exists.intro _ (aI rfl (aI rfl (Or.inl (renL_vals _ _).symm))))) (aI ((Exists.intro _ (aI rfl (aI rfl (Or.inl (renL_vals _ _).symm))))) (aI ((Exists.intro _ (aI rfl (aI rfl (Or.inl (renL_vals _ _).symm))))) (aI ((Exists.intro _ (aI rfl sM))) trivial)))) hfb hsb rfl rfl rfl)
  ·conv => whnf
   refine op_makeCells 1 p rfl rfl rfl rfl rfl rfl rfl (by omega) (by show 8 * p ≤ _; omega) (by show p ≤ 9223372036854775807; omega) rfl (xs := Y) hmY ?_
   conv => whnf
   refine ⟨?_, ?_, trivial⟩
   ·conv => whnf
    refine op_makeCells 1 n rfl rfl rfl rfl rfl rfl rfl (by omega) (by show 1 * n ≤ _; omega) (by show n ≤ 9223372036854775807; omega) rfl (xs := Z) hmZ ?_
    conv => whnf
    refine ⟨?_, trivial⟩
    conv => whnf
    refine op_makeCells 1 n rfl rfl rfl rfl rfl rfl rfl (by omega) (by show 1 * n ≤ _; omega) (by show n ≤ 9223372036854775807; omega) rfl (xs := Z) hmZ ?_
    conv => whnf
    refine ⟨?_, trivial⟩
    conv => whnf
    exact atq_mid () (ent_ren [1, 2, 0, 3] (aI rfl (aI rfl (aI rfl trivial))) (aI ((Exists.intro _ (aI rfl (aI rfl (Or.inl (renL_vals _ _).symm))))) (aI ((Exists.intro _ (aI rfl (aI rfl (Or.inl (renL_vals _ _).symm))))) (aI ((Exists.intro _ (aI rfl (aI rfl (Or.inl (renL_vals _ _).symm))))) (aI ((Exists.intro _ (aI rfl sM))) trivial)))) hfb hsb rfl rfl rfl)
   ·conv => whnf
    refine op_makeCells 1 n rfl rfl rfl rfl rfl rfl rfl (by omega) (by show 1 * n ≤ _; omega) (by show n ≤ 9223372036854775807; omega) rfl (xs := Z) hmZ ?_
    conv => whnf
    refine ⟨?_, trivial⟩
    conv => whnf
    refine op_makeCells 1 n rfl rfl rfl rfl rfl rfl rfl (by omega) (by show 1 * n ≤ _; omega) (by show n ≤ 9223372036854775807; omega) rfl (xs := Z) hmZ ?_
    conv => whnf
    refine ⟨?_, trivial⟩
    conv => whnf
    exact atq_mid () (ent_ren [2, 1, 0, 3] (aI rfl (aI rfl (aI rfl trivial))) (aI ((Exists.intro _ (aI rfl (aI rfl (Or.inl (renL_vals _ _).symm))))) (aI ((Exists.intro _ (aI rfl (aI rfl (Or.inl (renL_vals _ _).symm))))) (aI ((Exists.intro _ (aI rfl (aI rfl (Or.inl (renL_vals _ _).symm))))) (aI ((Exists.intro _ (aI rfl sM))) trivial)))) hfb hsb rfl rfl rfl)
 refine satq_vc ?_
 conv => whnf
 refine ⟨fun _ => ?_, fun h => absurd h (by decide)⟩
 conv => whnf
 refine ⟨(n : Int), by rw [h256]; exact wr64 (by omega), ?_⟩
 conv => whnf
 refine op_makeCells 1 n rfl rfl rfl rfl rfl rfl rfl (by omega) (by show 1 * n ≤ _; omega) (by show n ≤ 9223372036854775807; omega) rfl (xs := Z) hmZ ?_
 conv => whnf
 refine ⟨(n : Int), by rw [h256]; exact wr64 (by omega), ?_⟩
 conv => whnf
 refine op_makeCells 1 n rfl rfl rfl rfl rfl rfl rfl (by omega) (by show 1 * n ≤ _; omega) (by show n ≤ 9223372036854775807; omega) rfl (xs := Z) hmZ ?_
 conv => whnf
 have hd : (MemP.zero p).dV = Z := by rw [hZ]; exact (List.append_nil _).trans List.map_replicate
 have hi : (MemP.zero p).iV = Z := by rw [hZ]; exact (List.append_nil _).trans List.map_replicate
 have hod : (MemP.zero p).odV = Z := by rw [hZ]; exact (List.append_nil _).trans List.map_replicate
 have hoi : (MemP.zero p).oiV = Z := by rw [hZ]; exact (List.append_nil _).trans List.map_replicate
 have hr : (MemP.zero p).rV = Y := by rw [hY]; exact (List.append_nil _).trans List.map_replicate
 rw [← hn]
 refine atq_as (f' := [(4, .p (.c (.ref 0 0)))]) (S' := memS 0 n p (MemP.zero p)) (ent_ren [3, 0, 4, 1, 5, 2] (aI rfl trivial) (aI ((Exists.intro _ (aI rfl sM))) (aI ((Exists.intro _ (aI rfl (aI rfl (Or.inl (by rw [hd]; exact (renL_vals _ _).symm)))))) (aI ((Exists.intro _ (aI rfl (aI rfl (Or.inl (by rw [hi]; exact (renL_vals _ _).symm)))))) (aI ((Exists.intro _ (aI rfl (aI rfl (Or.inl (by rw [hod]; exact (renL_vals _ _).symm)))))) (aI ((Exists.intro _ (aI rfl (aI rfl (Or.inl (by rw [hoi]; exact (renL_vals _ _).symm)))))) (aI ((Exists.intro _ (aI rfl (aI rfl (Or.inl (by rw [hr]; exact (renL_vals _ _).symm)))))) trivial)))))) rfl (memS_bnd n p _) rfl rfl rfl) (atq_ret ?_)
 conv => whnf
 exact fin_newObjs 0 (memS 0 n p (MemP.zero p)) (memS 0 n p (MemP.zero p)) (by simp) (fun i hi => by rw [Nat.zero_add]) (memS_sh 0 n p _) (memS_ob n p _) fun w' g gs h => ⟨g, gs, rfl, h⟩
end Go.Proofs.YtnhdcclpjildjaaGreat
namespace Go.Proofs.YtnhdcclpjildjaaGreat
open Go.RowKit

abbrev varsC (vs : List Int) : List CV := List.map CV.v (u32L vs)
theorem varsC_length {vs : List Int} (h : VarsOk vs) : (varsC vs).length = 28 := by simp [h.len]
theorem zeroC_length : (varsC (List.replicate 28 0)).length = 28 := rfl
theorem beq_len {l : List CV} {n : Nat} (h : l.length = n) : Nat.beq l.length n = true := by rw [h]; exact Nat.beq_refl n
theorem ble_of {l m : List CV} (h : l.length = m.length) : Nat.ble (0 + l.length) m.length = true := Nat.ble_eq_true_of_le (by omega)
theorem var_at {vs : List Int} (h : VarsOk vs) {i : Int} (hi : 0 ≤ i ∧ i < 28) : (varsC vs)[0 + i.toNat * 1]? = some (.v (.int .u32 (getV vs i))) := by
 have hlt : i.toNat < vs.length := by rw [h.len]; omega
 unfold getV
 rw [Nat.zero_add, Nat.mul_one, List.getElem?_map, List.getElem?_map, List.getElem?_eq_getElem hlt]
 rfl
theorem var_ble {vs : List Int} (h : VarsOk vs) {i : Int} (hi : 0 ≤ i ∧ i < 28) (c : CV) : Nat.ble (0 + i.toNat * 1 + [c].length) (varsC vs).length = true := Nat.ble_eq_true_of_le (by rw [varsC_length h]; show 0 + _ * 1 + 1 ≤ 28; omega)
theorem var_ble8 {vs : List Int} (h : VarsOk vs) : Nat.ble (varsC vs).length 8 = false := by rw [varsC_length h]; rfl
theorem var_set (vs : List Int) (i : Int) (x : Int) : setAll (varsC vs) (0 + i.toNat * 1) [.v (.int .u32 x)] = varsC (vs.set i.toNat x) := by
 rw [set_vals, Nat.zero_add, Nat.mul_one]
 show _ = List.map CV.v (List.map (Value.int .u32) (vs.set i.toNat x))
 rw [List.map_set (f := Value.int .u32)]
theorem vars_put {vs : List Int} (h : VarsOk vs) (Z : List CV) (hZ : Z.length = 28) : setAll Z 0 (varsC vs) = varsC vs := setAll_same (by rw [hZ, varsC_length h])
theorem val_tup2 (us : List Value) (x : Value) : (AV.tup [.agg (List.map CV.v us), .c (.v x)]).val = some (.tuple #[.agg us.toArray, x]) := by
 simp only [AV.val, pvalL, Pc.val, valL_vals us, CV.val]
section
variable {P : Program} {w0 : World} {G : Gs} {N : Nd} {f : Fr} {S : List Ow} {Q : Exit → Act → World → Prop}
theorem atq_ret_block {id : Nat} (h : AtQ w0 G N .ret f S Q) : AtQ w0 G N .ret f S (Exit.inBlock id Q) := ⟨fun a w hg => h.out a w hg⟩
theorem atq_ret_mid {α : Type} {T : α → Fr} {U : α → List Ow} (h : AtQ w0 G N .ret f S Q) : AtQ w0 G N .ret f S (MidQ w0 G N T U Q) := ⟨fun a w hg => h.out a w hg⟩
theorem atq_ret_round {α : Type} {T : α → Fr} {U : α → List Ow} {m : α → Nat} {n : Nat} (h : AtQ w0 G N .ret f S Q) : AtQ w0 G N .ret f S (RoundQ w0 G N T U m n Q) := ⟨fun a w hg => h.out a w hg⟩
theorem q_not_nil {K : AV → Prop} {o : Oper} {t t' e : TypeId} {x y : Operand} {i off : Nat} (hop : o.op = .binOp .eql t x y t') (ht : P.underlying t = some (.pointer e)) (hx : f.ev x = .p (.c (.ref i off))) (hy : f.ev y = one (.pointer none)) (hk : K (one (.bool false))) : QRun P w0 G S f o K := by
 refine ⟨_, hk, fun r a hf => ?_⟩
 have h1 := hf.ev x
 have h2 := hf.ev y
 rw [hx] at h1; rw [hy] at h2
 obtain ⟨b, hb, hu⟩ := den_ref h1
 refine ⟨_, den_one _ _, fun w hR => ?_⟩
 have he : (Op.equal t (.pointer (some ⟨b, off, none⟩)) (.pointer none)).run P w = .ok false w := equal_nil ht _ () w
 simp [execOp, hop, hu, den_v h2, eqGuard, binOp, he]
end
end Go.Proofs.YtnhdcclpjildjaaGreat
namespace Go.Proofs.YtnhdcclpjildjaaGreat
open Go.RowKit

set_option maxRecDepth 100000 in
set_option maxHeartbeats 400000 in
theorem rop3 (a b : Int) (w : World) (ha : word a) (hb : word b) :
  Calls Tryz.prog 54 #[.int .i64 3, .int .u32 a, .int .u32 b] w fun e w' => e = .returned (.int .u32 (wordOp 3 a b)) ∧ w = w' := by
 have HA := Lib.hid ha
 have HB := Lib.hid hb
 obtain ⟨g1, g2⟩ := ha
 obtain ⟨g3, g4⟩ := hb
 go_enter Tryz.func54, Tryz.ntmps54
 go_wp2_with (first | (go_at_call 82; refine (signed_ref _ _ (by first | exact HA.out | exact HB.out)).mono ?_; rintro e w' ⟨rfl, rfl⟩) | (go_at_call 83; refine (bit_ref _ _).mono ?_; rintro e w' ⟨rfl, rfl⟩))
 go_ret
 exact ⟨ret_int (by simp [wordOp]), rfl⟩

set_option maxRecDepth 100000 in
set_option maxHeartbeats 400000 in
theorem rop4 (a b : Int) (w : World) (ha : word a) (hb : word b) :
  Calls Tryz.prog 54 #[.int .i64 4, .int .u32 a, .int .u32 b] w fun e w' => e = .returned (.int .u32 (wordOp 4 a b)) ∧ w = w' := by
 have HA := Lib.hid ha
 have HB := Lib.hid hb
 obtain ⟨g1, g2⟩ := ha
 obtain ⟨g3, g4⟩ := hb
 go_enter Tryz.func54, Tryz.ntmps54
 go_wp2_with (first | (go_at_call 82; refine (signed_ref _ _ (by first | exact HA.out | exact HB.out)).mono ?_; rintro e w' ⟨rfl, rfl⟩) | (go_at_call 83; refine (bit_ref _ _).mono ?_; rintro e w' ⟨rfl, rfl⟩))
 go_ret
 exact ⟨ret_int (by simp [wordOp]), rfl⟩

set_option maxRecDepth 100000 in
set_option maxHeartbeats 400000 in
theorem rop5 (a b : Int) (w : World) (ha : word a) (hb : word b) :
  Calls Tryz.prog 54 #[.int .i64 5, .int .u32 a, .int .u32 b] w fun e w' => e = .returned (.int .u32 (wordOp 5 a b)) ∧ w = w' := by
 have HA := Lib.hid ha
 have HB := Lib.hid hb
 obtain ⟨g1, g2⟩ := ha
 obtain ⟨g3, g4⟩ := hb
 go_enter Tryz.func54, Tryz.ntmps54
 go_wp2_with (first | (go_at_call 82; refine (signed_ref _ _ (by first | exact HA.out | exact HB.out)).mono ?_; rintro e w' ⟨rfl, rfl⟩) | (go_at_call 83; refine (bit_ref _ _).mono ?_; rintro e w' ⟨rfl, rfl⟩))
 go_ret
 exact ⟨ret_int (by simp [wordOp]; exact u32_and HA.out HB.out), rfl⟩

set_option maxRecDepth 100000 in
set_option maxHeartbeats 400000 in
theorem rop6 (a b : Int) (w : World) (ha : word a) (hb : word b) :
  Calls Tryz.prog 54 #[.int .i64 6, .int .u32 a, .int .u32 b] w fun e w' => e = .returned (.int .u32 (wordOp 6 a b)) ∧ w = w' := by
 have HA := Lib.hid ha
 have HB := Lib.hid hb
 obtain ⟨g1, g2⟩ := ha
 obtain ⟨g3, g4⟩ := hb
 go_enter Tryz.func54, Tryz.ntmps54
 go_wp2_with (first | (go_at_call 82; refine (signed_ref _ _ (by first | exact HA.out | exact HB.out)).mono ?_; rintro e w' ⟨rfl, rfl⟩) | (go_at_call 83; refine (bit_ref _ _).mono ?_; rintro e w' ⟨rfl, rfl⟩))
 go_ret
 exact ⟨ret_int (by simp [wordOp]; exact u32_or HA.out HB.out), rfl⟩

set_option maxRecDepth 100000 in
set_option maxHeartbeats 400000 in
theorem rop7 (a b : Int) (w : World) (ha : word a) (hb : word b) :
  Calls Tryz.prog 54 #[.int .i64 7, .int .u32 a, .int .u32 b] w fun e w' => e = .returned (.int .u32 (wordOp 7 a b)) ∧ w = w' := by
 have HA := Lib.hid ha
 have HB := Lib.hid hb
 obtain ⟨g1, g2⟩ := ha
 obtain ⟨g3, g4⟩ := hb
 go_enter Tryz.func54, Tryz.ntmps54
 go_wp2_with (first | (go_at_call 82; refine (signed_ref _ _ (by first | exact HA.out | exact HB.out)).mono ?_; rintro e w' ⟨rfl, rfl⟩) | (go_at_call 83; refine (bit_ref _ _).mono ?_; rintro e w' ⟨rfl, rfl⟩))
 go_ret
 exact ⟨ret_int (by simp [wordOp]; exact u32_xor HA.out HB.out), rfl⟩

set_option maxRecDepth 100000 in
set_option maxHeartbeats 400000 in
theorem rop8 (a b : Int) (w : World) (ha : word a) (hb : word b) :
  Calls Tryz.prog 54 #[.int .i64 8, .int .u32 a, .int .u32 b] w fun e w' => e = .returned (.int .u32 (wordOp 8 a b)) ∧ w = w' := by
 have HA := Lib.hid ha
 have HB := Lib.hid hb
 obtain ⟨g1, g2⟩ := ha
 obtain ⟨g3, g4⟩ := hb
 go_enter Tryz.func54, Tryz.ntmps54
 go_wp2_with (first | (go_at_call 82; refine (signed_ref _ _ (by first | exact HA.out | exact HB.out)).mono ?_; rintro e w' ⟨rfl, rfl⟩) | (go_at_call 83; refine (bit_ref _ _).mono ?_; rintro e w' ⟨rfl, rfl⟩))
 go_ret
 exact ⟨ret_int (by simp [wordOp]), rfl⟩

set_option maxRecDepth 100000 in
set_option maxHeartbeats 400000 in
theorem rop9 (a b : Int) (w : World) (ha : word a) (hb : word b) :
  Calls Tryz.prog 54 #[.int .i64 9, .int .u32 a, .int .u32 b] w fun e w' => e = .returned (.int .u32 (wordOp 9 a b)) ∧ w = w' := by
 have HA := Lib.hid ha
 have HB := Lib.hid hb
 obtain ⟨g1, g2⟩ := ha
 obtain ⟨g3, g4⟩ := hb
 go_enter Tryz.func54, Tryz.ntmps54
 go_wp2_with (first | (go_at_call 82; refine (signed_ref _ _ (by first | exact HA.out | exact HB.out)).mono ?_; rintro e w' ⟨rfl, rfl⟩) | (go_at_call 83; refine (bit_ref _ _).mono ?_; rintro e w' ⟨rfl, rfl⟩))
 go_ret
 exact ⟨ret_int (by simp [wordOp]), rfl⟩

set_option maxRecDepth 100000 in
set_option maxHeartbeats 400000 in
theorem rop10 (a b : Int) (w : World) (ha : word a) (hb : word b) :
  Calls Tryz.prog 54 #[.int .i64 10, .int .u32 a, .int .u32 b] w fun e w' => e = .returned (.int .u32 (wordOp 10 a b)) ∧ w = w' := by
 have HA := Lib.hid ha
 have HB := Lib.hid hb
 obtain ⟨g1, g2⟩ := ha
 obtain ⟨g3, g4⟩ := hb
 go_enter Tryz.func54, Tryz.ntmps54
 go_wp2_with (first | (go_at_call 82; refine (signed_ref _ _ (by first | exact HA.out | exact HB.out)).mono ?_; rintro e w' ⟨rfl, rfl⟩) | (go_at_call 83; refine (bit_ref _ _).mono ?_; rintro e w' ⟨rfl, rfl⟩))
 go_ret
 exact ⟨ret_int (by simp [wordOp]), rfl⟩

set_option maxRecDepth 100000 in
set_option maxHeartbeats 400000 in
theorem rop11 (a b : Int) (w : World) (ha : word a) (hb : word b) :
  Calls Tryz.prog 54 #[.int .i64 11, .int .u32 a, .int .u32 b] w fun e w' => e = .returned (.int .u32 (wordOp 11 a b)) ∧ w = w' := by
 have HA := Lib.hid ha
 have HB := Lib.hid hb
 obtain ⟨g1, g2⟩ := ha
 obtain ⟨g3, g4⟩ := hb
 go_enter Tryz.func54, Tryz.ntmps54
 go_wp2_with (first | (go_at_call 82; refine (signed_ref _ _ (by first | exact HA.out | exact HB.out)).mono ?_; rintro e w' ⟨rfl, rfl⟩) | (go_at_call 83; refine (bit_ref _ _).mono ?_; rintro e w' ⟨rfl, rfl⟩))
 go_ret
 exact ⟨ret_int (by simp [wordOp]), rfl⟩

set_option maxRecDepth 100000 in
set_option maxHeartbeats 400000 in
theorem rop12 (a b : Int) (w : World) (ha : word a) (hb : word b) :
  Calls Tryz.prog 54 #[.int .i64 12, .int .u32 a, .int .u32 b] w fun e w' => e = .returned (.int .u32 (wordOp 12 a b)) ∧ w = w' := by
 have HA := Lib.hid ha
 have HB := Lib.hid hb
 obtain ⟨g1, g2⟩ := ha
 obtain ⟨g3, g4⟩ := hb
 by_cases h0 : b = 0
 ·subst h0
  go_enter Tryz.func54, Tryz.ntmps54
  go_wp2
  go_ret
  exact ⟨rfl, rfl⟩
 ·have h1 : 1 ≤ b := by omega
  have e1 : (b == 0) = false := by simp [h0]
  clear h0
  go_enter Tryz.func54, Tryz.ntmps54
  go_wp2
  go_ret
  refine ⟨ret_int ?_, rfl⟩
  rw [show wordOp 12 a b = a / b from by simp [wordOp]; omega]

set_option maxRecDepth 100000 in
set_option maxHeartbeats 400000 in
theorem rop13 (a b : Int) (w : World) (ha : word a) (hb : word b) :
  Calls Tryz.prog 54 #[.int .i64 13, .int .u32 a, .int .u32 b] w fun e w' => e = .returned (.int .u32 (wordOp 13 a b)) ∧ w = w' := by
 have HA := Lib.hid ha
 have HB := Lib.hid hb
 obtain ⟨g1, g2⟩ := ha
 obtain ⟨g3, g4⟩ := hb
 go_enter Tryz.func54, Tryz.ntmps54
 go_wp2_with (first | (go_at_call 82; refine (signed_ref _ _ (by first | exact HA.out | exact HB.out)).mono ?_; rintro e w' ⟨rfl, rfl⟩) | (go_at_call 83; refine (bit_ref _ _).mono ?_; rintro e w' ⟨rfl, rfl⟩))
 go_ret
 exact ⟨ret_int (by simp [wordOp]; rfl), rfl⟩

set_option maxRecDepth 100000 in
set_option maxHeartbeats 400000 in
theorem rop14 (a b : Int) (w : World) (ha : word a) (hb : word b) :
  Calls Tryz.prog 54 #[.int .i64 14, .int .u32 a, .int .u32 b] w fun e w' => e = .returned (.int .u32 (wordOp 14 a b)) ∧ w = w' := by
 have HA := Lib.hid ha
 have HB := Lib.hid hb
 obtain ⟨g1, g2⟩ := ha
 obtain ⟨g3, g4⟩ := hb
 go_enter Tryz.func54, Tryz.ntmps54
 go_wp2_with (first | (go_at_call 82; refine (signed_ref _ _ (by first | exact HA.out | exact HB.out)).mono ?_; rintro e w' ⟨rfl, rfl⟩) | (go_at_call 83; refine (bit_ref _ _).mono ?_; rintro e w' ⟨rfl, rfl⟩))
 go_ret
 exact ⟨ret_int (by simp [wordOp]), rfl⟩

set_option maxRecDepth 100000 in
set_option maxHeartbeats 400000 in
theorem rop15 (a b : Int) (w : World) (ha : word a) (hb : word b) :
  Calls Tryz.prog 54 #[.int .i64 15, .int .u32 a, .int .u32 b] w fun e w' => e = .returned (.int .u32 (wordOp 15 a b)) ∧ w = w' := by
 have HA := Lib.hid ha
 have HB := Lib.hid hb
 obtain ⟨g1, g2⟩ := ha
 obtain ⟨g3, g4⟩ := hb
 have e1 := fun W h => signed_ref a W h
 have e2 := fun W h => signed_ref b W h
 have E1 := Lib.hid e1
 have E2 := Lib.hid e2
 clear e1 e2
 go_enter Tryz.func54, Tryz.ntmps54
 go_wp2_with fail
 refine (E1.out _ HA.out).mono ?_
 rintro e w' ⟨rfl, rfl⟩
 go_wp2_with fail
 refine (E2.out _ HB.out).mono ?_
 rintro e w' ⟨rfl, rfl⟩
 go_wp2_with (first | (go_at_call 82; refine (signed_ref _ _ (by first | exact HA.out | exact HB.out)).mono ?_; rintro e w' ⟨rfl, rfl⟩) | (go_at_call 83; refine (bit_ref _ _).mono ?_; rintro e w' ⟨rfl, rfl⟩))
 go_ret
 exact ⟨ret_int (by simp [wordOp]), rfl⟩

set_option maxRecDepth 100000 in
set_option maxHeartbeats 400000 in
theorem rop_none (c a b : Int) (w : World) (h : isBin c = false) :
  Calls Tryz.prog 54 #[.int .i64 c, .int .u32 a, .int .u32 b] w fun e w' => e = .returned (.int .u32 0) ∧ w = w' := by
 have h' : c < 3 ∨ 15 < c := by simp [isBin] at h; omega
 clear h
 rcases h' with h | h
 all_goals
  go_enter Tryz.func54, Tryz.ntmps54
  go_wp2
  go_ret
  exact ⟨rfl, rfl⟩

theorem op_ref (c a b : Int) (w : World) (ha : word a) (hb : word b) :
  Calls Tryz.prog 54 #[.int .i64 c, .int .u32 a, .int .u32 b] w fun e w' => e = .returned (.int .u32 (wordOp c a b)) ∧ w = w' := by
 by_cases h : isBin c = true
 ·have h' : 3 ≤ c ∧ c ≤ 15 := by simpa [isBin] using h
  rcases (by omega : c = 3 ∨ c = 4 ∨ c = 5 ∨ c = 6 ∨ c = 7 ∨ c = 8 ∨ c = 9 ∨ c = 10 ∨ c = 11 ∨ c = 12 ∨ c = 13 ∨ c = 14 ∨ c = 15) with rfl | rfl | rfl | rfl | rfl | rfl | rfl | rfl | rfl | rfl | rfl | rfl | rfl
  ·exact rop3 a b w ha hb
  ·exact rop4 a b w ha hb
  ·exact rop5 a b w ha hb
  ·exact rop6 a b w ha hb
  ·exact rop7 a b w ha hb
  ·exact rop8 a b w ha hb
  ·exact rop9 a b w ha hb
  ·exact rop10 a b w ha hb
  ·exact rop11 a b w ha hb
  ·exact rop12 a b w ha hb
  ·exact rop13 a b w ha hb
  ·exact rop14 a b w ha hb
  ·exact rop15 a b w ha hb
 ·have h' : isBin c = false := by simpa using h
  have h0 : wordOp c a b = 0 := by
   simp [isBin] at h'
   unfold wordOp
   repeat (rw [if_neg (by omega)])
  rw [h0]
  exact rop_none c a b w h'
end Go.Proofs.YtnhdcclpjildjaaGreat
