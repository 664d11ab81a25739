/- Walks: the program's memory: New. -/
import Derived.Test.YtnhdcclpjildjaaGreatC12
namespace Go.Proofs.YtnhdcclpjildjaaGreat
open Go.RowKit

theorem setAll_in {α : Type} : ∀ (C X Y : List α) (off : Nat), setAll (X ++ Y) (X.length + off) C = X ++ setAll Y off C
 | [], X, Y, off => rfl
 | c :: C, X, Y, off => by
  show setAll ((X ++ Y).set (X.length + off) c) (X.length + off + 1) C = X ++ setAll (Y.set off c) (off + 1) C
  rw [List.set_append_right _ _ (by omega), show X.length + off - X.length = off by omega, show X.length + off + 1 = X.length + (off + 1) by omega]
  exact setAll_in C X _ (off + 1)
abbrev nilV : Value := .pointer none
abbrev newC : List CV := [.ref 2 0, .ref 2 0, .v (.bool false), .v (.bool false), .ref 2 0, .ref 2 0, .v (intV 0)]
abbrev rawV : List Value := [nilV, nilV, .bool false, .bool false, nilV, nilV, intV 0]
def newL (p j : Nat) : List CV := (List.replicate j newC).flatten ++ (List.replicate (p - j) (rawV.map CV.v)).flatten
theorem flat_len {α : Type} (C : List α) : ∀ j : Nat, ((List.replicate j C).flatten).length = j * C.length
 | 0 => by simp
 | j + 1 => by rw [List.replicate_succ, List.flatten_cons, List.length_append, flat_len C j, Nat.succ_mul]; omega
theorem newL_length (p j : Nat) (h : j ≤ p) : (newL p j).length = 7 * p := by
 unfold newL
 rw [List.length_append, flat_len, flat_len]
 show j * 7 + (p - j) * 7 = 7 * p
 omega
theorem newL_succ (p j : Nat) (h : j < p) : setAll (setAll (setAll (newL p j) (7 * j) [.ref 2 0, .v nilV, .v (.bool false), .v (.bool false), .ref 2 0, .v nilV, .v (intV 0)]) (7 * j + 1) [CV.ref 2 0]) (7 * j + 5) [CV.ref 2 0] = newL p (j + 1) := by
 have e1 : newL p j = (List.replicate j newC).flatten ++ (rawV.map CV.v ++ (List.replicate (p - (j + 1)) (rawV.map CV.v)).flatten) := by
  unfold newL
  rw [show p - j = (p - (j + 1)) + 1 by omega, List.replicate_succ, List.flatten_cons]
 have e2 : newL p (j + 1) = (List.replicate j newC).flatten ++ (newC ++ (List.replicate (p - (j + 1)) (rawV.map CV.v)).flatten) := by
  unfold newL
  rw [List.replicate_succ', List.flatten_append, List.flatten_cons, List.flatten_nil, List.append_nil, List.append_assoc]
 have hl : ((List.replicate j newC).flatten).length = 7 * j := by rw [flat_len]; show j * 7 = _; omega
 have step : ∀ (Y C : List CV) (off : Nat), setAll ((List.replicate j newC).flatten ++ Y) (7 * j + off) C = (List.replicate j newC).flatten ++ setAll Y off C := fun Y C off => by rw [← hl]; exact setAll_in C _ Y off
 have s0 := fun Y C => step Y C 0
 rw [Nat.add_zero] at s0
 rw [e1, e2, s0, step, step]
 rfl
def newSlots (p z : Nat) : List Slt := List.replicate p ⟨z, z, false, false, z, z, 0⟩
theorem newL_den {r : Env} {z : Nat} (h : r.blk 2 = some z) : ∀ p, denL r ((List.replicate p newC).flatten) (slotsL (newSlots p z))
 | 0 => by show denL r [] []; rfl
 | p + 1 => by
  unfold newSlots slotsL
  rw [List.replicate_succ, List.flatten_cons, List.replicate_succ, List.flatMap_cons]
  have hz : CV.den r (.ref 2 0) (ptrV z) := by simp only [CV.den]; exact ⟨z, h, rfl⟩
  exact denL_append ⟨_, _, rfl, hz, _, _, rfl, hz, _, _, rfl, rfl, _, _, rfl, rfl, _, _, rfl, hz, _, _, rfl, hz, _, _, rfl, rfl, rfl⟩ (newL_den h p)
theorem raw_made (p : Nat) (z : Array Value) (hz : z.toList = rawV) : (madeCells z (p * 7)).toList = (List.replicate p rawV).flatten := by
 have hs : z = rawV.toArray := by apply Array.ext'; rw [hz]
 subst hs
 have e : ∀ p : Nat, (List.range (p * 7)).map (fun i => (rawV.toArray)[i % 7]!) = (List.replicate p rawV).flatten := by
  intro p
  induction p with
  | zero => rfl
  | succ p ih =>
   rw [Nat.succ_mul, List.range_add, List.map_append, ih, List.map_map, List.replicate_succ', List.flatten_append, List.flatten_cons, List.flatten_nil, List.append_nil]
   congr 1
   have : ∀ i ∈ List.range 7, ((fun i => (rawV.toArray)[i % 7]!) ∘ fun x => p * 7 + x) i = (rawV.toArray)[i]! := by
    intro i hi
    have hi7 : i < 7 := List.mem_range.1 hi
    show (rawV.toArray)[(p * 7 + i) % 7]! = _
    rw [show (p * 7 + i) % 7 = i by omega]
   rw [List.map_congr_left this]
   rfl
 rw [← e p]
 simp only [madeCells, Array.toList_map, Array.toList_range]
 rfl
end Go.Proofs.YtnhdcclpjildjaaGreat
namespace Go.Proofs.YtnhdcclpjildjaaGreat
open Go.RowKit

set_option maxRecDepth 100000 in
theorem fits_qcode (n : Int) (u : Bool) (w : World) : Calls Tryz.prog 135 #[intV n, .bool u] w fun e w' => e = .returned (.bool (regB n u)) ∧ Below w.heap.size w w' := by
 refine calls_valN [intV n, .bool u] Tryz.func135 Tryz.ntmps135 rfl (by simp) ?_
 conv => whnf
 refine ⟨fun h1 => ?_, fun h1 => ?_⟩
 ·conv => whnf
  (repeat ((first | apply k1 | apply k2 | apply k3 | apply k4 | refine k5 (by decide) ?_ | refine k6 (by decide) ?_); conv => whnf))
  cases u with
  | false =>
   conv => whnf
   (repeat ((first | apply k1 | apply k2 | apply k3 | apply k4 | refine k5 (by decide) ?_ | refine k6 (by decide) ?_); conv => whnf))
   refine fin_val rfl fun w' hB => ⟨?_, hB⟩
   have hn : n ≠ 0 := by simpa using h1
   simp [regB, hn]
  | true =>
   conv => whnf
   (repeat ((first | apply k1 | apply k2 | apply k3 | apply k4 | refine k5 (by decide) ?_ | refine k6 (by decide) ?_); conv => whnf))
   generalize hz : decide (n > 0) = z
   have hn : n ≠ 0 := by simpa using h1
   cases z with
   | false =>
    conv => whnf
    (repeat ((first | apply k1 | apply k2 | apply k3 | apply k4 | refine k5 (by decide) ?_ | refine k6 (by decide) ?_); conv => whnf))
    refine fin_val rfl fun w' hB => ⟨?_, hB⟩
    have : ¬ 0 < n := by simpa using hz
    simp [regB, hn, this]
   | true =>
    conv => whnf
    (repeat ((first | apply k1 | apply k2 | apply k3 | apply k4 | refine k5 (by decide) ?_ | refine k6 (by decide) ?_); conv => whnf))
    refine fin_val rfl fun w' hB => ⟨?_, hB⟩
    have : 0 < n := by simpa using hz
    simp [regB, hn, this]
 ·conv => whnf
  (repeat ((first | apply k1 | apply k2 | apply k3 | apply k4 | refine k5 (by decide) ?_ | refine k6 (by decide) ?_); conv => whnf))
  refine fin_val rfl fun w' hB => ⟨?_, hB⟩
  have hn : n = 0 := by simpa using h1
  simp [regB, hn]
theorem shr_zero {n : Int} {b : Nat} (hn : word n) (hb : b = 18 ∨ b = 22) : (n.fdiv (2 ^ (min (b : Int).toNat IntKind.u32.bits)) == 0) = decide (n < 2 ^ b) := by
 have h0 := hn.1
 rcases hb with rfl | rfl
 ·rw [show (2 : Int) ^ (min ((18 : Nat) : Int).toNat IntKind.u32.bits) = 262144 from rfl, show (2 : Int) ^ 18 = 262144 from rfl, Int.fdiv_eq_ediv_of_nonneg _ (by omega)]
  by_cases h : n < 262144
  ·rw [decide_eq_true h]; simp; omega
  ·rw [decide_eq_false h]; simp; omega
 ·rw [show (2 : Int) ^ (min ((22 : Nat) : Int).toNat IntKind.u32.bits) = 4194304 from rfl, show (2 : Int) ^ 22 = 4194304 from rfl, Int.fdiv_eq_ediv_of_nonneg _ (by omega)]
  by_cases h : n < 4194304
  ·rw [decide_eq_true h]; simp; omega
  ·rw [decide_eq_false h]; simp; omega
set_option maxRecDepth 100000 in
set_option maxHeartbeats 1000000 in
theorem imm_walk (f : QForm) (n : Int) (w : World) (hf : FOk f) (hn : word n) : Calls Tryz.prog 136 #[shV f, .int .u32 n] w fun e w' => e = .returned (.bool (immB f n)) ∧ Below w.heap.size w w' := by
 obtain ⟨is, fd, fa, fb, fs, bits, most⟩ := f
 obtain ⟨hb, hm, hs⟩ := hf
 dsimp only at hb hm hs
 have hk : kindF ⟨is, fd, fa, fb, fs, bits, most⟩ = if bits = 0 then 0 else if fs = true then 1 else 2 := rfl
 refine calls_valN [.agg #[.bool is, .bool fd, .bool fa, .bool fb, intV (kindF ⟨is, fd, fa, fb, fs, bits, most⟩), intV bits, .int .u32 most], .int .u32 n] Tryz.func136 Tryz.ntmps136 rfl (by simp) ?_
 rw [hk]
 rcases hb with rfl | hb
 ·rw [if_pos rfl]
  conv => whnf
  (repeat ((first | apply k1 | apply k2 | apply k3 | apply k4 | refine k5 (by decide) ?_ | refine k6 (by decide) ?_); conv => whnf))
  conv => whnf
  exact fin_val rfl fun w' hB => ⟨rfl, hB⟩
 have hb0 : ¬ bits = 0 := by omega
 rw [if_neg hb0]
 cases fs with
 | true =>
  rw [if_pos rfl]
  conv => whnf
  (repeat ((first | apply k1 | apply k2 | apply k3 | apply k4 | refine k5 (by decide) ?_ | refine k6 (by decide) ?_); conv => whnf))
  conv => whnf
  refine call_con rfl (by kernel_rfl) (fun r w' _ => fits_word n bits w' hn hb) ?_
  conv => whnf
  refine fin_val rfl fun w' hB => ⟨?_, hB⟩
  simp [immB, hb0]
 | false =>
  rw [if_neg (by decide)]
  conv => whnf
  (repeat ((first | apply k1 | apply k2 | apply k3 | apply k4 | refine k5 (by decide) ?_ | refine k6 (by decide) ?_); conv => whnf))
  conv => whnf
  refine ⟨fun hc => ?_, fun hc => ?_⟩
  ·conv => whnf
   refine fin_val rfl fun w' hB => ⟨?_, hB⟩
   have : 0 < most := by simpa using hc
   simp [immB, hb0, this]
  ·conv => whnf
   refine ⟨by omega, _, rfl, ?_⟩
   conv => whnf
   refine fin_val rfl fun w' hB => ⟨?_, hB⟩
   have : ¬ 0 < most := by simpa using hc
   rw [shr_zero hn hb]
   simp [immB, hb0, this]
set_option maxRecDepth 100000 in
set_option maxHeartbeats 1000000 in
theorem valid_walk (i : QI) (w : World) (h : 0 ≤ i.op ∧ i.op < 64) (hi : word i.imm) : Calls Tryz.prog 122 #[qiV i] w fun e w' => e = .returned (.bool (validQ i)) ∧ Below w.heap.size w w' := by
 refine calls_valN [qiV i] Tryz.func122 Tryz.ntmps122 rfl (by simp) ?_
 conv => whnf
 refine call_con rfl (by kernel_rfl) (fun r w' _ => of_walk i.op w' h) ?_
 have hf := form_ok i.op
 unfold validQ
 generalize qForm i.op = f at hf
 have hf2 := hf
 obtain ⟨is, fd, fa, fb, fs, bits, most⟩ := f
 dsimp only
 cases is with
 | false =>
  conv => whnf
  (repeat ((first | apply k1 | apply k2 | apply k3 | apply k4 | refine k5 (by decide) ?_ | refine k6 (by decide) ?_); conv => whnf))
  exact fin_val rfl fun w' hB => ⟨rfl, hB⟩
 | true =>
  conv => whnf
  (repeat ((first | apply k1 | apply k2 | apply k3 | apply k4 | refine k5 (by decide) ?_ | refine k6 (by decide) ?_); conv => whnf))
  refine call_con rfl (by kernel_rfl) (fun r w' _ => fits_qcode i.d fd w') ?_
  generalize regB i.d fd = x1
  cases x1 with
  | false =>
   conv => whnf
   (repeat ((first | apply k1 | apply k2 | apply k3 | apply k4 | refine k5 (by decide) ?_ | refine k6 (by decide) ?_); conv => whnf))
   exact fin_val rfl fun w' hB => ⟨rfl, hB⟩
  | true =>
   conv => whnf
   (repeat ((first | apply k1 | apply k2 | apply k3 | apply k4 | refine k5 (by decide) ?_ | refine k6 (by decide) ?_); conv => whnf))
   refine call_con rfl (by kernel_rfl) (fun r w' _ => fits_qcode i.a fa w') ?_
   generalize regB i.a fa = x2
   cases x2 with
   | false =>
    conv => whnf
    (repeat ((first | apply k1 | apply k2 | apply k3 | apply k4 | refine k5 (by decide) ?_ | refine k6 (by decide) ?_); conv => whnf))
    exact fin_val rfl fun w' hB => ⟨rfl, hB⟩
   | true =>
    conv => whnf
    (repeat ((first | apply k1 | apply k2 | apply k3 | apply k4 | refine k5 (by decide) ?_ | refine k6 (by decide) ?_); conv => whnf))
    refine call_con rfl (by kernel_rfl) (fun r w' _ => fits_qcode i.b fb w') ?_
    generalize regB i.b fb = x3
    cases x3 with
    | false =>
     conv => whnf
     (repeat ((first | apply k1 | apply k2 | apply k3 | apply k4 | refine k5 (by decide) ?_ | refine k6 (by decide) ?_); conv => whnf))
     exact fin_val rfl fun w' hB => ⟨rfl, hB⟩
    | true =>
     conv => whnf
     (repeat ((first | apply k1 | apply k2 | apply k3 | apply k4 | refine k5 (by decide) ?_ | refine k6 (by decide) ?_); conv => whnf))
     refine call_con rfl (by kernel_rfl) (fun r w' _ => imm_walk _ i.imm w' hf2 hi) ?_
     conv => whnf
     (repeat ((first | apply k1 | apply k2 | apply k3 | apply k4 | refine k5 (by decide) ?_ | refine k6 (by decide) ?_); conv => whnf))
     exact fin_val rfl fun w' hB => ⟨by simp, hB⟩
set_option maxRecDepth 100000 in
set_option maxHeartbeats 2000000 in
theorem encode_walk (i : QI) (w : World) (h : 0 ≤ i.op ∧ i.op < 64) (hi : word i.imm) : Calls Tryz.prog 117 #[qiV i] w fun e w' => e = .returned (encV (encQ i)) ∧ Below w.heap.size w w' := by
 refine calls_valN [qiV i] Tryz.func117 Tryz.ntmps117 rfl (by simp) ?_
 conv => whnf
 refine call_con rfl (by kernel_rfl) (fun r w' _ => valid_walk i w' h hi) ?_
 unfold encQ
 cases hv : validQ i with
 | false =>
  conv => whnf
  (repeat ((first | apply k1 | apply k2 | apply k3 | apply k4 | refine k5 (by decide) ?_ | refine k6 (by decide) ?_); conv => whnf))
  exact fin_val rfl fun w' hB => ⟨rfl, hB⟩
 | true =>
  obtain ⟨r0, rd, ra, rb⟩ := validQ_range hv
  have hor := enc_or hv hi
  have o1 : orI (i.op * 67108864) (i.d * 4194304) = i.op * 67108864 + i.d * 4194304 := orI_add 26 (by omega) (by omega) (by omega)
  have o2 : orI (i.op * 67108864 + i.d * 4194304) (i.a * 262144) = i.op * 67108864 + i.d * 4194304 + i.a * 262144 := orI_add 22 (by omega) (by omega) (by omega)
  have o3 : orI (i.op * 67108864 + i.d * 4194304 + i.a * 262144) (i.b * 16384) = i.op * 67108864 + i.d * 4194304 + i.a * 262144 + i.b * 16384 := orI_add 18 (by omega) (by omega) (by omega)
  rw [o1, o2, o3] at hor
  conv => whnf
  (repeat ((first | apply k1 | apply k2 | apply k3 | apply k4 | refine k5 (by decide) ?_ | refine k6 (by decide) ?_); conv => whnf))
  conv => whnf
  refine ⟨i.op, by rw [wr32]; omega, ?_⟩
  conv => whnf
  refine ⟨by omega, i.op * 67108864, by rw [wr32]; show i.op * 67108864 % _ = _; omega, ?_⟩
  conv => whnf
  refine ⟨i.d, by rw [wr32]; omega, ?_⟩
  conv => whnf
  refine ⟨by omega, i.d * 4194304, by rw [wr32]; show i.d * 4194304 % _ = _; omega, ?_⟩
  conv => whnf
  refine ⟨_, (u32_or (by unfold word; omega) (by unfold word; omega)).trans o1, ?_⟩
  conv => whnf
  refine ⟨i.a, by rw [wr32]; omega, ?_⟩
  conv => whnf
  refine ⟨by omega, i.a * 262144, by rw [wr32]; show i.a * 262144 % _ = _; omega, ?_⟩
  conv => whnf
  refine ⟨_, (u32_or (by unfold word; omega) (by unfold word; omega)).trans o2, ?_⟩
  conv => whnf
  refine ⟨i.b, by rw [wr32]; omega, ?_⟩
  conv => whnf
  refine ⟨by omega, i.b * 16384, by rw [wr32]; show i.b * 16384 % _ = _; omega, ?_⟩
  conv => whnf
  refine ⟨_, (u32_or (by unfold word; omega) (by unfold word; omega)).trans o3, ?_⟩
  conv => whnf
  refine sat_quiet mixed (by kernel_rfl) ?_
  conv => whnf
  refine q_con rfl (by kernel_rfl) (fun r w' _ => of_walk i.op w' h) ?_
  have hf := form_ok i.op
  generalize qForm i.op = f at hf hor ⊢
  conv => whnf
  have hsh : ∃ m, 0 ≤ (f.bits : Int) ∧ IntKind.u32.wrap (1 * 2 ^ (min (f.bits : Int).toNat IntKind.u32.bits)) = m ∧ m = 2 ^ f.bits := by
   rcases hf.bits with hb | hb | hb <;> rw [hb] <;> exact ⟨_, by omega, rfl, rfl⟩
  obtain ⟨m, s1, s2, s3⟩ := hsh
  refine ⟨s1, m, s2, ?_⟩
  have hm1 : 1 ≤ m ∧ m ≤ 4194304 := by rw [s3]; rcases hf.bits with hb | hb | hb <;> rw [hb] <;> omega
  conv => whnf
  refine ⟨m - 1, by rw [wr32]; omega, ?_⟩
  conv => whnf
  have hand : word (andI i.imm (2 ^ f.bits - 1)) := by
   rw [andI_mod f.bits hi.1]
   rcases hf.bits with hb | hb | hb <;> rw [hb] <;> unfold word <;> omega
  refine ⟨andI i.imm (2 ^ f.bits - 1), by rw [← s3]; exact u32_and hi (by unfold word; omega), ?_⟩
  conv => whnf
  refine ⟨wordQ i, (u32_or (by unfold word; omega) hand).trans hor, ?_⟩
  conv => whnf
  exact fin_val rfl fun w' hB => ⟨rfl, hB⟩
end Go.Proofs.YtnhdcclpjildjaaGreat
namespace Go.Proofs.YtnhdcclpjildjaaGreat
open Go.RowKit

abbrev pV (b : Nat) : Value := .pointer (some ⟨b, 0, none⟩)
theorem owns_below {w w' : World} {e : TypeId} {size n : Nat} {v : Value} {xs : List Value} (h : w.ownsRow 0 e size v n xs) (hB : Below w.heap.size w w') : w'.ownsRow 0 e size v n xs := by
 obtain ⟨h1, h2⟩ := h
 refine ⟨h1, ?_⟩
 rcases h2 with h2 | ⟨g, cap, cur, hv, hg, hh, hr⟩
 ·exact .inl h2
 ·exact .inr ⟨g, cap, cur, hv, hg, (hB.block g (by
   rcases Nat.lt_or_ge g w.heap.size with h3 | h3
   ·exact h3
   ·rw [Array.getElem?_eq_none h3] at hh; cases hh)).trans hh, hr⟩
section
variable {w : World} {g : Nat} {vA vP vO : Value} {l : List BOp}
theorem LiftAt.lt (h : LiftAt w g vA vP vO l) : g < w.heap.size := by
 rcases Nat.lt_or_ge g w.heap.size with h1 | h1
 ·exact h1
 ·have := h.blk; rw [Array.getElem?_eq_none h1] at this; cases this
theorem LiftAt.later {w' : World} (h : LiftAt w g vA vP vO l) (hB : Below w.heap.size w w') : LiftAt w' g vA vP vO l :=
 ⟨(hB.block g h.lt).trans h.blk, owns_below h.row hB, h.far⟩
theorem LiftTo.refl {w' : World} (h : LiftAt w g vA vP vO l) (hB : Below w.heap.size w w') : LiftTo w w' g vA vP vO l :=
 ⟨⟨vO, h.later hB, fun _b hb => .inl hb⟩, hB.os, hB.tape, hB.output, hB.size, fun b hb _ _ => hB.block b hb⟩
theorem LiftTo.later {w1 w2 : World} {l1 : List BOp} (h : LiftTo w w1 g vA vP vO l1) (hB : Below w1.heap.size w1 w2) : LiftTo w w2 g vA vP vO l1 := by
 obtain ⟨vO1, k1, k2⟩ := h.out
 exact ⟨⟨vO1, k1.later hB, k2⟩, hB.os.trans h.os, hB.tape.trans h.tape, hB.output.trans h.output, Nat.le_trans h.size hB.size, fun b hb h1 h2 => (hB.block b (Nat.lt_of_lt_of_le hb h.size)).trans (h.block b hb h1 h2)⟩
theorem LiftTo.early {w1 w2 : World} {l1 : List BOp} (hB : Below w.heap.size w w1) (h : LiftTo w1 w2 g vA vP vO l1) : LiftTo w w2 g vA vP vO l1 := by
 obtain ⟨vO1, k1, k2⟩ := h.out
 exact ⟨⟨vO1, k1, fun b hb => (k2 b hb).imp id fun h2 => Nat.le_trans hB.size h2⟩, h.os.trans hB.os, h.tape.trans hB.tape, h.output.trans hB.output, Nat.le_trans hB.size h.size, fun b hb h1 h2 => (h.block b (Nat.lt_of_lt_of_le hb hB.size) h1 h2).trans (hB.block b hb)⟩
theorem LiftTo.then {w1 w2 : World} {l1 l2 : List BOp} {vO1 : Value} (h : LiftTo w w1 g vA vP vO l1) (hb : ∀ b, vO1.ownBlock = some b → vO.ownBlock = some b ∨ w.heap.size ≤ b) (k : LiftTo w1 w2 g vA vP vO1 l2) : LiftTo w w2 g vA vP vO l2 := by
 obtain ⟨vO2, k1, k2⟩ := k.out
 refine ⟨⟨vO2, k1, fun b hb2 => ?_⟩, k.os.trans h.os, k.tape.trans h.tape, k.output.trans h.output, Nat.le_trans h.size k.size, fun b hlt h1 h2 => ?_⟩
 ·rcases k2 b hb2 with h3 | h3
  ·exact hb b h3
  ·exact .inr (Nat.le_trans h.size h3)
 ·refine (k.block b (Nat.lt_of_lt_of_le hlt h.size) h1 fun e => ?_).trans (h.block b hlt h1 h2)
  rcases hb b e with h3 | h3
  ·exact h2 h3
  ·omega
theorem jmp_add {S : List Ow} {K : Value → World → Prop} (h : LiftAt w g vA vP vO l) (ops : List BOp) (j n : Nat) (hj : S[j]? = some (.cells 45 ((ops.flatMap opC).map .v))) (hn : ops.length = n) (hlen : l.length + n ≤ 1000000000) (hK : ∀ w', LiftTo w w' g vA vP vO (l ++ ops) → K (.tuple #[]) w') :
  Jmp Tryz.prog w Gs.nil 71 [one (pV g), .p (.c (.sl j 0 n n))] S K := by
 refine ⟨by kernel_rfl, fun r w1 us hR hd => ?_⟩
 obtain ⟨u1, l1, rfl, d1, d2⟩ := hd
 obtain rfl := den_v d1
 obtain ⟨u2, l2, rfl, d3, d4⟩ := d2
 obtain rfl : l2 = [] := d4
 obtain ⟨q, hq, rfl⟩ := den_sl d3
 obtain ⟨q', vs, e1, e2, e3⟩ := hR.own j _ hj
 rw [hq] at e1; injection e1 with e1; subst e1
 obtain rfl := denL_vals_inv e3
 have hB := hR.toBelow
 have h1 := h.later hB
 have hqn : w.heap.size ≤ q := by
  rcases Nat.lt_or_ge q w.heap.size with h2 | h2
  ·rcases (hR.new j q hq).2 h2 with h3 | h3 <;> cases h3
  ·exact h2
 have hvlt : ∀ b, vO.ownBlock = some b → b < w.heap.size := fun b hb => (own_new h.row b hb).2
 have hcells : CellsAt w1 (liftG g vO) q 0 (ops.flatMap opC) := by
  refine ⟨(hR.new j q hq).1, ?_, fun i u hi => by simp [World.cell?, e2, hi]⟩
  rintro (h3 | h3)
  ·simp at h3; have := h.lt; omega
  ·simp at h3; have := hvlt q h3; omega
 exact (add_walk h1 ops q n n hcells hn hlen).mono fun e w2 ⟨he, hl⟩ => ⟨_, he, hK w2 (hl.early hB)⟩
set_option maxRecDepth 100000 in
theorem set_walkL (h : LiftAt w g vA vP vO l) (d n : Int) (hlen : l.length ≤ 100000000) :
  Calls Tryz.prog 100 #[pV g, intV d, .int .u32 n] w fun e w' => e = .returned (.tuple #[]) ∧ LiftTo w w' g vA vP vO (l ++ qSet d n) := by
 refine calls_satq [pV g, intV d, .int .u32 n] Tryz.func100 Tryz.ntmps100 rfl (by simp) ?_
 refine satq_seqN ?_
 conv => whnf
 refine satq_cond rfl (fun hc => ?_) (fun hc => ?_)
 ·have hd : ¬ d = 0 := by simpa using hc
  unfold qSet
  rw [if_neg hd]
  refine satq_jump 5 rfl rfl rfl ?_
  conv => whnf
  refine jmp_add h [⟨1, d, 0, 0, n⟩] 0 1 rfl rfl (by omega) fun w1 hl => ?_
  conv => whnf
  refine atq_end ?_
  conv => whnf
  exact fin_val rfl fun w2 hB => ⟨rfl, hl.later hB⟩
 ·have hd : d = 0 := by simpa using hc
  unfold qSet
  rw [if_pos hd, List.append_nil]
  refine satq_skip (atq_end ?_)
  conv => whnf
  exact fin_val rfl fun w2 hB => ⟨rfl, LiftTo.refl h hB⟩
end
end Go.Proofs.YtnhdcclpjildjaaGreat
namespace Go.Proofs.YtnhdcclpjildjaaGreat
open Go.RowKit

theorem slotsL_set : ∀ {l : List Slt} {k : Nat} {s : Slt} (d' : Nat), l[k]? = some s → slotsL (l.set k { s with d := d', od := true }) = ((slotsL l).set (7 * k) (ptrV d')).set (7 * k + 2) (.bool true)
 | [], k, s, d', h => by simp at h
 | x :: l, 0, s, d', h => by
  simp at h; subst h
  rfl
 | x :: l, k + 1, s, d', h => by
  have ih := slotsL_set (l := l) (k := k) d' (by simpa using h)
  show slotL x ++ slotsL (l.set k _) = ((slotL x ++ slotsL l).set (7 * (k + 1)) _).set (7 * (k + 1) + 2) _
  rw [ih, show 7 * (k + 1) = (slotL x).length + 7 * k by show _ = 7 + 7 * k; omega, List.set_append_right _ _ (by omega), show (slotL x).length + 7 * k + 2 = (slotL x).length + (7 * k + 2) by omega, List.set_append_right _ _ (by omega)]
  simp
abbrev keepS (l l' : List Slt) : Prop := l'.length = l.length ∧ ∀ k : Nat, (l'[k]?).map (fun s => (s.r, s.oc)) = (l[k]?).map fun s => (s.r, s.oc)
theorem keepS.refl (l : List Slt) : keepS l l := ⟨rfl, fun _ => rfl⟩
theorem keepS.trans {l l' l2 : List Slt} (h : keepS l l') (k : keepS l' l2) : keepS l l2 := ⟨k.1.trans h.1, fun i => (k.2 i).trans (h.2 i)⟩
theorem cells_type {w : World} {b : Nat} {us vs : List Value} {t t' : TypeId} (h : w.heap[b]? = some (.cells us.toArray t (0, 0))) (k : w.heap[b]? = some (.cells vs.toArray t' (0, 0))) : t = t' := by
 rw [h] at k; injection k with k; injection k
def FrameT (w w' : World) : Prop := ∀ (b : Nat) (us : Array Value) (t : TypeId), w.heap[b]? = some (.cells us t (0, 0)) → t ≠ 168 → t ≠ 166 → w'.heap[b]? = w.heap[b]?
theorem FrameT.of {w w' : World} (h : Below w.heap.size w w') : FrameT w w' := fun b _us _t hb _ _ => h.block b (heap_lt hb)
theorem FrameT.trans {a b c : World} (h : FrameT a b) (k : FrameT b c) : FrameT a c := fun i us t hi h1 h2 => by
 have e := h i us t hi h1 h2
 exact (k i us t (e.trans hi) h1 h2).trans e
theorem FrameT.grown {w w' : World} {g : Nat} {us : Array Value} {t : TypeId} (hg : w.grownBy w' (some g)) (h : w.heap[g]? = some (.cells us t (0, 0))) (ht : t = 168 ∨ t = 166) : FrameT w w' := fun b vs t' hb h1 h2 => hg.block b (heap_lt hb) (by
 intro e
 injection e with e
 subst e
 rw [h] at hb
 injection hb with hb
 injection hb with _ hb
 subst hb
 rcases ht with ht | ht
 ·exact h1 ht
 ·exact h2 ht)
section
variable {w w' : World} {B m sb : Nat} {l : List Slt} {img : Nat → List Int}
theorem wr_mem (h : MemAt2 w B m sb l img) {k : Nat} {s : Slt} (hk : l[k]? = some s) {pg : List Int} (hp : PageAt w s.d pg) {d' : Nat} (hw : WrOk w w' sb (7 * k) s.d s.od (slotsL l) pg d') :
  ∃ l' s', MemAt2 w' B m sb l' img ∧ keepS l l' ∧ l'[k]? = some s' ∧ s'.d = d' ∧ s'.od = true ∧ PageAt w' d' pg ∧ Below B w w' ∧ FrameT w w' := by
 have hsz : B ≤ w.heap.size := Nat.le_of_lt (Nat.lt_of_le_of_lt h.Bm (heap_lt h.hm))
 rcases hw with ⟨ho, rfl, hB⟩ | ⟨ho, hd1, hd2, hs, hg⟩
 ·exact ⟨l, s, h.later hB, keepS.refl l, hk, rfl, ho, hp.later (hB.block _ (heap_lt hp.at_)), hB.mono hsz, FrameT.of hB⟩
 have hkl : k < l.length := by
  rcases Nat.lt_or_ge k l.length with h1 | h1
  ·exact h1
  ·rw [List.getElem?_eq_none h1] at hk; cases hk
 have keep : ∀ {b : Nat} {o : Obj}, w.heap[b]? = some o → b ≠ sb → w'.heap[b]? = w.heap[b]? := fun hb hn => hg.block _ (heap_lt hb) (by simpa using hn)
 have keepP : ∀ {b : Nat} {us : List Int}, PageAt w b us → PageAt w' b us := fun hu => hu.later (keep hu.at_ fun e => by subst e; have := cells_type hu.at_ h.hs; cases this)
 have hpn : PageAt w' d' pg := ⟨hd2, hp.len, hp.byte⟩
 refine ⟨l.set k { s with d := d', od := true }, { s with d := d', od := true }, ⟨?_, ?_, h.Bm, h.Bs, ?_, ?_, ?_⟩, ⟨by simp, fun j => ?_⟩, by rw [List.getElem?_set_self hkl], rfl, rfl, hpn, ?_, FrameT.grown hg h.hs (.inl rfl)⟩
 ·rw [List.length_set, keep h.hm fun e => by subst e; have := cells_type h.hm h.hs; cases this]; exact h.hm
 ·rw [slotsL_set d' hk]; exact hs
 ·intro x hx
  rcases List.mem_or_eq_of_mem_set hx with hx | rfl
  ·obtain ⟨⟨us, hu⟩, hb⟩ := h.dp x hx; exact ⟨⟨us, keepP hu⟩, hb⟩
  ·exact ⟨⟨pg, hpn⟩, Nat.le_trans hsz hd1⟩
 ·intro j x hx
  by_cases hj : j = k
  ·subst hj
   rw [List.getElem?_set_self hkl] at hx
   injection hx with hx; subst hx
   obtain ⟨hu, hb⟩ := h.cp j s hk
   exact ⟨keepP hu, hb⟩
  ·rw [List.getElem?_set_ne (fun e => hj e.symm)] at hx
   obtain ⟨hu, hb⟩ := h.cp j x hx
   exact ⟨keepP hu, hb⟩
 ·have hc : ∀ x ∈ l.set k { s with d := d', od := true }, ∃ y ∈ l, x.c = y.c ∧ (x.od = true → x = y ∨ x.d = d') ∧ x.c < w.heap.size := by
   intro x hx
   rcases List.mem_or_eq_of_mem_set hx with hx | rfl
   ·obtain ⟨j, hj⟩ := List.getElem?_of_mem hx
    exact ⟨x, hx, rfl, fun _ => .inl rfl, heap_lt (h.cp j x hj).1.at_⟩
   ·exact ⟨s, List.mem_of_getElem? hk, rfl, fun _ => .inr rfl, heap_lt (h.cp k s hk).1.at_⟩
  intro x hx y hy hxo
  obtain ⟨x', hx', _, hx2, _⟩ := hc x hx
  obtain ⟨y', hy', hy1, _, hy2⟩ := hc y hy
  rcases hx2 hxo with rfl | hd
  ·rw [hy1]; exact h.sep x hx' y' hy' hxo
  ·omega
 ·rw [List.getElem?_set]
  split
  ·rename_i e; subst e
   rw [hk]; rfl
  ·rfl
 ·exact ⟨hg.os, hg.tape, hg.output, hg.size, fun b hb => hg.block b (Nat.lt_of_lt_of_le hb hsz) (by simp; have := h.Bs; omega)⟩
theorem put_mem (h : MemAt2 w B m sb l img) {k : Nat} {s : Slt} (hk : l[k]? = some s) (ho : s.od = true) {pg : List Int} (hp : PageAt w' s.d pg) (hg : w.grownBy w' (some s.d)) : MemAt2 w' B m sb l img ∧ Below B w w' ∧ FrameT w w' := by
 have hsz : B ≤ w.heap.size := Nat.le_of_lt (Nat.lt_of_le_of_lt h.Bm (heap_lt h.hm))
 obtain ⟨⟨us, hu⟩, hb⟩ := h.dp s (List.mem_of_getElem? hk)
 have keep : ∀ {b : Nat} {o : Obj}, w.heap[b]? = some o → b ≠ s.d → w'.heap[b]? = w.heap[b]? := fun hb hn => hg.block _ (heap_lt hb) (by simpa using hn)
 refine ⟨⟨?_, ?_, h.Bm, h.Bs, fun x hx => ?_, fun j x hx => ?_, h.sep⟩, ⟨hg.os, hg.tape, hg.output, hg.size, fun b hb' => hg.block b (Nat.lt_of_lt_of_le hb' hsz) (by simp; omega)⟩, FrameT.grown hg hu.at_ (.inr rfl)⟩
 ·rw [keep h.hm fun e => by have h1 := h.hm; rw [e] at h1; cases cells_type h1 hu.at_]; exact h.hm
 ·rw [keep h.hs fun e => by have h1 := h.hs; rw [e] at h1; cases cells_type h1 hu.at_]; exact h.hs
 ·obtain ⟨⟨us', hu'⟩, hb'⟩ := h.dp x hx
  by_cases e : x.d = s.d
  ·exact ⟨⟨pg, by rw [e]; exact hp⟩, hb'⟩
  ·exact ⟨⟨us', hu'.later (keep hu'.at_ e)⟩, hb'⟩
 ·obtain ⟨hu', hb'⟩ := h.cp j x hx
  exact ⟨hu'.later (keep hu'.at_ fun e => h.sep s (List.mem_of_getElem? hk) x (List.mem_of_getElem? hx) ho e.symm), hb'⟩
set_option maxRecDepth 100000 in
set_option maxHeartbeats 1000000 in
theorem set_mem {w : World} {B m sb : Nat} {l : List Slt} {img : Nat → List Int} (h : MemAt2 w B m sb l img) (a b : Int) (ha : word a) (hb : 0 ≤ b ∧ b < 256) (h2 : 2 ≤ l.length) :
  Calls Tryz.prog 95 #[ptrV m, .int .u32 a, .int .u8 b] w fun e w' => e = .returned (.tuple #[]) ∧ ∃ l', MemAt2 w' B m sb l' img ∧ keepS l l' ∧ Below B w w' ∧ FrameT w w' := by
 have hw : 0 ≤ a ∧ a < 4294967296 := ha
 have hsz : B ≤ w.heap.size := Nat.le_of_lt (Nat.lt_of_le_of_lt h.Bm (heap_lt h.hm))
 refine calls_satq [ptrV m, .int .u32 a, .int .u8 b] Tryz.func95 Tryz.ntmps95 rfl (by simp) ?_
 refine satq_seqN ?_
 conv => whnf
 refine call_con rfl (by kernel_rfl) (fun r w' hR => at_mem a (by rw [hR.toBelow.block _ (heap_lt h.hm)]; exact h.hm) ha) ?_
 by_cases hlt : a / 256 < (l.length : Int)
 ·obtain ⟨k, hk⟩ : ∃ k : Nat, (a / 256).toNat = k := ⟨_, rfl⟩
  have hkl : k < l.length := by omega
  obtain ⟨s, hs⟩ : ∃ s, l[k]? = some s := ⟨_, List.getElem?_eq_getElem hkl⟩
  obtain ⟨⟨pg, hp⟩, hBd⟩ := h.dp s (List.mem_of_getElem? hs)
  have hat : atV sb l.length a = .pointer (some ⟨sb, 7 * k, none⟩) := by unfold atV; rw [if_pos hlt, hk]; congr 3; omega
  have hoff : 0 ≤ a % 256 ∧ a % 256 < 256 := by omega
  obtain ⟨x, hx⟩ : ∃ x, pg[(a % 256).toNat]? = some x := ⟨_, List.getElem?_eq_getElem (by rw [hp.len]; omega)⟩
  rw [hat]
  conv => whnf
  refine satq_seqN ?_
  conv => whnf
  refine q_nil_v _ rfl rfl rfl rfl ?_
  conv => whnf
  (repeat ((first | apply k1 | apply k2 | apply k3 | apply k4 | refine k5 (by decide) ?_ | refine k6 (by decide) ?_); conv => whnf))
  refine ⟨_, block_cells h.hs (off := 7 * k + 0) (slotsL_get hs rfl), ?_⟩
  conv => whnf
  (repeat ((first | apply k1 | apply k2 | apply k3 | apply k4 | refine k5 (by decide) ?_ | refine k6 (by decide) ?_); conv => whnf))
  refine ⟨by decide, a % 256, Int.tmod_eq_emod_of_nonneg hw.1, ?_⟩
  conv => whnf
  (repeat ((first | apply k1 | apply k2 | apply k3 | apply k4 | refine k5 (by decide) ?_ | refine k6 (by decide) ?_); conv => whnf))
  refine q_index_ptr (size := 1) s.d 0 256 (a % 256) rfl rfl rfl rfl rfl rfl hoff.1 hoff.2 ?_
  conv => whnf
  (repeat ((first | apply k1 | apply k2 | apply k3 | apply k4 | refine k5 (by decide) ?_ | refine k6 (by decide) ?_); conv => whnf))
  refine ⟨_, block_cells hp.at_ (off := 0 + (a % 256).toNat * 1) (x := byteV x) (by rw [Nat.zero_add, Nat.mul_one, List.getElem?_map, hx]; rfl), ?_⟩
  conv => whnf
  (repeat ((first | apply k1 | apply k2 | apply k3 | apply k4 | refine k5 (by decide) ?_ | refine k6 (by decide) ?_); conv => whnf))
  refine ⟨fun hc => ?_, fun hc => ?_⟩
  ·conv => whnf
   refine atq_ret ?_
   conv => whnf
   exact fin_val rfl fun w' hB => ⟨rfl, l, h.later hB, keepS.refl l, hB.mono hsz, FrameT.of hB⟩
  conv => whnf
  refine satq_jump_own 1 rfl rfl rfl ?_
  conv => whnf
  refine jmp_con (fun u w' => ∃ d' l' s', u = ptrV d' ∧ MemAt2 w' B m sb l' img ∧ keepS l l' ∧ l'[k]? = some s' ∧ s'.d = d' ∧ s'.od = true ∧ PageAt w' d' pg ∧ Below B w w' ∧ FrameT w w') rfl (by kernel_rfl) (fun r w1 hR => ?_) (fun u w' hj => ?_)
  ·have hB1 := hR.toBelow
   have h1 := h.later hB1
   have hp1 := hp.later (hB1.block _ (heap_lt hp.at_))
   refine (writable_walk w1 sb (7 * k) s.d s.od (slotsL l) pg h1.hs (by have := slotsL_get (j := 0) hs rfl; exact this) (slotsL_get (j := 2) hs rfl) hp1 (by rw [slotsL_length]; omega)).mono fun e w' ⟨d', he, hwr⟩ => ?_
   obtain ⟨l', s', q1, q2, q3, q4, q5, q6, q7, q8⟩ := wr_mem h1 hs hp1 hwr
   exact ⟨ptrV d', he, d', l', s', rfl, q1, q2, q3, q4, q5, q6, (hB1.mono hsz).trans q7, (FrameT.of hB1).trans q8⟩
  ·obtain ⟨d', l', s', rfl, q1, q2, q3, q4, q5, q6, q7, q8⟩ := hj
   have hlen : (List.map CV.v (pg.map byteV)).length = 256 := by rw [List.length_map, List.length_map, hp.len]
   refine ⟨d', _, pg.map byteV, rfl, q6.at_, ?_⟩
   conv => whnf
   refine ⟨by decide, a % 256, Int.tmod_eq_emod_of_nonneg hw.1, ?_⟩
   conv => whnf
   (refine ⟨⟨by omega, by omega⟩, ?_⟩; (conv=>whnf))
   rw [show Nat.ble (0 + (a % 256).toNat * tsz Tryz.prog 5 + [CV.v (Value.int IntKind.u8 b)].length) (List.map CV.v (pg.map byteV)).length = true from Nat.ble_eq_true_of_le (by rw [hlen]; show 0 + _ * 1 + 1 ≤ 256; omega)]
   conv => whnf
   rw [show Nat.ble (List.map CV.v (pg.map byteV)).length 8 = false from by rw [hlen]; rfl]
   conv => whnf
   refine atq_end ?_
   conv => whnf
   have hset : setAll (List.map CV.v (pg.map byteV)) (0 + (a % 256).toNat * tsz Tryz.prog 5) [CV.v (Value.int IntKind.u8 b)] = List.map CV.v ((pg.set (a % 256).toNat b).map byteV) := by
    rw [set_vals]
    show List.map CV.v ((pg.map byteV).set (0 + (a % 256).toNat * 1) (byteV b)) = _
    rw [Nat.zero_add, Nat.mul_one]; simp only [List.map_set]
   refine fin_own (us := (pg.set (a % 256).toNat b).map byteV) rfl (by rw [hset]; rfl) fun w2 g1 g2 => by
    subst q4
    obtain ⟨z1, z2, z3⟩ := put_mem q1 q3 q5 (pg := pg.set (a % 256).toNat b) ⟨g1, by rw [List.length_set]; exact q6.len, fun y hy => (List.mem_or_eq_of_mem_set hy).elim (q6.byte y) fun e => e ▸ hb⟩ g2
    exact ⟨rfl, l', z1, q2, q7.trans z2, q8.trans z3⟩
 ·have hat : atV sb l.length a = .pointer none := by unfold atV; rw [if_neg hlt]
  rw [hat]
  conv => whnf
  refine satq_seqN ?_
  conv => whnf
  refine q_nil_v _ rfl rfl rfl rfl ?_
  conv => whnf
  (repeat ((first | apply k1 | apply k2 | apply k3 | apply k4 | refine k5 (by decide) ?_ | refine k6 (by decide) ?_); conv => whnf))
  refine atq_ret ?_
  conv => whnf
  exact fin_val rfl fun w' hB => ⟨rfl, l, h.later hB, keepS.refl l, hB.mono hsz, FrameT.of hB⟩
end
end Go.Proofs.YtnhdcclpjildjaaGreat
namespace Go.Proofs.YtnhdcclpjildjaaGreat
open Go.RowKit

theorem newL_zero (p : Nat) : newL p 0 = ((List.replicate p rawV).flatten).map CV.v := by
 unfold newL
 rw [List.replicate_zero, List.flatten_nil, List.nil_append, Nat.sub_zero, List.map_flatten, List.map_replicate]
abbrev zpage : List Int := List.replicate 256 0
theorem zpage_c : List.map CV.v (zpage.map byteV) = (List.replicate 256 (Value.int .u8 0)).map CV.v := by
 rw [List.map_replicate]
set_option maxRecDepth 100000 in
set_option maxHeartbeats 2000000 in
theorem newM_walk (p : Nat) (w : World) (hp : 2 ≤ p ∧ p ≤ 4096) :
  Calls Tryz.prog 66 #[intV (p : Int), .bool false] w fun e w' => ∃ m sb z, e = .returned (ptrV m) ∧ MemAt2 w' w.heap.size m sb (newSlots p z) (fun _ => zpage) ∧ Below w.heap.size w w' := by
 have hmade : (madeCells (Value.agg rawV.toArray).cells (p * 7)).toList = (List.replicate p rawV).flatten := raw_made p _ rfl
 refine calls_satq [intV (p : Int), .bool false] Tryz.func66 Tryz.ntmps66 rfl (by simp) ?_
 refine satq_seqN ?_
 conv => whnf
 refine satq_seqN ?_
 conv => whnf
 refine op_max rfl rfl rfl rfl ?_
 rw [if_neg (by omega)]
 conv => whnf
 refine op_min rfl rfl rfl rfl ?_
 rw [if_neg (by omega)]
 conv => whnf
 refine op_makeCells 7 p rfl rfl rfl rfl rfl rfl rfl (by omega) (by show 48 * p ≤ _; omega) (by show p ≤ 9223372036854775807; omega) rfl hmade ?_
 conv => whnf
 refine satq_seqN ?_
 conv => whnf
 have hS0 : ∀ j, (newL p j).length = 7 * p → True := fun _ _ => trivial
 refine satq_as (f' := [(1, one (.bool false)), (5, .p (.c (.ref 1 0))), (6, .p (.c (.ref 2 0)))]) (S' := [.cells 168 (newL p 0), .cells 163 [.sl 0 0 p p, .v (.bool false)], .cells 166 ((zpage.map byteV).map .v)]) (ent_same rfl (aI rfl (aI rfl (aI rfl trivial))) (aI ((aI rfl (Or.inl (newL_zero p).symm))) (aI sM (aI ((aI rfl (Or.inl (by rw [zpage_c]; kernel_rfl)))) trivial)))) ?_
 refine satq_cut (α := Unit) (fun _ => [(5, .p (.c (.ref 1 0)))]) (fun _ => [.cells 168 (newL p p), .cells 163 [.sl 0 0 p p, .v (.bool false)], .cells 166 ((zpage.map byteV).map .v)]) ?_ fun _ => ?_
 ·conv => whnf
  refine ⟨{ j : Nat // j ≤ p }, fun x => [(1, one (.bool false)), (5, .p (.c (.ref 1 0))), (6, .p (.c (.ref 2 0))), (21, one (intV (p : Int))), (22, one (intV (x.1 : Int)))], fun x => [.cells 168 (newL p x.1), .cells 163 [.sl 0 0 p p, .v (.bool false)], .cells 166 ((zpage.map byteV).map .v)], fun x => p - x.1,
   ⟨⟨0, by omega⟩, ent_same rfl (aI rfl (aI rfl (aI rfl (aI rfl (aI rfl trivial))))) (aI sM (aI sM (aI sM trivial)))⟩, fun x => ?_⟩
  obtain ⟨j, hj⟩ := x
  dsimp only
  have hl := newL_length p j hj
  conv => whnf
  refine ⟨fun hc => ?_, fun hc => ?_⟩
  ·have hlt : j < p := by simp at hc; omega
   have hs := newL_succ p j hlt
   generalize newL p j = L at hl hs ⊢
   conv => whnf
   (refine ⟨⟨by omega, by omega⟩, ?_⟩; (conv=>whnf))
   erw [show Nat.ble (0 + (j : Int).toNat * 7 + 7) L.length = true from Nat.ble_eq_true_of_le (by rw [hl]; omega)]
   conv => whnf
   erw [show Nat.ble L.length 8 = false from by rw [hl]; exact ble_no (by omega)]
   conv => whnf
   (repeat ((first | apply k1 | apply k2 | apply k3 | apply k4 | refine k5 (by decide) ?_ | refine k6 (by decide) ?_); conv => whnf))
   have hl1 : (setAll L (0 + (j : Int).toNat * 7) [CV.ref 2 0, .v nilV, .v (.bool false), .v (.bool false), .ref 2 0, .v nilV, .v (intV 0)]).length = 7 * p := by rw [setAll_length, hl]
   refine sat_anyG (.q 0 (.q 1 (.q 2 (.q 4 (.q 5 (.q 6 (.q 7 (.q 9 (.q 10 (.q 11 (.alt 3 (.alt 8 (.alt 12 (.alt 13 (.alt 14 (.alt 15 (.alt 16 (.alt 17 .done .no) .no) .no) .no) .no) .no) .no) (.alt 8 (.alt 3 (.alt 12 (.alt 13 (.alt 14 (.alt 15 (.alt 16 (.alt 17 .done .no) .no) .no) .no) .no) .no) .no) .no)))))))))))) mixed (by kernel_rfl) (by kernel_rfl) ?_
   conv => whnf
   refine ⟨?_, ?_, trivial⟩
   ·conv => whnf
    refine ⟨?_, trivial⟩
    conv => whnf
    refine ⟨⟨⟨by omega, by omega⟩, ?_⟩, trivial⟩
    conv => whnf
    refine ⟨?_, trivial⟩
    conv => whnf
    refine ⟨?_, trivial⟩
    conv => whnf
    erw [show Nat.ble (0 + (j : Int).toNat * 7 + 1 + 1) (setAll L (0 + (j : Int).toNat * 7) [CV.ref 2 0, .v nilV, .v (.bool false), .v (.bool false), .ref 2 0, .v nilV, .v (intV 0)]).length = true from Nat.ble_eq_true_of_le (by rw [hl1]; omega)]
    conv => whnf
    erw [show Nat.ble (setAll L (0 + (j : Int).toNat * 7) [CV.ref 2 0, .v nilV, .v (.bool false), .v (.bool false), .ref 2 0, .v nilV, .v (intV 0)]).length 8 = false from by rw [hl1]; exact ble_no (by omega)]
    conv => whnf
    refine ⟨⟨⟨by omega, by omega⟩, ?_⟩, trivial⟩
    conv => whnf
    refine ⟨?_, trivial⟩
    conv => whnf
    refine ⟨?_, trivial⟩
    conv => whnf
    have hl2 : (setAll (setAll L (0 + (j : Int).toNat * 7) [CV.ref 2 0, .v nilV, .v (.bool false), .v (.bool false), .ref 2 0, .v nilV, .v (intV 0)]) (0 + (j : Int).toNat * 7 + 1) [CV.ref 2 0]).length = 7 * p := by rw [setAll_length, hl1]
    erw [show Nat.ble (0 + (j : Int).toNat * 7 + 5 + 1) (setAll (setAll L (0 + (j : Int).toNat * 7) [CV.ref 2 0, .v nilV, .v (.bool false), .v (.bool false), .ref 2 0, .v nilV, .v (intV 0)]) (0 + (j : Int).toNat * 7 + 1) [CV.ref 2 0]).length = true from Nat.ble_eq_true_of_le (by rw [hl2]; omega)]
    conv => whnf
    erw [show Nat.ble (setAll (setAll L (0 + (j : Int).toNat * 7) [CV.ref 2 0, .v nilV, .v (.bool false), .v (.bool false), .ref 2 0, .v nilV, .v (intV 0)]) (0 + (j : Int).toNat * 7 + 1) [CV.ref 2 0]).length 8 = false from by rw [hl2]; exact ble_no (by omega)]
    conv => whnf
    refine ⟨((j + 1 : Nat) : Int), by rw [show (j : Int) + 1 = ((j + 1 : Nat) : Int) by omega]; exact wr64 (by omega), ?_⟩
    conv => whnf
    exact ⟨⟨j + 1, by omega⟩, ent_same rfl (aI rfl (aI rfl (aI rfl (aI rfl (aI rfl trivial))))) (aI ((aI rfl (Or.inl (by rw [← hs, show 7 * j = 0 + (j : Int).toNat * 7 by omega]; rfl)))) (aI sM (aI sM trivial))), by show p - (j + 1) < p - j; omega⟩
   ·conv => whnf
    refine ⟨?_, trivial⟩
    conv => whnf
    refine ⟨⟨⟨by omega, by omega⟩, ?_⟩, trivial⟩
    conv => whnf
    refine ⟨?_, trivial⟩
    conv => whnf
    refine ⟨?_, trivial⟩
    conv => whnf
    erw [show Nat.ble (0 + (j : Int).toNat * 7 + 1 + 1) (setAll L (0 + (j : Int).toNat * 7) [CV.ref 2 0, .v nilV, .v (.bool false), .v (.bool false), .ref 2 0, .v nilV, .v (intV 0)]).length = true from Nat.ble_eq_true_of_le (by rw [hl1]; omega)]
    conv => whnf
    erw [show Nat.ble (setAll L (0 + (j : Int).toNat * 7) [CV.ref 2 0, .v nilV, .v (.bool false), .v (.bool false), .ref 2 0, .v nilV, .v (intV 0)]).length 8 = false from by rw [hl1]; exact ble_no (by omega)]
    conv => whnf
    refine ⟨⟨⟨by omega, by omega⟩, ?_⟩, trivial⟩
    conv => whnf
    refine ⟨?_, trivial⟩
    conv => whnf
    refine ⟨?_, trivial⟩
    conv => whnf
    have hl2 : (setAll (setAll L (0 + (j : Int).toNat * 7) [CV.ref 2 0, .v nilV, .v (.bool false), .v (.bool false), .ref 2 0, .v nilV, .v (intV 0)]) (0 + (j : Int).toNat * 7 + 1) [CV.ref 2 0]).length = 7 * p := by rw [setAll_length, hl1]
    erw [show Nat.ble (0 + (j : Int).toNat * 7 + 5 + 1) (setAll (setAll L (0 + (j : Int).toNat * 7) [CV.ref 2 0, .v nilV, .v (.bool false), .v (.bool false), .ref 2 0, .v nilV, .v (intV 0)]) (0 + (j : Int).toNat * 7 + 1) [CV.ref 2 0]).length = true from Nat.ble_eq_true_of_le (by rw [hl2]; omega)]
    conv => whnf
    erw [show Nat.ble (setAll (setAll L (0 + (j : Int).toNat * 7) [CV.ref 2 0, .v nilV, .v (.bool false), .v (.bool false), .ref 2 0, .v nilV, .v (intV 0)]) (0 + (j : Int).toNat * 7 + 1) [CV.ref 2 0]).length 8 = false from by rw [hl2]; exact ble_no (by omega)]
    conv => whnf
    refine ⟨((j + 1 : Nat) : Int), by rw [show (j : Int) + 1 = ((j + 1 : Nat) : Int) by omega]; exact wr64 (by omega), ?_⟩
    conv => whnf
    exact ⟨⟨j + 1, by omega⟩, ent_same rfl (aI rfl (aI rfl (aI rfl (aI rfl (aI rfl trivial))))) (aI ((aI rfl (Or.inl (by rw [← hs, show 7 * j = 0 + (j : Int).toNat * 7 by omega]; rfl)))) (aI sM (aI sM trivial))), by show p - (j + 1) < p - j; omega⟩
  ·have hje : j = p := by simp at hc; omega
   subst hje
   conv => whnf
   refine ⟨_, _, ent_refl, ?_⟩
   conv => whnf
   exact ⟨(), ent_same rfl (aI rfl trivial) (aI sM (aI sM (aI sM trivial)))⟩
 ·refine satq_vcN ?_
  conv => whnf
  refine atq_ret ?_
  conv => whnf
  refine ⟨fun r w' u hR hd => ?_⟩
  obtain ⟨m, hm, rfl⟩ := den_ref hd
  obtain ⟨sb, us, a1, a2, a3⟩ := hR.own 0 _ rfl
  obtain ⟨m', vs, b1, b2, b3⟩ := hR.own 1 _ rfl
  obtain ⟨z, ps, c1, c2, c3⟩ := hR.own 2 _ rfl
  rw [hm] at b1; injection b1 with b1; subst b1
  obtain ⟨v1, l2, rfl, d3, v2, l3, rfl, d4, d5⟩ := b3
  obtain rfl : l3 = [] := d5
  obtain ⟨sb', y1, rfl⟩ := d3
  rw [a1] at y1; injection y1 with y1; subst y1
  obtain rfl : v2 = .bool false := d4
  have hB := hR.toBelow
  have fresh : ∀ {i b : Nat}, r.blk i = some b → w.heap.size ≤ b := fun {i b} hb => by
   rcases Nat.lt_or_ge b w.heap.size with h1 | h1
   ·rcases (hR.new i b hb).2 h1 with h2 | h2 <;> cases h2
   ·exact h1
  have hus : us = slotsL (newSlots p z) := by
   have e1 : newL p p = (List.replicate p newC).flatten := by unfold newL; rw [Nat.sub_self]; simp
   rw [e1] at a3
   refine denL_det (n := 3) (fun c hc => ?_) a3 (newL_den c1 p)
   obtain ⟨L, hL, hcL⟩ := List.mem_flatten.1 hc
   have := List.eq_of_mem_replicate hL
   subst this
   simp only [newC, List.mem_cons, List.not_mem_nil, or_false] at hcL
   rcases hcL with rfl | rfl | rfl | rfl | rfl | rfl | rfl <;> rfl
  have hpage : PageAt w' z zpage := ⟨by rw [c2, denL_vals_inv c3], by simp, fun x hx => by have := List.eq_of_mem_replicate hx; omega⟩
  have hlen : (newSlots p z).length = p := by unfold newSlots; simp
  refine ⟨m, sb, z, rfl, ⟨by rw [hlen]; exact b2, by rw [a2, hus], fresh hm, fresh a1, fun s hs => ?_, fun k s hk => ?_, fun s hs s' hs' ho => ?_⟩, hB⟩
  ·have := List.eq_of_mem_replicate hs
   subst this
   exact ⟨⟨zpage, hpage⟩, fresh c1⟩
  ·have := List.eq_of_mem_replicate (List.mem_of_getElem? hk)
   subst this
   exact ⟨hpage, fresh c1⟩
  ·have := List.eq_of_mem_replicate hs
   subst this
   cases ho
end Go.Proofs.YtnhdcclpjildjaaGreat
namespace Go.Proofs.YtnhdcclpjildjaaGreat
open Go.RowKit

section
variable {P : Program} {w0 : World} {G : Gs} {S : List Ow} {fid : FuncId} {t : TypeId} {us : List Value} {pre : List AV} {ps : List Value} {x : Value}
theorem box_calls (i : Nat) (hi : S[i]? = some (.cells t (us.map .v))) (hx : avals pre = some ps)
  (h : ∀ w b, w.heap[b]? = some (.cells us.toArray t (0, 0)) → Calls P fid (ps ++ [Value.pointer (some ⟨b, 0, none⟩)]).toArray w fun e w' => e = .returned x ∧ Below w.heap.size w w') :
  ∀ r w vs, Rel w0 G S r w → avdenL r (pre ++ [.p (.c (.ref i 0))]) vs → Calls P fid vs.toArray w fun e w' => e = .returned x ∧ Below w.heap.size w w' := by
 intro r w vs hR hd
 obtain ⟨us1, us2, rfl, d1, d2⟩ := avden_append hd
 obtain rfl := avals_den hx d1
 obtain ⟨u1, l1, rfl, d3, d4⟩ := d2
 obtain rfl : l1 = [] := d4
 obtain ⟨b, hb, rfl⟩ := den_ref d3
 obtain ⟨b', us3, e1, e2, e3⟩ := hR.own i _ hi
 rw [hb] at e1; injection e1 with e1; subst e1
 obtain rfl := denL_vals_inv e3
 exact h w b e2
theorem q_box {K : AV → Prop} (i : Nat) (hi : S[i]? = some (.cells t (us.map .v))) (hx : avals pre = some ps) (hok : fnOk P fid = true)
  (h : ∀ w b, w.heap[b]? = some (.cells us.toArray t (0, 0)) → Calls P fid (ps ++ [Value.pointer (some ⟨b, 0, none⟩)]).toArray w fun e w' => e = .returned x ∧ Below w.heap.size w w') (hK : K (AV.of x)) : QCall P w0 G S fid (pre ++ [.p (.c (.ref i 0))]) K :=
 ⟨hok, x, hK, box_calls i hi hx h⟩
end
theorem shr_at {x : Int} (h0 : 0 ≤ x) {k : Int} (hk : k = 22 ∨ k = 18 ∨ k = 14) : x.fdiv (2 ^ (min k.toNat IntKind.u32.bits)) = x / 2 ^ k.toNat ∧ 0 ≤ x / 2 ^ k.toNat := by
 rcases hk with rfl | rfl | rfl
 ·rw [show (min (22 : Int).toNat IntKind.u32.bits) = 22 from rfl, show (22 : Int).toNat = 22 from rfl, Int.fdiv_eq_ediv_of_nonneg _ (by omega)]; exact ⟨rfl, by omega⟩
 ·rw [show (min (18 : Int).toNat IntKind.u32.bits) = 18 from rfl, show (18 : Int).toNat = 18 from rfl, Int.fdiv_eq_ediv_of_nonneg _ (by omega)]; exact ⟨rfl, by omega⟩
 ·rw [show (min (14 : Int).toNat IntKind.u32.bits) = 14 from rfl, show (14 : Int).toNat = 14 from rfl, Int.fdiv_eq_ediv_of_nonneg _ (by omega)]; exact ⟨rfl, by omega⟩
set_option maxRecDepth 100000 in
theorem field_walk (x k : Int) (used : Bool) (w : World) (b : Nat) (hb : w.heap[b]? = some (.cells #[.int .u32 x] 35 (0, 0))) (h0 : 0 ≤ x) (hk : k = 22 ∨ k = 18 ∨ k = 14) :
  Calls Tryz.prog 115 #[.bool used, intV k, .pointer (some ⟨b, 0, none⟩)] w fun e w' => e = .returned (intV (if used = true then x / 2 ^ k.toNat % 16 else 0)) ∧ Below w.heap.size w w' := by
 refine calls_valN [.bool used, intV k, .pointer (some ⟨b, 0, none⟩)] Tryz.func115 Tryz.ntmps115 rfl (by simp) ?_
 cases used with
 | false =>
  conv => whnf
  (repeat ((first | apply k1 | apply k2 | apply k3 | apply k4 | refine k5 (by decide) ?_ | refine k6 (by decide) ?_); conv => whnf))
  exact fin_val rfl fun w' hB => ⟨rfl, hB⟩
 | true =>
  conv => whnf
  (repeat ((first | apply k1 | apply k2 | apply k3 | apply k4 | refine k5 (by decide) ?_ | refine k6 (by decide) ?_); conv => whnf))
  conv => whnf
  have hlt : b < w.heap.size := by
   rcases Nat.lt_or_ge b w.heap.size with h | h
   ·exact h
   ·rw [Array.getElem?_eq_none h] at hb; cases hb
  refine ⟨_, cells_one hlt (by simp) (by simp [World.cell?, hb]; rfl), ?_⟩
  conv => whnf
  obtain ⟨e1, e2⟩ := shr_at h0 hk
  refine ⟨by omega, _, e1, ?_⟩
  conv => whnf
  refine ⟨by decide, x / 2 ^ k.toNat % 16, Int.tmod_eq_emod_of_nonneg e2, ?_⟩
  conv => whnf
  refine ⟨x / 2 ^ k.toNat % 16, wr64 (by omega), ?_⟩
  conv => whnf
  exact fin_val rfl fun w' hB => ⟨rfl, hB⟩
set_option maxRecDepth 100000 in
set_option maxHeartbeats 2000000 in
theorem decode_walk (x : Int) (w : World) (hx : word x) : Calls Tryz.prog 97 #[.int .u32 x] w fun e w' => e = .returned (decV (decQ x)) ∧ Below w.heap.size w w' := by
 have h0 := hx.1
 obtain ⟨q1, q2⟩ := q26 hx
 refine calls_satq [.int .u32 x] Tryz.func97 Tryz.ntmps97 rfl (by simp) ?_
 refine satq_seqN ?_
 conv => whnf
 refine satq_seqN ?_
 conv => whnf
 refine ⟨by decide, x / 67108864, ?_, ?_⟩
 ·show x.fdiv (2 ^ 26) = _
  rw [show (2 : Int) ^ 26 = 67108864 from rfl, Int.fdiv_eq_ediv_of_nonneg _ (by omega)]
 conv => whnf
 refine ⟨x / 67108864, wr64 (by omega), ?_⟩
 conv => whnf
 refine satq_seqN ?_
 conv => whnf
 refine call_con rfl (by kernel_rfl) (fun r w' _ => of_walk (x / 67108864) w' q2) ?_
 have hf := form_ok (x / 67108864)
 have hy : fieldsQ x = fieldsF (qForm (x / 67108864)) x := rfl
 unfold decQ
 rw [hy]
 clear hy
 generalize qForm (x / 67108864) = f at hf ⊢
 obtain ⟨is, fd, fa, fb, fs, bits, most⟩ := f
 obtain ⟨hb, hm, hs⟩ := hf
 dsimp only at hb hm hs
 conv => whnf
 refine satq_seqN ?_
 conv => whnf
 refine satq_seqN ?_
 conv => whnf
 refine sat_tail 13 mixed (by kernel_rfl) ?_
 conv => whnf
 refine q_box (us := [.int .u32 x]) 0 rfl rfl (by kernel_rfl) (fun w b hb => field_walk x 22 fd w b hb h0 (.inl rfl)) ?_
 conv => whnf
 refine q_box (us := [.int .u32 x]) 0 rfl rfl (by kernel_rfl) (fun w b hb => field_walk x 18 fa w b hb h0 (.inr (.inl rfl))) ?_
 conv => whnf
 refine q_box (us := [.int .u32 x]) 0 rfl rfl (by kernel_rfl) (fun w b hb => field_walk x 14 fb w b hb h0 (.inr (.inr rfl))) ?_
 conv => whnf
 refine satq_seqN ?_
 conv => whnf
 refine sat_tail 7 mixed (by kernel_rfl) ?_
 conv => whnf
 have hsh : ∃ m, 0 ≤ (bits : Int) ∧ IntKind.u32.wrap (1 * 2 ^ (min (bits : Int).toNat IntKind.u32.bits)) = m ∧ m = 2 ^ bits := by
  rcases hb with hb | hb | hb <;> rw [hb] <;> exact ⟨_, by omega, rfl, rfl⟩
 obtain ⟨m, s1, s2, s3⟩ := hsh
 refine ⟨s1, m, s2, ?_⟩
 have hm1 : 1 ≤ m ∧ m ≤ 4194304 := by rw [s3]; rcases hb with hb | hb | hb <;> rw [hb] <;> omega
 conv => whnf
 refine ⟨m - 1, by rw [wr32]; omega, ?_⟩
 conv => whnf
 refine ⟨x % 2 ^ bits, by rw [← andI_mod bits h0, ← s3]; exact u32_and hx (by unfold word; omega), ?_⟩
 conv => whnf
 have hwl : word (x % 2 ^ bits) := by rcases hb with hb | hb | hb <;> rw [hb] <;> unfold word <;> omega
 obtain ⟨y, hy⟩ : ∃ y, fieldsF ⟨is, fd, fa, fb, fs, bits, most⟩ x = y := ⟨_, rfl⟩
 rw [hy]
 have hyop : y.op = x / 67108864 := by rw [← hy]; rfl
 have hk : kindF ⟨is, fd, fa, fb, fs, bits, most⟩ = if fs = true then 1 else if bits = 0 then 0 else 2 := by
  cases fs <;> rcases hb with rfl | rfl | rfl <;> simp [kindF] at hs ⊢
 have hyw : word y.imm := by
  rw [← hy]
  unfold fieldsF
  dsimp only
  split
  ·rename_i h; exact sgnW_w _ (by rcases hb with hb | hb | hb; · exact absurd (hs h).1 (by omega)
                                  · exact .inr (.inl hb)
                                  · exact .inr (.inr hb))
  ·exact hwl
 have hcell : (fieldsF ⟨is, fd, fa, fb, fs, bits, most⟩ x) = ⟨x / 67108864, if fd = true then x / 2 ^ (22 : Int).toNat % 16 else 0, if fa = true then x / 2 ^ (18 : Int).toNat % 16 else 0, if fb = true then x / 2 ^ (14 : Int).toNat % 16 else 0, if fs = true then sgnW (x % 2 ^ bits) bits else x % 2 ^ bits⟩ := rfl
 refine satq_cut (α := Unit) (fun _ => [(1, .p (.c (.ref 0 0))), (2, .p (.c (.ref 1 0))), (4, .p (.c (.ref 2 0)))]) (fun _ => [.cells 35 ([Value.int .u32 x].map .v), .cells 62 ((qiL QI.zero).map .v), .cells 62 ((qiL y).map .v)]) ?_ fun _ => ?_
 ·conv => whnf
  rw [hk]
  cases fs with
  | false =>
   rw [if_neg (by decide)]
   refine ⟨fun hc => absurd hc (by split <;> simp), fun _ => ?_⟩
   conv => whnf
   refine ⟨(), ent_drop (aI rfl (aI rfl (aI rfl trivial))) (aI sM (aI sM (aI ((aI rfl (Or.inl (by rw [← hy]; rfl)))) trivial))) rfl rfl⟩
  | true =>
   rw [if_pos rfl]
   (repeat ((first | apply k1 | apply k2 | apply k3 | apply k4 | refine k5 (by decide) ?_ | refine k6 (by decide) ?_); conv => whnf))
   have hb2 : bits = 18 ∨ bits = 22 := by have := hs rfl; omega
   refine call_con rfl (by kernel_rfl) (fun r w' _ => sign_word (x % 2 ^ bits) bits w' hwl hb2) ?_
   conv => whnf
   refine ⟨(), ent_drop (aI rfl (aI rfl (aI rfl trivial))) (aI sM (aI sM (aI ((aI rfl (Or.inl (by rw [← hy]; rfl)))) trivial))) rfl rfl⟩
 clear hk hcell hs hb hm
 refine satq_seqN ?_
 conv => whnf
 refine call_con (xs := [qiV y]) rfl (by kernel_rfl) (fun r w' _ => encode_walk y w' (by rw [hyop]; exact q2) hyw) ?_
 generalize encQ y = ey
 cases ey with
 | none =>
  conv => whnf
  (repeat ((first | apply k1 | apply k2 | apply k3 | apply k4 | refine k5 (by decide) ?_ | refine k6 (by decide) ?_); conv => whnf))
  conv => whnf
  refine atq_ret ?_
  conv => whnf
  exact fin_val rfl fun w' hB => ⟨by simp [decV, QI.zero], hB⟩
 | some z =>
  conv => whnf
  (repeat ((first | apply k1 | apply k2 | apply k3 | apply k4 | refine k5 (by decide) ?_ | refine k6 (by decide) ?_); conv => whnf))
  conv => whnf
  refine ⟨fun hc => ?_, fun hc => ?_⟩
  ·conv => whnf
   refine atq_ret ?_
   conv => whnf
   refine fin_val rfl fun w' hB => ⟨?_, hB⟩
   have : ¬ z = x := by simpa using hc
   simp [decV, QI.zero, this]
  ·conv => whnf
   refine satq_vcN ?_
   conv => whnf
   refine atq_ret ?_
   conv => whnf
   refine fin_val rfl fun w' hB => ⟨?_, hB⟩
   have : z = x := by simpa using hc
   rw [if_pos (by rw [this])]
   rfl
end Go.Proofs.YtnhdcclpjildjaaGreat
