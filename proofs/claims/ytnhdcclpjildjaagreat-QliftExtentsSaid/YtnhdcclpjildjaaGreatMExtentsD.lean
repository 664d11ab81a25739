/- Walks: the formats of Q's instructions in the reference. -/
import Derived.Test.YtnhdcclpjildjaaGreatC13
import Derived.Test.YtnhdcclpjildjaaGreatMExtentsC
namespace Go.Proofs.YtnhdcclpjildjaaGreat
open Go.RowKit

abbrev formV (f : QForm) : Value := .agg #[.bool f.is, .bool f.d, .bool f.a, .bool f.b, .bool f.signed, intV f.bits, .int .u32 f.most]
set_option maxRecDepth 100000 in
set_option maxHeartbeats 4000000 in
theorem of_ref (op : Int) (w : World) (h : 0 ≤ op ∧ op < 64) : Calls Tryz.prog 51 #[intV op] w fun e w' => e = .returned (formV (qForm op)) ∧ Below w.heap.size w w' := by
 rcases ops64 h with rfl | rfl | rfl | rfl | rfl | rfl | rfl | rfl | rfl | rfl | rfl | rfl | rfl | rfl | rfl | rfl | rfl | rfl | rfl | rfl | rfl | rfl | rfl | rfl | rfl | rfl | rfl | rfl | rfl | rfl | rfl | rfl | rfl | rfl | rfl | rfl | rfl | rfl | rfl | rfl | rfl | rfl | rfl | rfl | rfl | rfl | rfl | rfl | rfl | rfl | rfl | rfl | rfl | rfl | rfl | rfl | rfl | rfl | rfl | rfl | rfl | rfl | rfl | rfl
 all_goals
  refine calls_valN [intV _] Tryz.func51 Tryz.ntmps51 rfl (by simp) ?_
  conv => whnf
  repeat (first | (refine ⟨fun _ => ?_, (fun h => absurd h (by decide))⟩; (conv=>whnf)) | (refine ⟨(fun h => absurd h (by decide)), fun _ => ?_⟩; (conv=>whnf)))
  exact fin_val rfl fun w' hB => ⟨rfl, hB⟩
end Go.Proofs.YtnhdcclpjildjaaGreat
namespace Go.Proofs.YtnhdcclpjildjaaGreat
open Go.RowKit

set_option maxRecDepth 100000 in
theorem reg_ref (n : Int) (u : Bool) (w : World) : Calls Tryz.prog 91 #[intV n, .bool u] w fun e w' => e = .returned (.bool (regB n u)) ∧ Below w.heap.size w w' := by
 refine calls_valN [intV n, .bool u] Tryz.func91 Tryz.ntmps91 rfl (by simp) ?_
 conv => whnf
 refine ⟨fun h1 => ?_, fun h1 => ?_⟩
 ·conv => whnf
  (repeat ((first | apply k1 | apply k2 | apply k3 | apply k4 | refine k5 (by decide) ?_ | refine k6 (by decide) ?_); conv => whnf))
  cases u with
  | false =>
   conv => whnf
   (repeat ((first | apply k1 | apply k2 | apply k3 | apply k4 | refine k5 (by decide) ?_ | refine k6 (by decide) ?_); conv => whnf))
   refine fin_val rfl fun w' hB => ⟨?_, hB⟩
   have hn : n ≠ 0 := by simpa using h1
   simp [regB, hn]
  | true =>
   conv => whnf
   (repeat ((first | apply k1 | apply k2 | apply k3 | apply k4 | refine k5 (by decide) ?_ | refine k6 (by decide) ?_); conv => whnf))
   generalize hz : decide (n > 0) = z
   have hn : n ≠ 0 := by simpa using h1
   cases z with
   | false =>
    conv => whnf
    (repeat ((first | apply k1 | apply k2 | apply k3 | apply k4 | refine k5 (by decide) ?_ | refine k6 (by decide) ?_); conv => whnf))
    refine fin_val rfl fun w' hB => ⟨?_, hB⟩
    have : ¬ 0 < n := by simpa using hz
    simp [regB, hn, this]
   | true =>
    conv => whnf
    (repeat ((first | apply k1 | apply k2 | apply k3 | apply k4 | refine k5 (by decide) ?_ | refine k6 (by decide) ?_); conv => whnf))
    refine fin_val rfl fun w' hB => ⟨?_, hB⟩
    have : 0 < n := by simpa using hz
    simp [regB, hn, this]
 ·conv => whnf
  (repeat ((first | apply k1 | apply k2 | apply k3 | apply k4 | refine k5 (by decide) ?_ | refine k6 (by decide) ?_); conv => whnf))
  refine fin_val rfl fun w' hB => ⟨?_, hB⟩
  have hn : n = 0 := by simpa using h1
  simp [regB, hn]
end Go.Proofs.YtnhdcclpjildjaaGreat
namespace Go.Proofs.YtnhdcclpjildjaaGreat
open Go.RowKit

theorem shl1 {b : Nat} (h : b = 18 ∨ b = 22) : IntKind.u32.wrap (1 * 2 ^ (min (b : Int).toNat IntKind.u32.bits)) = 2 ^ b := by
 rcases h with rfl | rfl <;> rfl
theorem conv64 {b : Nat} (h : b = 18 ∨ b = 22) : IntKind.u64.wrap (b : Int) = (b : Int) := by
 rcases h with rfl | rfl <;> rfl
set_option maxRecDepth 100000 in
set_option maxHeartbeats 1000000 in
theorem valid_ref03 (i : QI) (w : World) (h : 0 ≤ i.op ∧ i.op < 64) (hi : word i.imm) : Calls Tryz.prog 64 #[qiV i] w fun e w' => e = .returned (.bool (validQ i)) ∧ Below w.heap.size w w' := by
 refine calls_valN [qiV i] Tryz.func64 Tryz.ntmps64 rfl (by simp) ?_
 conv => whnf
 refine call_con rfl (by kernel_rfl) (fun r w' _ => of_ref i.op w' h) ?_
 have hf := form_ok i.op
 unfold validQ
 generalize qForm i.op = f at hf
 conv => whnf
 have e1 : ∀ (n : Int) (u : Bool), regB n u = true ∨ regB n u = false := fun n u => by cases regB n u <;> simp
 refine ⟨fun h1 => ?_, fun h1 => ?_⟩
 ·conv => whnf
  refine fin_val rfl fun w' hB => ⟨?_, hB⟩
  have : f.is = false := by simpa using h1
  rw [this]; rfl
 have his : f.is = true := by simpa using h1
 conv => whnf
 refine call_con rfl (by kernel_rfl) (fun r w' _ => reg_ref i.d f.d w') ?_
 conv => whnf
 refine call_con rfl (by kernel_rfl) (fun r w' _ => reg_ref i.a f.a w') ?_
 conv => whnf
 refine call_con rfl (by kernel_rfl) (fun r w' _ => reg_ref i.b f.b w') ?_
 rw [his]
 generalize regB i.d f.d = x1
 generalize regB i.a f.a = x2
 generalize regB i.b f.b = x3
 cases x1 <;> cases x2 <;> cases x3 <;> ((conv=>whnf); (repeat ((first | apply k1 | apply k2 | apply k3 | apply k4 | refine k5 (by decide) ?_ | refine k6 (by decide) ?_); conv => whnf)))
 all_goals first | exact fin_val rfl fun w' hB => ⟨rfl, hB⟩ | skip
 obtain ⟨is, fd, fa, fb, fs, fbits, fmost⟩ := f
 obtain ⟨hb, hm, hs⟩ := hf
 dsimp only at hb hm hs his ⊢
 rcases hb with rfl | hb
 ·(repeat ((first | apply k1 | apply k2 | apply k3 | apply k4 | refine k5 (by decide) ?_ | refine k6 (by decide) ?_); conv => whnf))
  conv => whnf
  exact fin_val rfl fun w' hB => ⟨rfl, hB⟩
 have hb0 : ¬ fbits = 0 := by omega
 refine ⟨fun hc => absurd hc (by simp; omega), fun _ => ?_⟩
 conv => whnf
 cases fs with
 | true =>
  (repeat ((first | apply k1 | apply k2 | apply k3 | apply k4 | refine k5 (by decide) ?_ | refine k6 (by decide) ?_); conv => whnf))
  conv => whnf
  refine call_con rfl (by kernel_rfl) (fun r w' _ => fits_ref i.imm fbits w' hi (.inr hb)) ?_
  conv => whnf
  refine fin_val rfl fun w' hB => ⟨?_, hB⟩
  simp [immB, hb0]
 | false =>
  (repeat ((first | apply k1 | apply k2 | apply k3 | apply k4 | refine k5 (by decide) ?_ | refine k6 (by decide) ?_); conv => whnf))
  conv => whnf
  refine ⟨fun hc => ?_, fun hc => ?_⟩
  ·conv => whnf
   refine fin_val rfl fun w' hB => ⟨?_, hB⟩
   have : 0 < fmost := by simpa using hc
   simp [immB, hb0, this]
  ·conv => whnf
   refine ⟨_, conv64 hb, ?_⟩
   conv => whnf
   refine ⟨by omega, _, shl1 hb, ?_⟩
   conv => whnf
   refine fin_val rfl fun w' hB => ⟨?_, hB⟩
   have : ¬ 0 < fmost := by simpa using hc
   simp [immB, hb0, this]
end Go.Proofs.YtnhdcclpjildjaaGreat
namespace Go.Proofs.YtnhdcclpjildjaaGreat
open Go.RowKit

set_option maxRecDepth 100000 in
set_option maxHeartbeats 1000000 in
theorem encode_ref (i : QI) (w : World) (h : 0 ≤ i.op ∧ i.op < 64) (hi : word i.imm) : Calls Tryz.prog 35 #[qiV i] w fun e w' => e = .returned (encV (encQ i)) ∧ Below w.heap.size w w' := by
 refine calls_valN [qiV i] Tryz.func35 Tryz.ntmps35 rfl (by simp) ?_
 conv => whnf
 refine call_con rfl (by kernel_rfl) (fun r w' _ => valid_ref03 i w' h hi) ?_
 unfold encQ
 cases hv : validQ i with
 | false =>
  conv => whnf
  (repeat ((first | apply k1 | apply k2 | apply k3 | apply k4 | refine k5 (by decide) ?_ | refine k6 (by decide) ?_); conv => whnf))
  exact fin_val rfl fun w' hB => ⟨rfl, hB⟩
 | true =>
  obtain ⟨r0, rd, ra, rb⟩ := validQ_range hv
  conv => whnf
  (repeat ((first | apply k1 | apply k2 | apply k3 | apply k4 | refine k5 (by decide) ?_ | refine k6 (by decide) ?_); conv => whnf))
  conv => whnf
  refine ⟨i.op, by rw [wr32]; omega, ?_⟩
  conv => whnf
  refine ⟨i.op * 67108864, by rw [wr32]; omega, ?_⟩
  conv => whnf
  refine ⟨i.d, by rw [wr32]; omega, ?_⟩
  conv => whnf
  refine ⟨i.d * 4194304, by rw [wr32]; omega, ?_⟩
  conv => whnf
  refine ⟨i.op * 67108864 + i.d * 4194304, by rw [wr32]; omega, ?_⟩
  conv => whnf
  refine ⟨i.a, by rw [wr32]; omega, ?_⟩
  conv => whnf
  refine ⟨i.a * 262144, by rw [wr32]; omega, ?_⟩
  conv => whnf
  refine ⟨i.op * 67108864 + i.d * 4194304 + i.a * 262144, by rw [wr32]; omega, ?_⟩
  conv => whnf
  refine ⟨i.b, by rw [wr32]; omega, ?_⟩
  conv => whnf
  refine ⟨i.b * 16384, by rw [wr32]; omega, ?_⟩
  conv => whnf
  refine ⟨i.op * 67108864 + i.d * 4194304 + i.a * 262144 + i.b * 16384, by rw [wr32]; omega, ?_⟩
  conv => whnf
  refine call_con rfl (by kernel_rfl) (fun r w' _ => of_ref i.op w' h) ?_
  have hw : wordQ i = i.op * 67108864 + i.d * 4194304 + i.a * 262144 + i.b * 16384 + i.imm % 2 ^ (qForm i.op).bits := rfl
  have hword := (decQ_word hv hi).2
  rw [hw] at hword ⊢
  have hf := form_ok i.op
  generalize qForm i.op = f at hf hword ⊢
  conv => whnf
  rcases hf.bits with hb | hb
  ·rw [hb]
   (repeat ((first | apply k1 | apply k2 | apply k3 | apply k4 | refine k5 (by decide) ?_ | refine k6 (by decide) ?_); conv => whnf))
   conv => whnf
   refine fin_val rfl fun w' hB => ⟨?_, hB⟩
   simp [encV]
  ·refine ⟨fun hc => absurd hc (by simp; omega), fun _ => ?_⟩
   conv => whnf
   refine ⟨_, conv64 hb, ?_⟩
   conv => whnf
   refine ⟨by omega, _, shl1 hb, ?_⟩
   conv => whnf
   refine ⟨by rcases hb with hb | hb <;> rw [hb] <;> decide, i.imm % 2 ^ f.bits, Int.tmod_eq_emod_of_nonneg hi.1, ?_⟩
   conv => whnf
   refine ⟨i.op * 67108864 + i.d * 4194304 + i.a * 262144 + i.b * 16384 + i.imm % 2 ^ f.bits, ?_, ?_⟩
   ·rw [wr32]; unfold word at hword; omega
   conv => whnf
   refine fin_val rfl fun w' hB => ⟨?_, hB⟩
   simp [encV]
theorem word_zero : word 0 := by unfold word; omega
theorem fieldsF_is (w : Int) : fieldsF (qForm (w / 67108864)) w = fieldsQ w := rfl
set_option maxRecDepth 100000 in
set_option maxHeartbeats 2000000 in
theorem decode_ref (x : Int) (w : World) (hx : word x) : Calls Tryz.prog 79 #[.int .u32 x] w fun e w' => e = .returned (decV (decQ x)) ∧ Below w.heap.size w w' := by
 have h0 := hx.1
 obtain ⟨q1, q2⟩ := q26 hx
 refine calls_valN [.int .u32 x] Tryz.func79 Tryz.ntmps79 rfl (by simp) ?_
 conv => whnf
 refine ⟨by decide, x / 67108864, by rw [q1, wr32]; omega, ?_⟩
 conv => whnf
 refine ⟨x / 67108864, wr64 (by omega), ?_⟩
 conv => whnf
 refine call_con rfl (by kernel_rfl) (fun r w' _ => of_ref (x / 67108864) w' q2) ?_
 have hf := form_ok (x / 67108864)
 unfold decQ
 rw [← fieldsF_is]
 generalize qForm (x / 67108864) = f at hf ⊢
 obtain ⟨is, fd, fa, fb, fs, bits, most⟩ := f
 obtain ⟨hb, hm, hs⟩ := hf
 dsimp only at hb hm hs
 have fld : ∀ k : Int, 0 < k → x.tdiv k = x / k ∧ (x / k).tmod 16 = x / k % 16 ∧ IntKind.i64.wrap (x / k % 16) = x / k % 16 := fun k hk => by
  have h1 : 0 ≤ x / k := Int.ediv_nonneg h0 (by omega)
  exact ⟨Int.tdiv_eq_ediv_of_nonneg h0, Int.tmod_eq_emod_of_nonneg h1, wr64 (by omega)⟩
 obtain ⟨d1, d2, d3⟩ := fld 4194304 (by omega)
 obtain ⟨a1, a2, a3⟩ := fld 262144 (by omega)
 obtain ⟨b1, b2, b3⟩ := fld 16384 (by omega)
 obtain ⟨y, hy⟩ : ∃ y, fieldsF ⟨is, fd, fa, fb, fs, bits, most⟩ x = y := ⟨_, rfl⟩
 rw [hy]
 have hyop : y.op = x / 67108864 := by rw [← hy]; rfl
 have e0 : x % 2 ^ 0 = 0 := by simp
 cases fd <;> cases fa <;> cases fb <;> ((conv=>whnf); (repeat (first | (refine ⟨fun _ => ?_, nT⟩; (conv=>whnf)) | (refine ⟨nF, fun _ => ?_⟩; (conv=>whnf)) | (refine ⟨by decide, x / 4194304, by rw [d1, wr32]; omega, ?_⟩; (conv=>whnf); refine ⟨by decide, x / 4194304 % 16, d2, ?_⟩; (conv=>whnf); refine ⟨_, d3, ?_⟩; (conv=>whnf)) | (refine ⟨by decide, x / 262144, by rw [a1, wr32]; omega, ?_⟩; (conv=>whnf); refine ⟨by decide, x / 262144 % 16, a2, ?_⟩; (conv=>whnf); refine ⟨_, a3, ?_⟩; (conv=>whnf)) | (refine ⟨by decide, x / 16384, by rw [b1, wr32]; omega, ?_⟩; (conv=>whnf); refine ⟨by decide, x / 16384 % 16, b2, ?_⟩; (conv=>whnf); refine ⟨_, b3, ?_⟩; (conv=>whnf)))))
 all_goals
  rcases hb with rfl | hb
  ·obtain rfl : fs = false := by
    cases fs with
    | false => rfl
    | true => exact absurd (hs rfl).1 (by omega)
   (repeat ((first | apply k1 | apply k2 | apply k3 | apply k4 | refine k5 (by decide) ?_ | refine k6 (by decide) ?_); conv => whnf))
   simp only [fieldsF, e0, eq_self, if_true, Bool.false_eq_true, if_false] at hy
   refine call_con (xs := [qiV y]) (by rw [← hy]; rfl) (by kernel_rfl) (fun r w' _ => encode_ref y w' (by rw [hyop]; exact q2) (by rw [← hy]; exact word_zero)) ?_
   conv => whnf
   generalize encQ y = ey
   cases ey with
   | none =>
    conv => whnf
    (repeat ((first | apply k1 | apply k2 | apply k3 | apply k4 | refine k5 (by decide) ?_ | refine k6 (by decide) ?_); conv => whnf))
    conv => whnf
    exact fin_val rfl fun w' hB => ⟨by simp [decV, QI.zero], hB⟩
   | some z =>
    conv => whnf
    (repeat ((first | apply k1 | apply k2 | apply k3 | apply k4 | refine k5 (by decide) ?_ | refine k6 (by decide) ?_); conv => whnf))
    conv => whnf
    refine ⟨fun hc => ?_, fun hc => ?_⟩
    ·conv => whnf
     refine fin_val rfl fun w' hB => ⟨?_, hB⟩
     have : ¬ z = x := by simpa using hc
     simp [decV, QI.zero, this]
    ·conv => whnf
     refine fin_val rfl fun w' hB => ⟨?_, hB⟩
     have : z = x := by simpa using hc
     rw [if_pos (by rw [this]), ← hy]; rfl
  ·have hlow : 0 ≤ x % 2 ^ bits ∧ x % 2 ^ bits < 4194304 := by rcases hb with hb | hb <;> rw [hb] <;> omega
   refine ⟨fun _ => ?_, fun hc => absurd hc (by simp; omega)⟩
   conv => whnf
   refine ⟨_, conv64 hb, ?_⟩
   conv => whnf
   refine ⟨by omega, _, shl1 hb, ?_⟩
   conv => whnf
   refine ⟨by show (2 : Int) ^ bits ≠ 0; rcases hb with hb | hb <;> rw [hb] <;> decide, x % 2 ^ bits, Int.tmod_eq_emod_of_nonneg h0, ?_⟩
   have hwl : word (x % 2 ^ bits) := ⟨hlow.1, by omega⟩
   conv => whnf
   cases fs with
   | false =>
    (repeat ((first | apply k1 | apply k2 | apply k3 | apply k4 | refine k5 (by decide) ?_ | refine k6 (by decide) ?_); conv => whnf))
    simp only [fieldsF, eq_self, if_true, Bool.false_eq_true, if_false] at hy
    refine call_con (xs := [qiV y]) (by rw [← hy]; rfl) (by kernel_rfl) (fun r w' _ => encode_ref y w' (by rw [hyop]; exact q2) (by rw [← hy]; exact hwl)) ?_
    conv => whnf
    generalize encQ y = ey
    cases ey with
    | none =>
     conv => whnf
     (repeat ((first | apply k1 | apply k2 | apply k3 | apply k4 | refine k5 (by decide) ?_ | refine k6 (by decide) ?_); conv => whnf))
     conv => whnf
     exact fin_val rfl fun w' hB => ⟨by simp [decV, QI.zero], hB⟩
    | some z =>
     conv => whnf
     (repeat ((first | apply k1 | apply k2 | apply k3 | apply k4 | refine k5 (by decide) ?_ | refine k6 (by decide) ?_); conv => whnf))
     conv => whnf
     refine ⟨fun hc => ?_, fun hc => ?_⟩
     ·conv => whnf
      refine fin_val rfl fun w' hB => ⟨?_, hB⟩
      have : ¬ z = x := by simpa using hc
      simp [decV, QI.zero, this]
     ·conv => whnf
      refine fin_val rfl fun w' hB => ⟨?_, hB⟩
      have : z = x := by simpa using hc
      rw [if_pos (by rw [this]), ← hy]; rfl

   | true =>
    (repeat ((first | apply k1 | apply k2 | apply k3 | apply k4 | refine k5 (by decide) ?_ | refine k6 (by decide) ?_); conv => whnf))
    simp only [fieldsF, eq_self, if_true, Bool.false_eq_true, if_false] at hy
    refine call_con rfl (by kernel_rfl) (fun r w' _ => sign_ref (x % 2 ^ bits) bits w' hwl (.inr hb)) ?_
    conv => whnf
    refine call_con (xs := [qiV y]) (by rw [← hy]; rfl) (by kernel_rfl) (fun r w' _ => encode_ref y w' (by rw [hyop]; exact q2) (by rw [← hy]; exact sgnW_w _ (.inr hb))) ?_
    conv => whnf
    generalize encQ y = ey
    cases ey with
    | none =>
     conv => whnf
     (repeat ((first | apply k1 | apply k2 | apply k3 | apply k4 | refine k5 (by decide) ?_ | refine k6 (by decide) ?_); conv => whnf))
     conv => whnf
     exact fin_val rfl fun w' hB => ⟨by simp [decV, QI.zero], hB⟩
    | some z =>
     conv => whnf
     (repeat ((first | apply k1 | apply k2 | apply k3 | apply k4 | refine k5 (by decide) ?_ | refine k6 (by decide) ?_); conv => whnf))
     conv => whnf
     refine ⟨fun hc => ?_, fun hc => ?_⟩
     ·conv => whnf
      refine fin_val rfl fun w' hB => ⟨?_, hB⟩
      have : ¬ z = x := by simpa using hc
      simp [decV, QI.zero, this]
     ·conv => whnf
      refine fin_val rfl fun w' hB => ⟨?_, hB⟩
      have : z = x := by simpa using hc
      rw [if_pos (by rw [this]), ← hy]; rfl

end Go.Proofs.YtnhdcclpjildjaaGreat
namespace Go.Proofs.YtnhdcclpjildjaaGreat
open Go.RowKit

set_option maxRecDepth 100000 in
set_option maxHeartbeats 4000000 in
theorem ends_ref03 (i : QI) (w : World) (h : 0 ≤ i.op ∧ i.op < 64) : Calls Tryz.prog 45 #[qiV i] w fun e w' => e = .returned (.bool (endsQ i.op)) ∧ Below w.heap.size w w' := by
 obtain ⟨op, d, a, b, imm⟩ := i
 dsimp only at h ⊢
 rcases ops64 h with rfl | rfl | rfl | rfl | rfl | rfl | rfl | rfl | rfl | rfl | rfl | rfl | rfl | rfl | rfl | rfl | rfl | rfl | rfl | rfl | rfl | rfl | rfl | rfl | rfl | rfl | rfl | rfl | rfl | rfl | rfl | rfl | rfl | rfl | rfl | rfl | rfl | rfl | rfl | rfl | rfl | rfl | rfl | rfl | rfl | rfl | rfl | rfl | rfl | rfl | rfl | rfl | rfl | rfl | rfl | rfl | rfl | rfl | rfl | rfl | rfl | rfl | rfl | rfl
 all_goals
  refine calls_valN [qiV ⟨_, d, a, b, imm⟩] Tryz.func45 Tryz.ntmps45 rfl (by simp) ?_
  conv => whnf
  (repeat ((first | apply k1 | apply k2 | apply k3 | apply k4 | refine k5 (by decide) ?_ | refine k6 (by decide) ?_); conv => whnf))
  exact fin_val rfl fun w' hB => ⟨rfl, hB⟩
theorem mod_twice (n m : Int) (hm : 0 < m) : (n.tmod m + m).tmod m = n % m ∧ -m < n.tmod m ∧ n.tmod m < m := by
 have h1 := Int.tmod_lt_of_pos n hm
 have h2 : -m < n.tmod m := by have := Int.lt_tmod_of_pos n hm; omega
 refine ⟨?_, h2, h1⟩
 rw [Int.tmod_eq_emod_of_nonneg (by omega), Int.add_emod_right]
 have : n = m * n.tdiv m + n.tmod m := (Int.mul_tdiv_add_tmod n m).symm
 conv => rhs; rw [this]
 rw [Int.mul_add_emod_self_left]
theorem mod_ref (n m : Int) (w : World) (hm : 0 < m ∧ m < 4611686018427387904) : Calls Tryz.prog 17 #[intV n, intV m] w fun e w' => e = .returned (intV (n % m)) ∧ Below w.heap.size w w' := by
 obtain ⟨h1, h2, h3⟩ := mod_twice n m hm.1
 refine calls_valN [intV n, intV m] Tryz.func17 Tryz.ntmps17 rfl (by simp) ?_
 conv => whnf
 refine ⟨by omega, _, rfl, ?_⟩
 conv => whnf
 refine ⟨n.tmod m + m, wr64 (by omega), ?_⟩
 conv => whnf
 refine ⟨by omega, _, h1, ?_⟩
 conv => whnf
 exact fin_val rfl fun w' hB => ⟨rfl, hB⟩
end Go.Proofs.YtnhdcclpjildjaaGreat
namespace Go.Proofs.YtnhdcclpjildjaaGreat
open Go.RowKit

theorem fin_rowOwn {w0 : World} {S : List Ow} {i n size : Nat} {e : TypeId} {xs : List Value} {R : Ending → World → Prop} (hi : S[i]? = some (.row e size n xs)) (h : ∀ w v, w.ownsRow w0.heap.size e size v n xs → Below w0.heap.size w0 w → R (.returned v) w) : Fin w0 Gs.nil S (.p (.c (.row i))) R :=
 ⟨fun _r w u hR hd => h w u (rowLike_at hR (.inl ⟨rfl, hi⟩) hd).1 hR.toBelow⟩
def opsTo (k : Nat) : List Int := ((List.range k).map Int.ofNat).filter fun x => (qForm x).is
def opsQ : List Int := opsTo 64
theorem opsTo_succ (k : Nat) : opsTo (k + 1) = if (qForm (k : Int)).is = true then opsTo k ++ [(k : Int)] else opsTo k := by
 unfold opsTo
 rw [List.range_succ, List.map_append, List.filter_append]
 show _ ++ List.filter (fun x => (qForm x).is) [(k : Int)] = _
 split
 ·rename_i h; rw [List.filter_cons_of_pos (by simpa using h)]; rfl
 ·rename_i h; rw [List.filter_cons_of_neg (by simpa using h)]; simp
theorem opsTo_length (k : Nat) : (opsTo k).length ≤ k := by
 unfold opsTo
 exact Nat.le_trans (List.length_filter_le _ _) (by simp)
set_option maxRecDepth 100000 in
theorem ops_ref (w : World) : Calls Tryz.prog 50 #[] w fun e w' => ∃ v, e = .returned v ∧ w'.ownsRow w.heap.size 3 1 v 39 (opsQ.map intV) ∧ Below w.heap.size w w' := by
 refine calls_val [] Tryz.func50 Tryz.ntmps50 rfl (by simp) ?_
 conv => whnf
 refine ⟨{ k : Nat // k ≤ 64 }, fun x => [(1, .p (.c (.row 0))), (2, one (intV (x.1 : Int)))], fun x => [.row 3 1 (opsTo x.1).length ((opsTo x.1).map intV)], fun x => 64 - x.1,
  ⟨⟨0, by omega⟩, ent_trans (ent_row 1 3 1 rfl) (ent_same rfl (aI rfl (aI rfl trivial)) (aI ((aI rfl (aI rfl (aI rfl rfl)))) trivial))⟩, fun x => ?_⟩
 obtain ⟨k, hk⟩ := x
 dsimp only
 conv => whnf
 refine ⟨fun hc => ?_, fun hc => ?_⟩
 ·have hlt : k < 64 := by simp at hc; omega
  conv => whnf
  refine call_con rfl (by kernel_rfl) (fun r w' _ => of_ref (k : Int) w' (by omega)) ?_
  have hs := opsTo_succ k
  have hlen := opsTo_length k
  generalize qForm (k : Int) = f at hs ⊢
  obtain ⟨is, fd, fa, fb, fs, bits, most⟩ := f
  dsimp only at hs
  cases is with
  | true =>
   rw [if_pos rfl] at hs
   conv => whnf
   (repeat ((first | apply k1 | apply k2 | apply k3 | apply k4 | refine k5 (by decide) ?_ | refine k6 (by decide) ?_); conv => whnf))
   conv => whnf
   refine appK_sound rfl ?_ rfl
   conv => whnf
   refine ⟨by omega, ?_⟩
   conv => whnf
   refine ⟨_, wr64 (by omega), ?_⟩
   conv => whnf
   refine ⟨⟨k + 1, by omega⟩, ent_drop (aI rfl (aI rfl trivial)) (aI ((aI rfl (aI rfl (aI (by rw [hs]; simp) (by rw [hs]; simp))))) trivial) rfl rfl, by show 64 - (k + 1) < 64 - k; omega⟩
  | false =>
   rw [if_neg (by decide)] at hs
   conv => whnf
   (repeat ((first | apply k1 | apply k2 | apply k3 | apply k4 | refine k5 (by decide) ?_ | refine k6 (by decide) ?_); conv => whnf))
   conv => whnf
   refine ⟨_, wr64 (by omega), ?_⟩
   conv => whnf
   refine ⟨⟨k + 1, by omega⟩, ent_same rfl (aI rfl (aI rfl trivial)) (aI ((aI rfl (aI rfl (aI (by rw [hs]) (by rw [hs]))))) trivial), by show 64 - (k + 1) < 64 - k; omega⟩
 ·have hke : k = 64 := by simp at hc; omega
  subst hke
  conv => whnf
  refine ⟨_, _, ent_refl, ?_⟩
  conv => whnf
  exact fin_rowOwn rfl fun w' v hv hB => ⟨v, rfl, hv, hB⟩
end Go.Proofs.YtnhdcclpjildjaaGreat
namespace Go.Proofs.YtnhdcclpjildjaaGreat
open Go.RowKit

def madeF (op : Int) (f : QForm) (n1 n2 n3 n4 : Int) : QI :=
 ⟨op, if f.d = true then n1 % 16 else 0, if f.a = true then n2 % 16 else 0, if f.b = true then n3 % 16 else 0,
  if f.signed = true then sgnW (if 0 < f.most then n4 % (f.most + 1) else if 0 < f.bits then n4 % 2 ^ f.bits else 0) f.bits else (if 0 < f.most then n4 % (f.most + 1) else if 0 < f.bits then n4 % 2 ^ f.bits else 0)⟩
def madeOp (n0 : Int) : Int := (opsQ[(n0 % 39).toNat]?).getD 0
def madeQ (n0 n1 n2 n3 n4 : Int) : QI := madeF (madeOp n0) (qForm (madeOp n0)) n1 n2 n3 n4
theorem opsQ_all : opsQ.all (fun x => decide (0 ≤ x ∧ x < 64)) = true := by decide
theorem opsQ_len : opsQ.length = 39 := by decide
theorem madeOp_get (n0 : Int) : opsQ[(n0 % 39).toNat]? = some (madeOp n0) ∧ 0 ≤ madeOp n0 ∧ madeOp n0 < 64 := by
 have hl : (n0 % 39).toNat < opsQ.length := by rw [opsQ_len]; omega
 have e : opsQ[(n0 % 39).toNat]? = some (opsQ[(n0 % 39).toNat]) := List.getElem?_eq_getElem hl
 have e2 : madeOp n0 = opsQ[(n0 % 39).toNat] := by unfold madeOp; rw [e]; rfl
 have := List.all_eq_true.1 opsQ_all _ (List.getElem_mem hl)
 rw [e2]
 exact ⟨e, by simpa using this⟩
theorem madeF_word {op : Int} {f : QForm} (hf : FOk f) (n1 n2 n3 n4 : Int) : word (madeF op f n1 n2 n3 n4).imm ∧ word (if 0 < f.most then n4 % (f.most + 1) else if 0 < f.bits then n4 % 2 ^ f.bits else 0) := by
 have h2 : word (if 0 < f.most then n4 % (f.most + 1) else if 0 < f.bits then n4 % 2 ^ f.bits else 0) := by
  have := hf.most
  split
  ·have h1 := Int.emod_nonneg n4 (show f.most + 1 ≠ 0 by omega)
   have h2 := Int.emod_lt_of_pos n4 (show 0 < f.most + 1 by omega)
   exact ⟨h1, by omega⟩
  ·split
   ·rcases hf.bits with h | h | h <;> rw [h] <;> unfold word <;> omega
   ·exact word_zero
 refine ⟨?_, h2⟩
 show word (if f.signed = true then _ else _)
 split
 ·rename_i hs
  exact sgnW_w _ (by rcases hf.bits with h | h | h; · exact absurd (hf.sgn hs).1 (by omega)
                     · exact .inr (.inl h)
                     · exact .inr (.inr h))
 ·exact h2
theorem madeQ_ok (n0 n1 n2 n3 n4 : Int) : (madeQ n0 n1 n2 n3 n4).ok := by
 obtain ⟨h1, h2, h3⟩ := madeOp_get n0
 refine ⟨⟨h2, h3⟩, ?_, ?_, ?_, (madeF_word (form_ok _) n1 n2 n3 n4).1⟩
 ·unfold madeQ madeF; dsimp only; split <;> omega
 ·unfold madeQ madeF; dsimp only; split <;> omega
 ·unfold madeQ madeF; dsimp only; split <;> omega
theorem shl1i {b : Nat} (h : b = 18 ∨ b = 22) : IntKind.i64.wrap (1 * 2 ^ (min (b : Int).toNat IntKind.i64.bits)) = 2 ^ b := by
 rcases h with rfl | rfl <;> rfl
abbrev fiveV (n0 n1 n2 n3 n4 : Int) : Value := .agg #[intV n0, intV n1, intV n2, intV n3, intV n4]
set_option maxRecDepth 100000 in
set_option maxHeartbeats 4000000 in
theorem made_ref03 (n0 n1 n2 n3 n4 : Int) (w : World) : Calls Tryz.prog 22 #[fiveV n0 n1 n2 n3 n4] w fun e w' => e = .returned (qiV (madeQ n0 n1 n2 n3 n4)) ∧ Below w.heap.size w w' := by
 obtain ⟨hg, hop⟩ := madeOp_get n0
 refine calls_valN [fiveV n0 n1 n2 n3 n4] Tryz.func22 Tryz.ntmps22 rfl (by simp) ?_
 conv => whnf
 refine call_row (xs := []) rfl (by kernel_rfl) (fun r w' _ => ops_ref w') ?_
 conv => whnf
 (refine ⟨⟨by omega, by omega⟩, ?_⟩; (conv=>whnf))
 refine call_con rfl (by kernel_rfl) (fun r w' _ => mod_ref n0 39 w' (by omega)) ?_
 conv => whnf
 refine ⟨⟨by omega, by omega⟩, ?_⟩
 unfold madeQ
 generalize madeOp n0 = op at hg hop ⊢
 have hg2 : (List.map CV.v (opsQ.map intV))[(n0 % 39).toNat * tsz Tryz.prog 3]? = some (.v (intV op)) := by
  show (List.map CV.v (opsQ.map intV))[(n0 % 39).toNat * 1]? = _
  rw [Nat.mul_one, List.getElem?_map, List.getElem?_map, hg]; rfl
 conv => whnf
 rw [hg2]
 conv => whnf
 refine call_con rfl (by kernel_rfl) (fun r w' _ => of_ref op w' hop) ?_
 have hf := form_ok op
 have hmw := (madeF_word (op := op) hf n1 n2 n3 n4).2
 generalize qForm op = f at hf hmw ⊢
 obtain ⟨is, fd, fa, fb, fs, bits, most⟩ := f
 obtain ⟨hb, hm, hs⟩ := hf
 dsimp only at hb hm hs hmw
 obtain ⟨y, hy⟩ : ∃ y, madeF op ⟨is, fd, fa, fb, fs, bits, most⟩ n1 n2 n3 n4 = y := ⟨_, rfl⟩
 rw [hy]
 obtain ⟨z, hz⟩ : ∃ z, (if 0 < most then n4 % (most + 1) else if 0 < bits then n4 % 2 ^ bits else 0) = z := ⟨_, rfl⟩
 rw [hz] at hmw
 simp only [madeF, hz] at hy
 cases fd <;> cases fa <;> cases fb <;> ((conv=>whnf); (repeat (first | (refine ⟨fun _ => ?_, nT⟩; (conv=>whnf)) | (refine ⟨nF, fun _ => ?_⟩; (conv=>whnf)) | (((refine ⟨⟨by omega, by omega⟩, ?_⟩; (conv=>whnf))); refine call_con rfl (by kernel_rfl) (fun r w' _ => mod_ref _ 16 w' (by omega)) ?_; (conv=>whnf)))))
 all_goals
  refine ⟨fun hc => ?_, fun hc => ?_⟩
  ·have hm0 : 0 < most := by simpa using hc
   obtain rfl : fs = false := by
    cases fs with
    | false => rfl
    | true => exact absurd (hs rfl).2 (by omega)
   rw [if_pos hm0] at hz
   conv => whnf
   (refine ⟨⟨by omega, by omega⟩, ?_⟩; (conv=>whnf))
   refine ⟨most, show IntKind.i64.wrap most = most from wr64 (by omega), ?_⟩
   conv => whnf
   refine ⟨most + 1, show IntKind.i64.wrap (most + 1) = most + 1 from wr64 (by omega), ?_⟩
   conv => whnf
   refine call_con rfl (by kernel_rfl) (fun r w' _ => mod_ref n4 (most + 1) w' (by omega)) ?_
   conv => whnf
   refine ⟨z, by rw [wr32, hz]; unfold word at hmw; omega, ?_⟩
   conv => whnf
   (repeat ((first | apply k1 | apply k2 | apply k3 | apply k4 | refine k5 (by decide) ?_ | refine k6 (by decide) ?_); conv => whnf))
   conv => whnf
   refine fin_val rfl fun w' hB => ⟨?_, hB⟩
   simp only [eq_self, if_true, Bool.false_eq_true, if_false] at hy
   rw [← hy]; try rfl
  have hm0 : ¬ 0 < most := by simpa using hc
  rw [if_neg hm0] at hz
  conv => whnf
  rcases hb with rfl | hb
  ·obtain rfl : fs = false := by
    cases fs with
    | false => rfl
    | true => exact absurd (hs rfl).1 (by omega)
   rw [if_neg (by omega)] at hz
   subst hz
   (repeat ((first | apply k1 | apply k2 | apply k3 | apply k4 | refine k5 (by decide) ?_ | refine k6 (by decide) ?_); conv => whnf))
   conv => whnf
   refine fin_val rfl fun w' hB => ⟨?_, hB⟩
   simp only [eq_self, if_true, Bool.false_eq_true, if_false] at hy
   rw [← hy]; try rfl
  refine ⟨fun _ => ?_, fun hc => absurd hc (by simp; omega)⟩
  rw [if_pos (by omega)] at hz
  have hpow : 0 < (2 : Int) ^ bits ∧ (2 : Int) ^ bits < 4611686018427387904 := by rcases hb with hb | hb <;> rw [hb] <;> decide
  conv => whnf
  (refine ⟨⟨by omega, by omega⟩, ?_⟩; (conv=>whnf))
  refine ⟨_, conv64 hb, ?_⟩
  conv => whnf
  refine ⟨by omega, _, shl1i hb, ?_⟩
  conv => whnf
  refine call_con rfl (by kernel_rfl) (fun r w' _ => mod_ref n4 (2 ^ bits) w' hpow) ?_
  conv => whnf
  refine ⟨z, by rw [wr32]; show n4 % 2 ^ bits % _ = z; rw [hz]; unfold word at hmw; omega, ?_⟩
  conv => whnf
  cases fs with
  | false =>
   (repeat ((first | apply k1 | apply k2 | apply k3 | apply k4 | refine k5 (by decide) ?_ | refine k6 (by decide) ?_); conv => whnf))
   conv => whnf
   refine fin_val rfl fun w' hB => ⟨?_, hB⟩
   simp only [eq_self, if_true, Bool.false_eq_true, if_false] at hy
   rw [← hy]; try rfl
  | true =>
   (repeat ((first | apply k1 | apply k2 | apply k3 | apply k4 | refine k5 (by decide) ?_ | refine k6 (by decide) ?_); conv => whnf))
   conv => whnf
   refine call_con rfl (by kernel_rfl) (fun r w' _ => sign_ref z bits w' hmw (.inr hb)) ?_
   conv => whnf
   (repeat ((first | apply k1 | apply k2 | apply k3 | apply k4 | refine k5 (by decide) ?_ | refine k6 (by decide) ?_); conv => whnf))
   conv => whnf
   refine fin_val rfl fun w' hB => ⟨?_, hB⟩
   simp only [eq_self, if_true, Bool.false_eq_true, if_false] at hy
   rw [← hy]; try rfl
end Go.Proofs.YtnhdcclpjildjaaGreat
namespace Go.Proofs.YtnhdcclpjildjaaGreat
open Go.RowKit

theorem bytesA_append (l m : List Int) : bytesA (l ++ m) = bytesA l ++ bytesA m := by
 have h : (bytesA (l ++ m)).data = (bytesA l ++ bytesA m).data := by
  apply Array.ext'
  rw [bytesA_list, List.map_append, ByteArray.data_append, Array.toList_append, bytesA_list, bytesA_list]
 exact ByteArray.ext h
section
variable {P : Program} {w0 : World} {G : Gs} {N : Nd} {S : List Ow} {f : Fr} {o : Oper}
theorem q_cat_str {K : AV → Prop} {t t' : TypeId} {x y : Operand} (l m : List Int) (hop : o.op = .binOp .add t x y t') (hx : f.ev x = one (strV l)) (hy : f.ev y = one (strV m)) (hlen : l.length + m.length ≤ 9223372036854775807) (hk : K (one (strV (l ++ m)))) : QRun P w0 G S f o K := by
 refine ⟨_, hk, fun r a hf => ?_⟩
 have h1 := hf.ev x
 have h2 := hf.ev y
 rw [hx] at h1; rw [hy] at h2
 refine ⟨_, rfl, fun w hR => ?_⟩
 have hb : ¬ ((((bytesA l).size + (bytesA m).size : Nat) : Int) > IntKind.i64.max) := by
  rw [bytesA_size, bytesA_size]
  show ¬ (_ > (9223372036854775807 : Int))
  omega
 have hb' : ¬ (IntKind.i64.max < ((bytesA l).size : Int) + ((bytesA m).size : Int)) := by omega
 simp [execOp, hop, den_v h1, den_v h2, strV, binOp, Op.stringOp, eqGuard, bytesA_append]
 rw [bytesA_size, bytesA_size]; omega
end
end Go.Proofs.YtnhdcclpjildjaaGreat
namespace Go.Proofs.YtnhdcclpjildjaaGreat
open Go.RowKit

def putTo (n : Int) (j : Nat) : List Int := (List.range j).map (byteAt n)
def putL (n : Int) : List Int := putTo n 4
theorem putTo_succ (n : Int) (j : Nat) : putTo n (j + 1) = putTo n j ++ [byteAt n j] := by
 unfold putTo; rw [List.range_succ, List.map_append]; rfl
theorem putTo_length (n : Int) (j : Nat) : (putTo n j).length = j := by unfold putTo; simp
theorem byteAt_range (n : Int) (j : Nat) : 0 ≤ byteAt n j ∧ byteAt n j < 256 := by unfold byteAt; omega
theorem putTo_bytes (n : Int) (j : Nat) : ∀ x ∈ putTo n j, 0 ≤ x ∧ x < 256 := fun x hx => by
 unfold putTo at hx
 obtain ⟨k, _, rfl⟩ := List.mem_map.1 hx
 exact byteAt_range n k
theorem byte_shr {n : Int} (h : word n) {j : Nat} (hj : j < 4) : IntKind.u8.wrap (n.fdiv (2 ^ (min ((8 : Int) * j).toNat IntKind.u32.bits))) = byteAt n j := by
 have h0 := h.1
 have e : (min ((8 : Int) * j).toNat IntKind.u32.bits) = 8 * j := by
  show min ((8 : Int) * j).toNat 32 = 8 * j
  omega
 rw [e, Int.fdiv_eq_ediv_of_nonneg _ (Int.le_of_lt (Int.pow_pos (by omega)))]
 rfl
set_option maxRecDepth 100000 in
theorem put_walk (n : Int) (w : World) (hn : word n) : Calls Tryz.prog 27 #[.int .u32 n, intV 4] w fun e w' => e = .returned (strV (putL n)) ∧ Below w.heap.size w w' := by
 refine calls_val [.int .u32 n, intV 4] Tryz.func27 Tryz.ntmps27 rfl (by simp) ?_
 conv => whnf
 refine ⟨{ j : Nat // j ≤ 4 }, fun x => [(0, one (.int .u32 n)), (1, one (intV 4)), (5, one (strV (putTo n x.1))), (6, one (intV (x.1 : Int)))], fun x => [], fun x => 4 - x.1, ⟨⟨0, by omega⟩, ent_same rfl (aI rfl (aI rfl (aI rfl (aI rfl trivial)))) trivial⟩, fun x => ?_⟩
 obtain ⟨j, hj⟩ := x
 dsimp only
 have hlen := putTo_length n j
 have hs := putTo_succ n j
 generalize hl : putTo n j = l at hlen hs ⊢
 conv => whnf
 refine ⟨decide ((j : Int) < 4), fun _ => ?_, ?_⟩
 ·conv => whnf
  exact ⟨rfl, rfl, rfl, rfl, rfl⟩
 conv => whnf
 refine ⟨fun hc => ?_, fun hc => ?_⟩
 ·have hlt : j < 4 := by simp [cmb] at hc; omega
  conv => whnf
  refine ⟨(8 : Int) * j, wr64 (by omega), ?_⟩
  conv => whnf
  refine ⟨by omega, _, rfl, ?_⟩
  conv => whnf
  refine ⟨byteAt n j, byte_shr hn hlt, ?_⟩
  conv => whnf
  refine q_conv_str 0 1 1 [byteAt n j] rfl rfl rfl rfl rfl rfl rfl ?_
  conv => whnf
  refine q_cat_str l [byteAt n j] rfl rfl rfl (by simp; omega) ?_
  conv => whnf
  refine ⟨_, wr64 (by omega), ?_⟩
  conv => whnf
  exact ⟨⟨j + 1, by omega⟩, ent_drop (aI rfl (aI rfl (aI ((by rw [hs]; rfl)) (aI rfl trivial)))) trivial rfl rfl, by show 4 - (j + 1) < 4 - j; omega⟩
 ·have hje : j = 4 := by simp [cmb] at hc; omega
  subst hje
  conv => whnf
  refine ⟨_, _, ent_refl, ?_⟩
  conv => whnf
  exact fin_val rfl fun w' hB => ⟨by rw [← hl]; rfl, hB⟩
end Go.Proofs.YtnhdcclpjildjaaGreat
namespace Go.Proofs.YtnhdcclpjildjaaGreat
open Go.RowKit

def MemP.pokeAt (M : MemP) (a : Int) (l : List Int) (j : Nat) : MemP := (l.take j).zipIdx.foldl (fun Q bi => if (a + bi.2) % 4294967296 < Q.data.length then Q.put ((a + bi.2) % 4294967296) bi.1 else Q) M
theorem pokeAt_succ (M : MemP) (a : Int) (l : List Int) {j : Nat} {b : Int} (h : l[j]? = some b) : M.pokeAt a l (j + 1) = if (a + j) % 4294967296 < (M.pokeAt a l j).data.length then (M.pokeAt a l j).put ((a + j) % 4294967296) b else M.pokeAt a l j := by
 have hj : j < l.length := by
  rcases Nat.lt_or_ge j l.length with h1 | h1
  ·exact h1
  ·rw [List.getElem?_eq_none h1] at h; cases h
 have hl : (l.take j).length = j := by rw [List.length_take]; omega
 unfold MemP.pokeAt
 rw [take_snoc h, List.zipIdx_append, List.foldl_append, hl]
 simp only [List.zipIdx_cons, List.zipIdx_nil, List.foldl_cons, List.foldl_nil, Nat.zero_add]
theorem pokeAt_ok {M : MemP} {n p : Nat} (hM : M.ok n p) (a : Int) {l : List Int} (hb : ∀ x ∈ l, 0 ≤ x ∧ x < 256) : ∀ j, j ≤ l.length → (M.pokeAt a l j).ok n p
 | 0, _ => hM
 | j + 1, h => by
  have e : l[j]? = some l[j] := List.getElem?_eq_getElem h
  rw [pokeAt_succ M a l e]
  have ih := pokeAt_ok hM a hb j (by omega)
  split
  ·exact put_ok ih _ (hb _ (List.getElem_mem h))
  ·exact ih
set_option maxRecDepth 100000 in
theorem mem_pokeAt (M : MemP) (n p : Nat) (a : Int) (l : List Int) (w : World) (g : Nat) (gs : List Nat) (hU : ObjsAt w (g :: gs) (memS 0 n p M)) (hM : M.ok n p) (_ha : word a) (hbl : ∀ x ∈ l, 0 ≤ x ∧ x < 256) (hlen : l.length ≤ 1000000) (hn8 : 8 < n) :
  Calls Tryz.prog 31 #[.pointer (some ⟨g, 0, none⟩), .int .u32 a, strV l] w fun e w' => e = .returned (.tuple #[]) ∧ ObjsAt w' (g :: gs) (memS 0 n p (M.pokeAt a l l.length)) ∧ GrownBys w w' (g :: gs) := by
 obtain ⟨g0, g1, g2, g3, g4, g5, hg⟩ := six_blocks hU
 injection hg with hg0 hgs
 subst hgs; subst hg0
 have hnp := hM.np
 have hpm := hM.pmax
 refine calls_objs [.p (.c (.ref 0 0)), one (.int .u32 a), one (strV l)] [.pointer (some ⟨g, 0, none⟩), .int .u32 a, strV l] Tryz.func31 Tryz.ntmps31 rfl (by simp) hU ⟨_, _, rfl, den_mk_ref rfl, avdenL_of [.int .u32 a, strV l]⟩ ?_
 conv => whnf
 refine ⟨{ j : Nat // j ≤ l.length }, fun x => [(0, .p (.c (.ref 0 0))), (1, one (.int .u32 a)), (2, one (strV l)), (6, one (.int .i64 (x.1 : Int)))], fun x => memS 0 n p (M.pokeAt a l x.1), fun x => l.length - x.1,
  ⟨⟨0, by omega⟩, ent_same rfl (aI rfl (aI rfl (aI rfl (aI rfl trivial)))) (aI sM (aI sM (aI sM (aI sM (aI sM (aI sM trivial))))))⟩, fun x => ?_⟩
 obtain ⟨j, hj⟩ := x
 dsimp only
 conv => whnf
 refine q_len_str l rfl rfl rfl ?_
 conv => whnf
 refine ⟨fun hc => ?_, fun hc => ?_⟩
 ·have hlt : j < l.length := by simpa using hc
  have hQ := pokeAt_ok hM a hbl j hj
  obtain ⟨b, hb⟩ : ∃ b, l[j]? = some b := ⟨_, List.getElem?_eq_getElem (by omega)⟩
  have hbb := hbl b (List.mem_of_getElem? hb)
  have hnext := pokeAt_succ M a l hb
  generalize M.pokeAt a l j = Q at hQ hnext ⊢
  rw [hQ.ld] at hnext
  have hlenQ : n ≤ (List.map CV.v Q.dV).length := tail_le hQ.ld
  have hadr : IntKind.u32.wrap (a + (j : Int)) = (a + j) % 4294967296 := wr32 _
  have hax : 0 ≤ (a + j) % 4294967296 ∧ (a + j) % 4294967296 < 4294967296 := by omega
  conv => whnf
  refine ⟨(j : Int), by rw [wr32]; omega, ?_⟩
  conv => whnf
  refine ⟨_, hadr, ?_⟩
  generalize (a + (j : Int)) % 4294967296 = z at hax hnext hadr ⊢
  conv => whnf
  refine call_memR (pre := []) (suf := [one (.int .u32 z)]) 0 n p Q (.bool (decide (z < (n : Int)))) (fun i hi => by rw [Nat.zero_add]) rfl rfl (by kernel_rfl) (fun w' g gs hk hU => mem_in Q n p z w' g gs hU hQ hax) ?_
  conv => whnf
  refine ⟨fun hc => ?_, fun hc => ?_⟩
  ·have hz : z < (n : Int) := by simpa using hc
   rw [if_pos hz] at hnext
   conv => whnf
   refine sat_tail 12 mixed (by kernel_rfl) ?_
   conv => whnf
   refine ⟨(j : Int), by rw [wr32]; omega, ?_⟩
   conv => whnf
   refine ⟨_, hadr, ?_⟩
   conv => whnf
   refine q_index_str l .i64 j b rfl rfl rfl rfl hb hbb ?_
   conv => whnf
   refine ⟨⟨by omega, by omega⟩, ?_⟩
   conv => whnf
   rw [show Nat.ble (0 + z.toNat * tsz Tryz.prog 5 + [CV.v (Value.int IntKind.u8 b)].length) (List.map CV.v Q.dV).length = true from Nat.ble_eq_true_of_le (by refine Nat.le_trans ?_ hlenQ; show 0 + _ * 1 + 1 ≤ n; omega)]
   conv => whnf
   rw [show Nat.ble (List.map CV.v Q.dV).length 8 = false from ble_no (by omega)]
   conv => whnf
   refine ⟨_, wr64 (by omega), ?_⟩
   conv => whnf
   have hset : setAll (List.map CV.v Q.dV) (0 + z.toNat * tsz Tryz.prog 5) [CV.v (Value.int IntKind.u8 b)] = List.map CV.v (M.pokeAt a l (j + 1)).dV := by
    rw [set_vals, hnext]
    show List.map CV.v (Q.dV.set (0 + z.toNat * 1) _) = List.map CV.v ((Q.put z b).dV)
    rw [Nat.zero_add, Nat.mul_one, ← put_dV Q b (by rw [hQ.ld]; omega)]
   have hrest : Q.iV = (M.pokeAt a l (j + 1)).iV ∧ Q.odV = (M.pokeAt a l (j + 1)).odV ∧ Q.oiV = (M.pokeAt a l (j + 1)).oiV ∧ Q.rV = (M.pokeAt a l (j + 1)).rV := by rw [hnext]; exact ⟨rfl, rfl, rfl, rfl⟩
   exact ⟨⟨j + 1, by omega⟩, ent_same rfl (aI rfl (aI rfl (aI rfl (aI rfl trivial)))) (aI ((aI rfl (Or.inl (by rw [hnext]; rfl)))) (aI ((aI rfl (Or.inl hset))) (aI ((aI rfl (Or.inl (by rw [hrest.1])))) (aI ((aI rfl (Or.inl (by rw [hrest.2.1])))) (aI ((aI rfl (Or.inl (by rw [hrest.2.2.1])))) (aI ((aI rfl (Or.inl (by rw [hrest.2.2.2])))) trivial)))))), by show l.length - (j + 1) < l.length - j; omega⟩
  ·have hz : ¬ z < (n : Int) := by simpa using hc
   rw [if_neg hz] at hnext
   conv => whnf
   refine ⟨_, wr64 (by omega), ?_⟩
   conv => whnf
   exact ⟨⟨j + 1, by omega⟩, ent_same rfl (aI rfl (aI rfl (aI rfl (aI rfl trivial)))) (aI ((aI rfl (Or.inl (by rw [hnext])))) (aI ((aI rfl (Or.inl (by rw [hnext])))) (aI ((aI rfl (Or.inl (by rw [hnext])))) (aI ((aI rfl (Or.inl (by rw [hnext])))) (aI ((aI rfl (Or.inl (by rw [hnext])))) (aI ((aI rfl (Or.inl (by rw [hnext])))) trivial)))))), by show l.length - (j + 1) < l.length - j; omega⟩
 ·have hje : j = l.length := by simp at hc; omega
  rw [hje]
  conv => whnf
  refine ⟨_, _, ent_refl, ?_⟩
  conv => whnf
  exact fin_objs rfl rfl (fun i o h => h) (memS_ob n p (M.pokeAt a l l.length)) fun w' h1 h2 => ⟨rfl, h1, h2⟩
end Go.Proofs.YtnhdcclpjildjaaGreat
namespace Go.Proofs.YtnhdcclpjildjaaGreat
open Go.RowKit

def MemP.setI (M : MemP) (i : Nat) (v : Int) : MemP := { M with image := M.image.set i v }
def MemP.codeTo (M : MemP) (q : Nat) (l : List Int) : Nat → MemP
 | 0 => M
 | j + 1 => (M.codeTo q l j).setI (256 * q + j) ((l[j]?).getD 0)
theorem setI_ok {M : MemP} {n p : Nat} (hM : M.ok n p) (i : Nat) {v : Int} (hv : 0 ≤ v ∧ v < 256) : (M.setI i v).ok n p := by
 refine ⟨hM.ld, by show (M.image.set i v).length = n; rw [List.length_set]; exact hM.li, hM.lr, hM.lod, hM.loi, hM.np, hM.pmax, hM.db, fun x hx => ?_, hM.rb⟩
 rcases List.mem_or_eq_of_mem_set hx with h | h
 ·exact hM.ib x h
 ·rw [h]; exact hv
theorem codeTo_ok {M : MemP} {n p : Nat} (hM : M.ok n p) (q : Nat) {l : List Int} (hb : ∀ x ∈ l, 0 ≤ x ∧ x < 256) : ∀ j, (M.codeTo q l j).ok n p
 | 0 => hM
 | j + 1 => setI_ok (codeTo_ok hM q hb j) _ (by
   cases h : l[j]? with
   | none => simp
   | some x => exact hb x (List.mem_of_getElem? h))
theorem setI_iV (M : MemP) {i : Nat} (v : Int) (h : i < M.image.length) : M.iV.set i (byteV v) = (M.setI i v).iV := tail_set h
set_option maxRecDepth 100000 in
set_option maxHeartbeats 1000000 in
theorem mem_setCode (M : MemP) (n p : Nat) (q : Nat) (l : List Int) (w : World) (g : Nat) (gs : List Nat) (hU : ObjsAt w (g :: gs) (memS 0 n p M)) (hM : M.ok n p) (hq : q < p) (hbl : ∀ x ∈ l, 0 ≤ x ∧ x < 256) (hlen : l.length ≤ 1000000) :
  Calls Tryz.prog 26 #[.pointer (some ⟨g, 0, none⟩), intV (q : Int), strV l] w fun e w' => e = .returned (.tuple #[]) ∧ ObjsAt w' (g :: gs) (memS 0 n p (M.codeTo q l (min l.length 256))) ∧ GrownBys w w' (g :: gs) := by
 obtain ⟨g0, g1, g2, g3, g4, g5, hg⟩ := six_blocks hU
 injection hg with hg0 hgs
 subst hgs; subst hg0
 have hnp := hM.np
 have hpm := hM.pmax
 refine calls_objs [.p (.c (.ref 0 0)), one (intV (q : Int)), one (strV l)] [.pointer (some ⟨g, 0, none⟩), intV (q : Int), strV l] Tryz.func26 Tryz.ntmps26 rfl (by simp) hU ⟨_, _, rfl, den_mk_ref rfl, avdenL_of [intV (q : Int), strV l]⟩ ?_
 conv => whnf
 refine ⟨decide ((q : Int) ≥ (p : Int)), fun _ => ?_, ?_⟩
 ·conv => whnf
  exact ⟨rfl, rfl, rfl, rfl, grp_mem _ _ _ _ _ _ _ _ _⟩
 have e1 : cmb false (decide ((q : Int) < 0)) (decide ((q : Int) ≥ (p : Int))) = false := by simp [cmb]; omega
 rw [e1]
 conv => whnf
 refine ⟨false, fun _ => ?_, ?_⟩
 ·conv => whnf
  exact ⟨rfl, rfl, rfl, rfl, grp_mem _ _ _ _ _ _ _ _ _⟩
 conv => whnf
 (repeat ((first | apply k1 | apply k2 | apply k3 | apply k4 | refine k5 (by decide) ?_ | refine k6 (by decide) ?_); conv => whnf))
 conv => whnf
 refine ⟨{ j : Nat // j ≤ min l.length 256 }, fun x => [(0, .p (.c (.ref 0 0))), (1, one (intV (q : Int))), (2, one (strV l)), (6, one (.int .i64 (x.1 : Int)))], fun x => memS 0 n p (M.codeTo q l x.1), fun x => 256 - x.1,
  ⟨⟨0, by omega⟩, ent_same rfl (aI rfl (aI rfl (aI rfl (aI rfl trivial)))) (aI sM (aI sM (aI sM (aI sM (aI sM (aI sM trivial))))))⟩, fun x => ?_⟩
 obtain ⟨j, hj⟩ := x
 dsimp only
 conv => whnf
 refine q_len_str l rfl rfl rfl ?_
 conv => whnf
 refine ⟨decide ((j : Int) < 256), fun _ => ?_, ?_⟩
 ·conv => whnf
  exact ⟨rfl, rfl, rfl, rfl, grp_mem _ _ _ _ _ _ _ _ _⟩
 conv => whnf
 refine ⟨fun hc => ?_, fun hc => ?_⟩
 ·have hlt : j < l.length ∧ j < 256 := by simp [cmb] at hc; omega
  have hQ := codeTo_ok hM q hbl j
  obtain ⟨b, hb⟩ : ∃ b, l[j]? = some b := ⟨_, List.getElem?_eq_getElem (by omega)⟩
  have hbb := hbl b (List.mem_of_getElem? hb)
  have hnext : M.codeTo q l (j + 1) = (M.codeTo q l j).setI (256 * q + j) b := by show (M.codeTo q l j).setI (256 * q + j) ((l[j]?).getD 0) = _; rw [hb]; rfl
  generalize M.codeTo q l j = Q at hQ hnext ⊢
  have hlenQ : n ≤ (List.map CV.v Q.iV).length := tail_le hQ.li
  conv => whnf
  refine sat_tail 12 mixed (by kernel_rfl) ?_
  conv => whnf
  refine ⟨(256 * q : Nat), by rw [show (256 : Int) * (q : Int) = ((256 * q : Nat) : Int) by omega]; exact wr64 (by omega), ?_⟩
  conv => whnf
  refine ⟨(256 * q + j : Nat), by rw [show ((256 * q : Nat) : Int) + (j : Int) = ((256 * q + j : Nat) : Int) by omega]; exact wr64 (by omega), ?_⟩
  conv => whnf
  refine q_index_str l .i64 j b rfl rfl rfl rfl hb hbb ?_
  conv => whnf
  refine ⟨⟨by omega, by omega⟩, ?_⟩
  conv => whnf
  rw [show Nat.ble (0 + ((256 * q + j : Nat) : Int).toNat * tsz Tryz.prog 5 + [CV.v (Value.int IntKind.u8 b)].length) (List.map CV.v Q.iV).length = true from Nat.ble_eq_true_of_le (by refine Nat.le_trans ?_ hlenQ; show 0 + _ * 1 + 1 ≤ n; omega)]
  conv => whnf
  rw [show Nat.ble (List.map CV.v Q.iV).length 8 = false from ble_no (by omega)]
  conv => whnf
  refine ⟨_, wr64 (by omega), ?_⟩
  conv => whnf
  have hset : setAll (List.map CV.v Q.iV) (0 + ((256 * q + j : Nat) : Int).toNat * tsz Tryz.prog 5) [CV.v (Value.int IntKind.u8 b)] = List.map CV.v (M.codeTo q l (j + 1)).iV := by
   rw [set_vals, hnext]
   show List.map CV.v (Q.iV.set (0 + ((256 * q + j : Nat) : Int).toNat * 1) _) = List.map CV.v ((Q.setI (256 * q + j) b).iV)
   rw [Nat.zero_add, Nat.mul_one, Int.toNat_natCast, ← setI_iV Q _ (by rw [hQ.li]; omega)]
  exact ⟨⟨j + 1, by omega⟩, ent_same rfl (aI rfl (aI rfl (aI rfl (aI rfl trivial)))) (aI ((aI rfl (Or.inl (by rw [hnext]; rfl)))) (aI ((aI rfl (Or.inl (by rw [hnext]; rfl)))) (aI ((aI rfl (Or.inl hset))) (aI ((aI rfl (Or.inl (by rw [hnext]; rfl)))) (aI ((aI rfl (Or.inl (by rw [hnext]; rfl)))) (aI ((aI rfl (Or.inl (by rw [hnext]; rfl)))) trivial)))))), by show 256 - (j + 1) < 256 - j; omega⟩
 ·have hje : j = min l.length 256 := by
   have h1 : ¬ (j < l.length ∧ j < 256) := fun h => by
    have : cmb true (decide ((j : Int) < (l.length : Int))) (decide ((j : Int) < 256)) = true := by simp [cmb]; omega
    rw [this] at hc; cases hc
   omega
  rw [hje]
  conv => whnf
  refine ⟨_, _, ent_refl, ?_⟩
  conv => whnf
  exact fin_objs rfl rfl (fun i o h => h) (memS_ob n p _) fun w' h1 h2 => ⟨rfl, h1, h2⟩
end Go.Proofs.YtnhdcclpjildjaaGreat
namespace Go.Proofs.YtnhdcclpjildjaaGreat
open Go.RowKit

def MemP.fetchV (M : MemP) (a : Int) : Value := if M.right a 4 = true then valV (M.code a) 0 true else valV 0 a false
set_option maxRecDepth 100000 in
theorem mem_fetch (M : MemP) (n p : Nat) (a : Int) (w : World) (g : Nat) (gs : List Nat) (hU : ObjsAt w (g :: gs) (memS 0 n p M)) (hM : M.ok n p) (ha : word a) :
  Calls Tryz.prog 78 #[.pointer (some ⟨g, 0, none⟩), .int .u32 a] w fun e w' => e = .returned (M.fetchV a) ∧ ObjsAt w' (g :: gs) (memS 0 n p M) ∧ GrownBys w w' (g :: gs) := by
 obtain ⟨g0, g1, g2, g3, g4, g5, hg⟩ := six_blocks hU
 injection hg with hg0 hgs
 subst hgs; subst hg0
 refine calls_objs [.p (.c (.ref 0 0)), one (.int .u32 a)] [.pointer (some ⟨g, 0, none⟩), .int .u32 a] Tryz.func78 Tryz.ntmps78 rfl (by simp) hU ⟨_, _, rfl, den_mk_ref rfl, avdenL_of [.int .u32 a]⟩ ?_
 conv => whnf
 refine call_memR (pre := []) (suf := [one (.int .u32 a), one (intV 4)]) 0 n p M (.bool (M.right a 4)) (fun i hi => memL_six i hi) rfl rfl (by kernel_rfl) (fun w' g gs hk hU => mem_right M n p a 4 w' g gs hU hM ha (.inr (.inr rfl))) ?_
 unfold MemP.fetchV
 cases hr : M.right a 4 with
 | false =>
  conv => whnf
  (repeat ((first | apply k1 | apply k2 | apply k3 | apply k4 | refine k5 (by decide) ?_ | refine k6 (by decide) ?_); conv => whnf))
  conv => whnf
  exact fin_objs rfl rfl (fun i o h => sub_append i o h) (memS_ob n p M) fun w' h1 h2 => ⟨rfl, h1, h2⟩
 | true =>
  have hlt := right_lt hr
  rw [hM.ld] at hlt
  have hcb : 0 ≤ M.code a ∧ M.code a < 256 := by
   unfold MemP.code
   cases h : M.image[a.toNat]? with
   | none => simp
   | some x => exact hM.ib x (List.mem_of_getElem? h)
  conv => whnf
  (repeat ((first | apply k1 | apply k2 | apply k3 | apply k4 | refine k5 (by decide) ?_ | refine k6 (by decide) ?_); conv => whnf))
  conv => whnf
  refine call_memR (pre := []) (suf := [one (.int .u32 a)]) 0 n p M (.int .u8 (M.code a)) (fun i hi => memL_six i hi) rfl rfl (by kernel_rfl) (fun w' g gs hk hU => mem_code M n p a w' g gs hU hM ha hlt) ?_
  conv => whnf
  refine ⟨M.code a, by rw [wr32]; omega, ?_⟩
  conv => whnf
  exact fin_objs rfl rfl (fun i o h => sub_append i o h) (memS_ob n p M) fun w' h1 h2 => ⟨rfl, h1, h2⟩
end Go.Proofs.YtnhdcclpjildjaaGreat
namespace Go.Proofs.YtnhdcclpjildjaaGreat
open Go.RowKit

theorem cpuU_sh (k : Nat) (us : List Value) (n p : Nat) (M : MemP) : ShAll k (cpuU 0 us n p M) (cpuU k us n p M) := by
 refine ⟨⟨rfl, ?_⟩, ⟨rfl, ?_⟩, ⟨rfl, (sh_vals k _).symm⟩, ⟨rfl, (sh_vals k _).symm⟩, ⟨rfl, (sh_vals k _).symm⟩, ⟨rfl, (sh_vals k _).symm⟩, ⟨rfl, (sh_vals k _).symm⟩, trivial⟩
 ·rw [List.map_append, sh_vals]; rfl
 ·simp [CV.sh, Nat.add_assoc]
theorem cpuU_ob (us : List Value) (n p : Nat) (M : MemP) : ObAll 7 (cpuU 0 us n p M) := by
 intro o ho
 simp only [memS, List.mem_cons, List.not_mem_nil, or_false] at ho
 rcases ho with rfl | rfl | rfl | rfl | rfl | rfl | rfl
 ·intro c hc
  rcases List.mem_append.1 hc with hc | hc
  ·exact ob_vals 7 _ c hc
  ·simp at hc; subst hc; rfl
 ·intro c hc
  simp only [List.mem_cons, List.not_mem_nil, or_false] at hc
  rcases hc with rfl | rfl | rfl | rfl | rfl | rfl <;> rfl
 ·exact ob_vals 7 _
 ·exact ob_vals 7 _
 ·exact ob_vals 7 _
 ·exact ob_vals 7 _
 ·exact ob_vals 7 _
abbrev u32V (x : Int) : Value := .int .u32 x
def stZ : List Value := [u32V 0, u32V 0, u32V 0, u32V 0, u32V 0, u32V 0, u32V 0, u32V 0, u32V 0, u32V 0, u32V 0, u32V 0, u32V 0, u32V 0, u32V 0, u32V 0, u32V 0, u32V 0, u32V 0, u32V 0, u32V 0, u32V 0, intV 0, intV 0]
set_option maxRecDepth 100000 in
theorem cpu_new (p : Nat) (w : World) (hp : 1 ≤ p ∧ p ≤ 64) :
  Calls Tryz.prog 34 #[intV (p : Int)] w fun e w' => ∃ g gs, e = .returned (ptrV g) ∧ NewObjs w w' (g :: gs) (cpuU 0 stZ (256 * p) p (MemP.zero p)) := by
 obtain ⟨n, hn⟩ : ∃ n, n = 256 * p := ⟨_, rfl⟩
 obtain ⟨M, hM⟩ : ∃ M, M = MemP.zero p := ⟨_, rfl⟩
 rw [← hn, ← hM]
 refine calls_satq [intV (p : Int)] Tryz.func34 Tryz.ntmps34 rfl (by simp) ?_
 refine satq_seqN ?_
 conv => whnf
 refine satq_seqN ?_
 conv => whnf
 refine call_newObjs (memS 0 n p M) (memS 0 n p M) rfl (by kernel_rfl) (memS_sh 0 n p M) (memS_ob n p M) (fun r w hR => by rw [hn, hM]; exact new_mem p w hp) ?_
 conv => whnf
 refine satq_as (f' := [(2, .p (.c (.ref 0 0)))]) (S' := cpuU 0 stZ n p M) (ent_ren [6, 0, 1, 2, 3, 4, 5] (aI rfl trivial) (aI ((Exists.intro _ (aI rfl sM))) (aI ((Exists.intro _ (aI rfl sM))) (aI ((Exists.intro _ (aI rfl (aI rfl (Or.inl (renL_vals _ _).symm))))) (aI ((Exists.intro _ (aI rfl (aI rfl (Or.inl (renL_vals _ _).symm))))) (aI ((Exists.intro _ (aI rfl (aI rfl (Or.inl (renL_vals _ _).symm))))) (aI ((Exists.intro _ (aI rfl (aI rfl (Or.inl (renL_vals _ _).symm))))) (aI ((Exists.intro _ (aI rfl (aI rfl (Or.inl (renL_vals _ _).symm))))) trivial))))))) rfl (by show sbnd 7 (cpuU 0 stZ n p M) = true; simp only [sbnd, Ow.bnd, bndL_vals, bndL, CV.bnd]; rfl) rfl rfl rfl) ?_
 refine satq_vcN ?_
 conv => whnf
 refine atq_ret ?_
 conv => whnf
 exact fin_newObjs 0 (cpuU 0 stZ n p M) (cpuU 0 stZ n p M) (by simp) (fun i _ => by rw [Nat.zero_add]) (cpuU_sh 0 stZ n p M) (cpuU_ob stZ n p M) fun w' g gs h => ⟨g, gs, rfl, h⟩
end Go.Proofs.YtnhdcclpjildjaaGreat
