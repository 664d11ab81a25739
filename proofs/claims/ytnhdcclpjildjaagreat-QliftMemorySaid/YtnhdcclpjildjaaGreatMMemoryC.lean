/- Walks: the program's validity of an instruction of Q. -/
import Derived.Test.YtnhdcclpjildjaaGreatK16
import Derived.Test.YtnhdcclpjildjaaGreatMMemoryB
namespace Go.Proofs.YtnhdcclpjildjaaGreat
open Go.RowKit

set_option maxRecDepth 100000 in
theorem fits_qcode (n : Int) (u : Bool) (w : World) : Calls Tryz.prog 135 #[intV n, .bool u] w fun e w' => e = .returned (.bool (regB n u)) ∧ Below w.heap.size w w' := by
 refine calls_valN [intV n, .bool u] Tryz.func135 Tryz.ntmps135 rfl (by simp) ?_
 conv => whnf
 refine ⟨fun h1 => ?_, fun h1 => ?_⟩
 ·conv => whnf
  (repeat ((first | apply k1 | apply k2 | apply k3 | apply k4 | refine k5 (by decide) ?_ | refine k6 (by decide) ?_); conv => whnf))
  cases u with
  | false =>
   conv => whnf
   (repeat ((first | apply k1 | apply k2 | apply k3 | apply k4 | refine k5 (by decide) ?_ | refine k6 (by decide) ?_); conv => whnf))
   refine fin_val rfl fun w' hB => ⟨?_, hB⟩
   have hn : n ≠ 0 := by simpa using h1
   simp [regB, hn]
  | true =>
   conv => whnf
   (repeat ((first | apply k1 | apply k2 | apply k3 | apply k4 | refine k5 (by decide) ?_ | refine k6 (by decide) ?_); conv => whnf))
   generalize hz : decide (n > 0) = z
   have hn : n ≠ 0 := by simpa using h1
   cases z with
   | false =>
    conv => whnf
    (repeat ((first | apply k1 | apply k2 | apply k3 | apply k4 | refine k5 (by decide) ?_ | refine k6 (by decide) ?_); conv => whnf))
    refine fin_val rfl fun w' hB => ⟨?_, hB⟩
    have : ¬ 0 < n := by simpa using hz
    simp [regB, hn, this]
   | true =>
    conv => whnf
    (repeat ((first | apply k1 | apply k2 | apply k3 | apply k4 | refine k5 (by decide) ?_ | refine k6 (by decide) ?_); conv => whnf))
    refine fin_val rfl fun w' hB => ⟨?_, hB⟩
    have : 0 < n := by simpa using hz
    simp [regB, hn, this]
 ·conv => whnf
  (repeat ((first | apply k1 | apply k2 | apply k3 | apply k4 | refine k5 (by decide) ?_ | refine k6 (by decide) ?_); conv => whnf))
  refine fin_val rfl fun w' hB => ⟨?_, hB⟩
  have hn : n = 0 := by simpa using h1
  simp [regB, hn]
theorem shr_zero {n : Int} {b : Nat} (hn : word n) (hb : b = 18 ∨ b = 22) : (n.fdiv (2 ^ (min (b : Int).toNat IntKind.u32.bits)) == 0) = decide (n < 2 ^ b) := by
 have h0 := hn.1
 rcases hb with rfl | rfl
 ·rw [show (2 : Int) ^ (min ((18 : Nat) : Int).toNat IntKind.u32.bits) = 262144 from rfl, show (2 : Int) ^ 18 = 262144 from rfl, Int.fdiv_eq_ediv_of_nonneg _ (by omega)]
  by_cases h : n < 262144
  ·rw [decide_eq_true h]; simp; omega
  ·rw [decide_eq_false h]; simp; omega
 ·rw [show (2 : Int) ^ (min ((22 : Nat) : Int).toNat IntKind.u32.bits) = 4194304 from rfl, show (2 : Int) ^ 22 = 4194304 from rfl, Int.fdiv_eq_ediv_of_nonneg _ (by omega)]
  by_cases h : n < 4194304
  ·rw [decide_eq_true h]; simp; omega
  ·rw [decide_eq_false h]; simp; omega
set_option maxRecDepth 100000 in
set_option maxHeartbeats 1000000 in
theorem imm_walk (f : QForm) (n : Int) (w : World) (hf : FOk f) (hn : word n) : Calls Tryz.prog 136 #[shV f, .int .u32 n] w fun e w' => e = .returned (.bool (immB f n)) ∧ Below w.heap.size w w' := by
 obtain ⟨is, fd, fa, fb, fs, bits, most⟩ := f
 obtain ⟨hb, hm, hs⟩ := hf
 dsimp only at hb hm hs
 have hk : kindF ⟨is, fd, fa, fb, fs, bits, most⟩ = if bits = 0 then 0 else if fs = true then 1 else 2 := rfl
 refine calls_valN [.agg #[.bool is, .bool fd, .bool fa, .bool fb, intV (kindF ⟨is, fd, fa, fb, fs, bits, most⟩), intV bits, .int .u32 most], .int .u32 n] Tryz.func136 Tryz.ntmps136 rfl (by simp) ?_
 rw [hk]
 rcases hb with rfl | hb
 ·rw [if_pos rfl]
  conv => whnf
  (repeat ((first | apply k1 | apply k2 | apply k3 | apply k4 | refine k5 (by decide) ?_ | refine k6 (by decide) ?_); conv => whnf))
  conv => whnf
  exact fin_val rfl fun w' hB => ⟨rfl, hB⟩
 have hb0 : ¬ bits = 0 := by omega
 rw [if_neg hb0]
 cases fs with
 | true =>
  rw [if_pos rfl]
  conv => whnf
  (repeat ((first | apply k1 | apply k2 | apply k3 | apply k4 | refine k5 (by decide) ?_ | refine k6 (by decide) ?_); conv => whnf))
  conv => whnf
  refine call_con rfl (by kernel_rfl) (fun r w' _ => fits_word n bits w' hn hb) ?_
  conv => whnf
  refine fin_val rfl fun w' hB => ⟨?_, hB⟩
  simp [immB, hb0]
 | false =>
  rw [if_neg (by decide)]
  conv => whnf
  (repeat ((first | apply k1 | apply k2 | apply k3 | apply k4 | refine k5 (by decide) ?_ | refine k6 (by decide) ?_); conv => whnf))
  conv => whnf
  refine ⟨fun hc => ?_, fun hc => ?_⟩
  ·conv => whnf
   refine fin_val rfl fun w' hB => ⟨?_, hB⟩
   have : 0 < most := by simpa using hc
   simp [immB, hb0, this]
  ·conv => whnf
   refine ⟨by omega, _, rfl, ?_⟩
   conv => whnf
   refine fin_val rfl fun w' hB => ⟨?_, hB⟩
   have : ¬ 0 < most := by simpa using hc
   rw [shr_zero hn hb]
   simp [immB, hb0, this]
set_option maxRecDepth 100000 in
set_option maxHeartbeats 1000000 in
theorem valid_walk (i : QI) (w : World) (h : 0 ≤ i.op ∧ i.op < 64) (hi : word i.imm) : Calls Tryz.prog 122 #[qiV i] w fun e w' => e = .returned (.bool (validQ i)) ∧ Below w.heap.size w w' := by
 refine calls_valN [qiV i] Tryz.func122 Tryz.ntmps122 rfl (by simp) ?_
 conv => whnf
 refine call_con rfl (by kernel_rfl) (fun r w' _ => of_walk i.op w' h) ?_
 have hf := form_ok i.op
 unfold validQ
 generalize qForm i.op = f at hf
 have hf2 := hf
 obtain ⟨is, fd, fa, fb, fs, bits, most⟩ := f
 dsimp only
 cases is with
 | false =>
  conv => whnf
  (repeat ((first | apply k1 | apply k2 | apply k3 | apply k4 | refine k5 (by decide) ?_ | refine k6 (by decide) ?_); conv => whnf))
  exact fin_val rfl fun w' hB => ⟨rfl, hB⟩
 | true =>
  conv => whnf
  (repeat ((first | apply k1 | apply k2 | apply k3 | apply k4 | refine k5 (by decide) ?_ | refine k6 (by decide) ?_); conv => whnf))
  refine call_con rfl (by kernel_rfl) (fun r w' _ => fits_qcode i.d fd w') ?_
  generalize regB i.d fd = x1
  cases x1 with
  | false =>
   conv => whnf
   (repeat ((first | apply k1 | apply k2 | apply k3 | apply k4 | refine k5 (by decide) ?_ | refine k6 (by decide) ?_); conv => whnf))
   exact fin_val rfl fun w' hB => ⟨rfl, hB⟩
  | true =>
   conv => whnf
   (repeat ((first | apply k1 | apply k2 | apply k3 | apply k4 | refine k5 (by decide) ?_ | refine k6 (by decide) ?_); conv => whnf))
   refine call_con rfl (by kernel_rfl) (fun r w' _ => fits_qcode i.a fa w') ?_
   generalize regB i.a fa = x2
   cases x2 with
   | false =>
    conv => whnf
    (repeat ((first | apply k1 | apply k2 | apply k3 | apply k4 | refine k5 (by decide) ?_ | refine k6 (by decide) ?_); conv => whnf))
    exact fin_val rfl fun w' hB => ⟨rfl, hB⟩
   | true =>
    conv => whnf
    (repeat ((first | apply k1 | apply k2 | apply k3 | apply k4 | refine k5 (by decide) ?_ | refine k6 (by decide) ?_); conv => whnf))
    refine call_con rfl (by kernel_rfl) (fun r w' _ => fits_qcode i.b fb w') ?_
    generalize regB i.b fb = x3
    cases x3 with
    | false =>
     conv => whnf
     (repeat ((first | apply k1 | apply k2 | apply k3 | apply k4 | refine k5 (by decide) ?_ | refine k6 (by decide) ?_); conv => whnf))
     exact fin_val rfl fun w' hB => ⟨rfl, hB⟩
    | true =>
     conv => whnf
     (repeat ((first | apply k1 | apply k2 | apply k3 | apply k4 | refine k5 (by decide) ?_ | refine k6 (by decide) ?_); conv => whnf))
     refine call_con rfl (by kernel_rfl) (fun r w' _ => imm_walk _ i.imm w' hf2 hi) ?_
     conv => whnf
     (repeat ((first | apply k1 | apply k2 | apply k3 | apply k4 | refine k5 (by decide) ?_ | refine k6 (by decide) ?_); conv => whnf))
     exact fin_val rfl fun w' hB => ⟨by simp, hB⟩
set_option maxRecDepth 100000 in
set_option maxHeartbeats 2000000 in
theorem encode_walk (i : QI) (w : World) (h : 0 ≤ i.op ∧ i.op < 64) (hi : word i.imm) : Calls Tryz.prog 117 #[qiV i] w fun e w' => e = .returned (encV (encQ i)) ∧ Below w.heap.size w w' := by
 refine calls_valN [qiV i] Tryz.func117 Tryz.ntmps117 rfl (by simp) ?_
 conv => whnf
 refine call_con rfl (by kernel_rfl) (fun r w' _ => valid_walk i w' h hi) ?_
 unfold encQ
 cases hv : validQ i with
 | false =>
  conv => whnf
  (repeat ((first | apply k1 | apply k2 | apply k3 | apply k4 | refine k5 (by decide) ?_ | refine k6 (by decide) ?_); conv => whnf))
  exact fin_val rfl fun w' hB => ⟨rfl, hB⟩
 | true =>
  obtain ⟨r0, rd, ra, rb⟩ := validQ_range hv
  have hor := enc_or hv hi
  have o1 : orI (i.op * 67108864) (i.d * 4194304) = i.op * 67108864 + i.d * 4194304 := orI_add 26 (by omega) (by omega) (by omega)
  have o2 : orI (i.op * 67108864 + i.d * 4194304) (i.a * 262144) = i.op * 67108864 + i.d * 4194304 + i.a * 262144 := orI_add 22 (by omega) (by omega) (by omega)
  have o3 : orI (i.op * 67108864 + i.d * 4194304 + i.a * 262144) (i.b * 16384) = i.op * 67108864 + i.d * 4194304 + i.a * 262144 + i.b * 16384 := orI_add 18 (by omega) (by omega) (by omega)
  rw [o1, o2, o3] at hor
  conv => whnf
  (repeat ((first | apply k1 | apply k2 | apply k3 | apply k4 | refine k5 (by decide) ?_ | refine k6 (by decide) ?_); conv => whnf))
  conv => whnf
  refine ⟨i.op, by rw [wr32]; omega, ?_⟩
  conv => whnf
  refine ⟨by omega, i.op * 67108864, by rw [wr32]; show i.op * 67108864 % _ = _; omega, ?_⟩
  conv => whnf
  refine ⟨i.d, by rw [wr32]; omega, ?_⟩
  conv => whnf
  refine ⟨by omega, i.d * 4194304, by rw [wr32]; show i.d * 4194304 % _ = _; omega, ?_⟩
  conv => whnf
  refine ⟨_, (u32_or (by unfold word; omega) (by unfold word; omega)).trans o1, ?_⟩
  conv => whnf
  refine ⟨i.a, by rw [wr32]; omega, ?_⟩
  conv => whnf
  refine ⟨by omega, i.a * 262144, by rw [wr32]; show i.a * 262144 % _ = _; omega, ?_⟩
  conv => whnf
  refine ⟨_, (u32_or (by unfold word; omega) (by unfold word; omega)).trans o2, ?_⟩
  conv => whnf
  refine ⟨i.b, by rw [wr32]; omega, ?_⟩
  conv => whnf
  refine ⟨by omega, i.b * 16384, by rw [wr32]; show i.b * 16384 % _ = _; omega, ?_⟩
  conv => whnf
  refine ⟨_, (u32_or (by unfold word; omega) (by unfold word; omega)).trans o3, ?_⟩
  conv => whnf
  refine sat_quiet mixed (by kernel_rfl) ?_
  conv => whnf
  refine q_con rfl (by kernel_rfl) (fun r w' _ => of_walk i.op w' h) ?_
  have hf := form_ok i.op
  generalize qForm i.op = f at hf hor ⊢
  conv => whnf
  have hsh : ∃ m, 0 ≤ (f.bits : Int) ∧ IntKind.u32.wrap (1 * 2 ^ (min (f.bits : Int).toNat IntKind.u32.bits)) = m ∧ m = 2 ^ f.bits := by
   rcases hf.bits with hb | hb | hb <;> rw [hb] <;> exact ⟨_, by omega, rfl, rfl⟩
  obtain ⟨m, s1, s2, s3⟩ := hsh
  refine ⟨s1, m, s2, ?_⟩
  have hm1 : 1 ≤ m ∧ m ≤ 4194304 := by rw [s3]; rcases hf.bits with hb | hb | hb <;> rw [hb] <;> omega
  conv => whnf
  refine ⟨m - 1, by rw [wr32]; omega, ?_⟩
  conv => whnf
  have hand : word (andI i.imm (2 ^ f.bits - 1)) := by
   rw [andI_mod f.bits hi.1]
   rcases hf.bits with hb | hb | hb <;> rw [hb] <;> unfold word <;> omega
  refine ⟨andI i.imm (2 ^ f.bits - 1), by rw [← s3]; exact u32_and hi (by unfold word; omega), ?_⟩
  conv => whnf
  refine ⟨wordQ i, (u32_or (by unfold word; omega) hand).trans hor, ?_⟩
  conv => whnf
  exact fin_val rfl fun w' hB => ⟨rfl, hB⟩
end Go.Proofs.YtnhdcclpjildjaaGreat
namespace Go.Proofs.YtnhdcclpjildjaaGreat
open Go.RowKit

section
variable {P : Program} {w0 : World} {G : Gs} {S : List Ow} {fid : FuncId} {t : TypeId} {us : List Value} {pre : List AV} {ps : List Value} {x : Value}
theorem box_calls (i : Nat) (hi : S[i]? = some (.cells t (us.map .v))) (hx : avals pre = some ps)
  (h : ∀ w b, w.heap[b]? = some (.cells us.toArray t (0, 0)) → Calls P fid (ps ++ [Value.pointer (some ⟨b, 0, none⟩)]).toArray w fun e w' => e = .returned x ∧ Below w.heap.size w w') :
  ∀ r w vs, Rel w0 G S r w → avdenL r (pre ++ [.p (.c (.ref i 0))]) vs → Calls P fid vs.toArray w fun e w' => e = .returned x ∧ Below w.heap.size w w' := by
 intro r w vs hR hd
 obtain ⟨us1, us2, rfl, d1, d2⟩ := avden_append hd
 obtain rfl := avals_den hx d1
 obtain ⟨u1, l1, rfl, d3, d4⟩ := d2
 obtain rfl : l1 = [] := d4
 obtain ⟨b, hb, rfl⟩ := den_ref d3
 obtain ⟨b', us3, e1, e2, e3⟩ := hR.own i _ hi
 rw [hb] at e1; injection e1 with e1; subst e1
 obtain rfl := denL_vals_inv e3
 exact h w b e2
theorem q_box {K : AV → Prop} (i : Nat) (hi : S[i]? = some (.cells t (us.map .v))) (hx : avals pre = some ps) (hok : fnOk P fid = true)
  (h : ∀ w b, w.heap[b]? = some (.cells us.toArray t (0, 0)) → Calls P fid (ps ++ [Value.pointer (some ⟨b, 0, none⟩)]).toArray w fun e w' => e = .returned x ∧ Below w.heap.size w w') (hK : K (AV.of x)) : QCall P w0 G S fid (pre ++ [.p (.c (.ref i 0))]) K :=
 ⟨hok, x, hK, box_calls i hi hx h⟩
end
theorem shr_at {x : Int} (h0 : 0 ≤ x) {k : Int} (hk : k = 22 ∨ k = 18 ∨ k = 14) : x.fdiv (2 ^ (min k.toNat IntKind.u32.bits)) = x / 2 ^ k.toNat ∧ 0 ≤ x / 2 ^ k.toNat := by
 rcases hk with rfl | rfl | rfl
 ·rw [show (min (22 : Int).toNat IntKind.u32.bits) = 22 from rfl, show (22 : Int).toNat = 22 from rfl, Int.fdiv_eq_ediv_of_nonneg _ (by omega)]; exact ⟨rfl, by omega⟩
 ·rw [show (min (18 : Int).toNat IntKind.u32.bits) = 18 from rfl, show (18 : Int).toNat = 18 from rfl, Int.fdiv_eq_ediv_of_nonneg _ (by omega)]; exact ⟨rfl, by omega⟩
 ·rw [show (min (14 : Int).toNat IntKind.u32.bits) = 14 from rfl, show (14 : Int).toNat = 14 from rfl, Int.fdiv_eq_ediv_of_nonneg _ (by omega)]; exact ⟨rfl, by omega⟩
set_option maxRecDepth 100000 in
theorem field_walk (x k : Int) (used : Bool) (w : World) (b : Nat) (hb : w.heap[b]? = some (.cells #[.int .u32 x] 35 (0, 0))) (h0 : 0 ≤ x) (hk : k = 22 ∨ k = 18 ∨ k = 14) :
  Calls Tryz.prog 115 #[.bool used, intV k, .pointer (some ⟨b, 0, none⟩)] w fun e w' => e = .returned (intV (if used = true then x / 2 ^ k.toNat % 16 else 0)) ∧ Below w.heap.size w w' := by
 refine calls_valN [.bool used, intV k, .pointer (some ⟨b, 0, none⟩)] Tryz.func115 Tryz.ntmps115 rfl (by simp) ?_
 cases used with
 | false =>
  conv => whnf
  (repeat ((first | apply k1 | apply k2 | apply k3 | apply k4 | refine k5 (by decide) ?_ | refine k6 (by decide) ?_); conv => whnf))
  exact fin_val rfl fun w' hB => ⟨rfl, hB⟩
 | true =>
  conv => whnf
  (repeat ((first | apply k1 | apply k2 | apply k3 | apply k4 | refine k5 (by decide) ?_ | refine k6 (by decide) ?_); conv => whnf))
  conv => whnf
  have hlt : b < w.heap.size := by
   rcases Nat.lt_or_ge b w.heap.size with h | h
   ·exact h
   ·rw [Array.getElem?_eq_none h] at hb; cases hb
  refine ⟨_, cells_one hlt (by simp) (by simp [World.cell?, hb]; rfl), ?_⟩
  conv => whnf
  obtain ⟨e1, e2⟩ := shr_at h0 hk
  refine ⟨by omega, _, e1, ?_⟩
  conv => whnf
  refine ⟨by decide, x / 2 ^ k.toNat % 16, Int.tmod_eq_emod_of_nonneg e2, ?_⟩
  conv => whnf
  refine ⟨x / 2 ^ k.toNat % 16, wr64 (by omega), ?_⟩
  conv => whnf
  exact fin_val rfl fun w' hB => ⟨rfl, hB⟩
set_option maxRecDepth 100000 in
set_option maxHeartbeats 2000000 in
theorem decode_walk (x : Int) (w : World) (hx : word x) : Calls Tryz.prog 97 #[.int .u32 x] w fun e w' => e = .returned (decV (decQ x)) ∧ Below w.heap.size w w' := by
 have h0 := hx.1
 obtain ⟨q1, q2⟩ := q26 hx
 refine calls_satq [.int .u32 x] Tryz.func97 Tryz.ntmps97 rfl (by simp) ?_
 refine satq_seqN ?_
 conv => whnf
 refine satq_seqN ?_
 conv => whnf
 refine ⟨by decide, x / 67108864, ?_, ?_⟩
 ·show x.fdiv (2 ^ 26) = _
  rw [show (2 : Int) ^ 26 = 67108864 from rfl, Int.fdiv_eq_ediv_of_nonneg _ (by omega)]
 conv => whnf
 refine ⟨x / 67108864, wr64 (by omega), ?_⟩
 conv => whnf
 refine satq_seqN ?_
 conv => whnf
 refine call_con rfl (by kernel_rfl) (fun r w' _ => of_walk (x / 67108864) w' q2) ?_
 have hf := form_ok (x / 67108864)
 have hy : fieldsQ x = fieldsF (qForm (x / 67108864)) x := rfl
 unfold decQ
 rw [hy]
 clear hy
 generalize qForm (x / 67108864) = f at hf ⊢
 obtain ⟨is, fd, fa, fb, fs, bits, most⟩ := f
 obtain ⟨hb, hm, hs⟩ := hf
 dsimp only at hb hm hs
 conv => whnf
 refine satq_seqN ?_
 conv => whnf
 refine satq_seqN ?_
 conv => whnf
 refine sat_tail 13 mixed (by kernel_rfl) ?_
 conv => whnf
 refine q_box (us := [.int .u32 x]) 0 rfl rfl (by kernel_rfl) (fun w b hb => field_walk x 22 fd w b hb h0 (.inl rfl)) ?_
 conv => whnf
 refine q_box (us := [.int .u32 x]) 0 rfl rfl (by kernel_rfl) (fun w b hb => field_walk x 18 fa w b hb h0 (.inr (.inl rfl))) ?_
 conv => whnf
 refine q_box (us := [.int .u32 x]) 0 rfl rfl (by kernel_rfl) (fun w b hb => field_walk x 14 fb w b hb h0 (.inr (.inr rfl))) ?_
 conv => whnf
 refine satq_seqN ?_
 conv => whnf
 refine sat_tail 7 mixed (by kernel_rfl) ?_
 conv => whnf
 have hsh : ∃ m, 0 ≤ (bits : Int) ∧ IntKind.u32.wrap (1 * 2 ^ (min (bits : Int).toNat IntKind.u32.bits)) = m ∧ m = 2 ^ bits := by
  rcases hb with hb | hb | hb <;> rw [hb] <;> exact ⟨_, by omega, rfl, rfl⟩
 obtain ⟨m, s1, s2, s3⟩ := hsh
 refine ⟨s1, m, s2, ?_⟩
 have hm1 : 1 ≤ m ∧ m ≤ 4194304 := by rw [s3]; rcases hb with hb | hb | hb <;> rw [hb] <;> omega
 conv => whnf
 refine ⟨m - 1, by rw [wr32]; omega, ?_⟩
 conv => whnf
 refine ⟨x % 2 ^ bits, by rw [← andI_mod bits h0, ← s3]; exact u32_and hx (by unfold word; omega), ?_⟩
 conv => whnf
 have hwl : word (x % 2 ^ bits) := by rcases hb with hb | hb | hb <;> rw [hb] <;> unfold word <;> omega
 obtain ⟨y, hy⟩ : ∃ y, fieldsF ⟨is, fd, fa, fb, fs, bits, most⟩ x = y := ⟨_, rfl⟩
 rw [hy]
 have hyop : y.op = x / 67108864 := by rw [← hy]; rfl
 have hk : kindF ⟨is, fd, fa, fb, fs, bits, most⟩ = if fs = true then 1 else if bits = 0 then 0 else 2 := by
  cases fs <;> rcases hb with rfl | rfl | rfl <;> simp [kindF] at hs ⊢
 have hyw : word y.imm := by
  rw [← hy]
  unfold fieldsF
  dsimp only
  split
  ·rename_i h; exact sgnW_w _ (by rcases hb with hb | hb | hb; · exact absurd (hs h).1 (by omega)
                                  · exact .inr (.inl hb)
                                  · exact .inr (.inr hb))
  ·exact hwl
 have hcell : (fieldsF ⟨is, fd, fa, fb, fs, bits, most⟩ x) = ⟨x / 67108864, if fd = true then x / 2 ^ (22 : Int).toNat % 16 else 0, if fa = true then x / 2 ^ (18 : Int).toNat % 16 else 0, if fb = true then x / 2 ^ (14 : Int).toNat % 16 else 0, if fs = true then sgnW (x % 2 ^ bits) bits else x % 2 ^ bits⟩ := rfl
 refine satq_cut (α := Unit) (fun _ => [(1, .p (.c (.ref 0 0))), (2, .p (.c (.ref 1 0))), (4, .p (.c (.ref 2 0)))]) (fun _ => [.cells 35 ([Value.int .u32 x].map .v), .cells 62 ((qiL QI.zero).map .v), .cells 62 ((qiL y).map .v)]) ?_ fun _ => ?_
 ·conv => whnf
  rw [hk]
  cases fs with
  | false =>
   rw [if_neg (by decide)]
   refine ⟨fun hc => absurd hc (by split <;> simp), fun _ => ?_⟩
   conv => whnf
   refine ⟨(), ent_drop (aI rfl (aI rfl (aI rfl trivial))) (aI sM (aI sM (aI ((aI rfl (Or.inl (by rw [← hy]; rfl)))) trivial))) rfl rfl⟩
  | true =>
   rw [if_pos rfl]
   (repeat ((first | apply k1 | apply k2 | apply k3 | apply k4 | refine k5 (by decide) ?_ | refine k6 (by decide) ?_); conv => whnf))
   have hb2 : bits = 18 ∨ bits = 22 := by have := hs rfl; omega
   refine call_con rfl (by kernel_rfl) (fun r w' _ => sign_word (x % 2 ^ bits) bits w' hwl hb2) ?_
   conv => whnf
   refine ⟨(), ent_drop (aI rfl (aI rfl (aI rfl trivial))) (aI sM (aI sM (aI ((aI rfl (Or.inl (by rw [← hy]; rfl)))) trivial))) rfl rfl⟩
 clear hk hcell hs hb hm
 refine satq_seqN ?_
 conv => whnf
 refine call_con (xs := [qiV y]) rfl (by kernel_rfl) (fun r w' _ => encode_walk y w' (by rw [hyop]; exact q2) hyw) ?_
 generalize encQ y = ey
 cases ey with
 | none =>
  conv => whnf
  (repeat ((first | apply k1 | apply k2 | apply k3 | apply k4 | refine k5 (by decide) ?_ | refine k6 (by decide) ?_); conv => whnf))
  conv => whnf
  refine atq_ret ?_
  conv => whnf
  exact fin_val rfl fun w' hB => ⟨by simp [decV, QI.zero], hB⟩
 | some z =>
  conv => whnf
  (repeat ((first | apply k1 | apply k2 | apply k3 | apply k4 | refine k5 (by decide) ?_ | refine k6 (by decide) ?_); conv => whnf))
  conv => whnf
  refine ⟨fun hc => ?_, fun hc => ?_⟩
  ·conv => whnf
   refine atq_ret ?_
   conv => whnf
   refine fin_val rfl fun w' hB => ⟨?_, hB⟩
   have : ¬ z = x := by simpa using hc
   simp [decV, QI.zero, this]
  ·conv => whnf
   refine satq_vcN ?_
   conv => whnf
   refine atq_ret ?_
   conv => whnf
   refine fin_val rfl fun w' hB => ⟨?_, hB⟩
   have : z = x := by simpa using hc
   rw [if_pos (by rw [this])]
   rfl
end Go.Proofs.YtnhdcclpjildjaaGreat
namespace Go.Proofs.YtnhdcclpjildjaaGreat
open Go.RowKit

theorem bytesA_append (l m : List Int) : bytesA (l ++ m) = bytesA l ++ bytesA m := by
 have h : (bytesA (l ++ m)).data = (bytesA l ++ bytesA m).data := by
  apply Array.ext'
  rw [bytesA_list, List.map_append, ByteArray.data_append, Array.toList_append, bytesA_list, bytesA_list]
 exact ByteArray.ext h
section
variable {P : Program} {w0 : World} {G : Gs} {N : Nd} {S : List Ow} {f : Fr} {o : Oper}
theorem opS_q {K : Fr → List Ow → Prop} (h : QRun P w0 G S f o fun v => K (f.put o.dst v) S) (hdst : dstOk N.n o.dst = true) : OpS P w0 G N o f S K :=
 ⟨fun r a w hR hf hN hd next Q hK => by
  obtain ⟨v, u, hk, hv, hrun⟩ := h.use hR hf
  exact wp_of_value (hrun w (Below.refl _ _)) (hK _ _ _ _ hk ⟨r, hR, hf.put hv (by rw [hN]; exact hdst), (put_size a _ _).trans hN, (put_defers a _ _).trans hd⟩)⟩
theorem q_cat_str {K : AV → Prop} {t t' : TypeId} {x y : Operand} (l m : List Int) (hop : o.op = .binOp .add t x y t') (hx : f.ev x = one (strV l)) (hy : f.ev y = one (strV m)) (hlen : l.length + m.length ≤ 9223372036854775807) (hk : K (one (strV (l ++ m)))) : QRun P w0 G S f o K := by
 refine ⟨_, hk, fun r a hf => ?_⟩
 have h1 := hf.ev x
 have h2 := hf.ev y
 rw [hx] at h1; rw [hy] at h2
 refine ⟨_, rfl, fun w hR => ?_⟩
 have hb : ¬ ((((bytesA l).size + (bytesA m).size : Nat) : Int) > IntKind.i64.max) := by
  rw [bytesA_size, bytesA_size]
  show ¬ (_ > (9223372036854775807 : Int))
  omega
 have hb' : ¬ (IntKind.i64.max < ((bytesA l).size : Int) + ((bytesA m).size : Int)) := by omega
 simp [execOp, hop, den_v h1, den_v h2, strV, binOp, Op.stringOp, eqGuard, bytesA_append]
 rw [bytesA_size, bytesA_size]; omega
theorem q_conv_plain {K : AV → Prop} {x : Operand} {src dst e : TypeId} (b off n c : Nat) (m : List Int) (hop : o.op = .convert src dst x) (hs : P.underlying src = some (.slice e)) (he : P.underlying e = some (.int .u8)) (hd : P.underlying dst = some .string) (hx : f.ev x = one (.slice (some ⟨b, off, none⟩) n c)) (hi : CellsAt w0 G b off (m.map (Value.int .u8))) (hn : m.length = n) (hk : K (one (strV m))) : QRun P w0 G S f o K := by
 refine ⟨_, hk, fun r a hf => ?_⟩
 have h1 := hf.ev x
 rw [hx] at h1
 refine ⟨_, rfl, fun w hR => ?_⟩
 have hl : (loadCells ⟨b, off, none⟩ n).run P w = .ok (m.map (Value.int .u8)).toArray w := by
  unfold loadCells
  have := run_loadCells (P := P) (w := w) (b := b) (off := off) n 0 #[] (m.map (Value.int .u8)) (by simp [hn]) (fun j u hj => by
   rw [Nat.add_zero, hR.oldCell hi.1 hi.2.1]; exact hi.2.2 j u hj)
  simpa using this
 simp [execOp, hop, den_v h1, run_convert_bytes_string w src dst e _ n c hs he hd, run_bytesToString w _ n c m hl, strV, bytesA]
theorem q_slice_own {K : AV → Prop} {t e : TypeId} {x : Operand} {lo hi : Option Operand} {inf : TypeInfo} (i off n c l h size : Nat) (hop : o.op = .slice t x lo hi none) (ht : P.underlying t = some (.slice e)) (hif : P.info? e = some inf) (hsz : inf.size = size) (hx : f.ev x = .p (.c (.sl i off n c)))
  (hl : (lo = none ∧ l = 0) ∨ ∃ y q, lo = some y ∧ f.ev y = one (.int q (l : Int))) (hh : (hi = none ∧ h = n) ∨ ∃ y q, hi = some y ∧ f.ev y = one (.int q (h : Int))) (hlh : l ≤ h) (hhc : h ≤ c) (hlc : l < c) (hk : K (.p (.c (.sl i (off + l * size) (h - l) (c - l))))) : QRun P w0 G S f o K := by
 refine ⟨_, hk, fun r a hf => ?_⟩
 have h1 := hf.ev x
 rw [hx] at h1
 obtain ⟨b, hb, hu⟩ := den_sl h1
 refine ⟨.slice (some ⟨b, off + l * size, none⟩) (h - l) (c - l), ?_, fun w hR => ?_⟩
 ·simp only [AV.den, Pc.den, CV.den]; exact ⟨b, hb, rfl⟩
 ·have hrun := run_slice ht hif (some ⟨b, off, none⟩) n c l h (lo.map a.eval) (hi.map a.eval) (by
   rcases hl with ⟨rfl, rfl⟩ | ⟨y, q, rfl, hy⟩
   ·exact .inl ⟨rfl, rfl⟩
   ·have h2 := hf.ev y; rw [hy] at h2; exact .inr ⟨q, by simp [den_v h2]⟩) (by
   rcases hh with ⟨rfl, rfl⟩ | ⟨y, q, rfl, hy⟩
   ·exact .inl ⟨rfl, rfl⟩
   ·have h2 := hf.ev y; rw [hy] at h2; exact .inr ⟨q, by simp [den_v h2]⟩) hlh hhc w
  rw [if_neg (by omega)] at hrun
  simp [execOp, hop, hu, hrun, addr_add, hsz]
end
end Go.Proofs.YtnhdcclpjildjaaGreat
namespace Go.Proofs.YtnhdcclpjildjaaGreat
open Go.RowKit

def byteAt (n : Int) (j : Nat) : Int := n / 2 ^ (8 * j) % 256
def putTo (n : Int) (j : Nat) : List Int := (List.range j).map (byteAt n)
def putL (n : Int) : List Int := putTo n 4
theorem putTo_succ (n : Int) (j : Nat) : putTo n (j + 1) = putTo n j ++ [byteAt n j] := by
 unfold putTo; rw [List.range_succ, List.map_append]; rfl
theorem putTo_length (n : Int) (j : Nat) : (putTo n j).length = j := by unfold putTo; simp
theorem byteAt_range (n : Int) (j : Nat) : 0 ≤ byteAt n j ∧ byteAt n j < 256 := by unfold byteAt; omega
theorem putTo_bytes (n : Int) (j : Nat) : ∀ x ∈ putTo n j, 0 ≤ x ∧ x < 256 := fun x hx => by
 unfold putTo at hx
 obtain ⟨k, _, rfl⟩ := List.mem_map.1 hx
 exact byteAt_range n k
theorem byte_shr {n : Int} (h : word n) {j : Nat} (hj : j < 4) : IntKind.u8.wrap (n.fdiv (2 ^ (min ((8 : Int) * j).toNat IntKind.u32.bits))) = byteAt n j := by
 have h0 := h.1
 have e : (min ((8 : Int) * j).toNat IntKind.u32.bits) = 8 * j := by
  show min ((8 : Int) * j).toNat 32 = 8 * j
  omega
 rw [e, Int.fdiv_eq_ediv_of_nonneg _ (Int.le_of_lt (Int.pow_pos (by omega)))]
 rfl
set_option maxRecDepth 100000 in
theorem put_walk (n : Int) (w : World) (hn : word n) : Calls Tryz.prog 27 #[.int .u32 n, intV 4] w fun e w' => e = .returned (strV (putL n)) ∧ Below w.heap.size w w' := by
 refine calls_val [.int .u32 n, intV 4] Tryz.func27 Tryz.ntmps27 rfl (by simp) ?_
 conv => whnf
 refine ⟨{ j : Nat // j ≤ 4 }, fun x => [(0, one (.int .u32 n)), (1, one (intV 4)), (5, one (strV (putTo n x.1))), (6, one (intV (x.1 : Int)))], fun x => [], fun x => 4 - x.1, ⟨⟨0, by omega⟩, ent_same rfl (aI rfl (aI rfl (aI rfl (aI rfl trivial)))) trivial⟩, fun x => ?_⟩
 obtain ⟨j, hj⟩ := x
 dsimp only
 have hlen := putTo_length n j
 have hs := putTo_succ n j
 generalize hl : putTo n j = l at hlen hs ⊢
 conv => whnf
 refine ⟨decide ((j : Int) < 4), fun _ => ?_, ?_⟩
 ·conv => whnf
  exact ⟨rfl, rfl, rfl, rfl, rfl⟩
 conv => whnf
 refine ⟨fun hc => ?_, fun hc => ?_⟩
 ·have hlt : j < 4 := by simp [cmb] at hc; omega
  conv => whnf
  refine ⟨(8 : Int) * j, wr64 (by omega), ?_⟩
  conv => whnf
  refine ⟨by omega, _, rfl, ?_⟩
  conv => whnf
  refine ⟨byteAt n j, byte_shr hn hlt, ?_⟩
  conv => whnf
  refine q_conv_str 0 1 1 [byteAt n j] rfl rfl rfl rfl rfl rfl rfl ?_
  conv => whnf
  refine q_cat_str l [byteAt n j] rfl rfl rfl (by simp; omega) ?_
  conv => whnf
  refine ⟨_, wr64 (by omega), ?_⟩
  conv => whnf
  exact ⟨⟨j + 1, by omega⟩, ent_drop (aI rfl (aI rfl (aI ((by rw [hs]; rfl)) (aI rfl trivial)))) trivial rfl rfl, by show 4 - (j + 1) < 4 - j; omega⟩
 ·have hje : j = 4 := by simp [cmb] at hc; omega
  subst hje
  conv => whnf
  refine ⟨_, _, ent_refl, ?_⟩
  conv => whnf
  exact fin_val rfl fun w' hB => ⟨by rw [← hl]; rfl, hB⟩
end Go.Proofs.YtnhdcclpjildjaaGreat
namespace Go.Proofs.YtnhdcclpjildjaaGreat
open Go.RowKit

theorem calls_satq_rel {P : Program} {N : Nat} {c : Code} {fn : Func} {R : Ending → World → Prop} {fid : FuncId} {w : World} {G : Gs} {S0 : List Ow} {r0 : Env} (avs : List AV) (args : List Value) (hf : P.funcs[fid]? = some fn) (hN : fn.ntmps = N) (hb : fn.body = some c) (hle : args.length ≤ N) (hR : Rel w G S0 r0 w) (hargs : avdenL r0 avs args)
  (h : SatQ P w G ⟨N, []⟩ c (argFr avs 0) S0 (bodyPostM Fence.wide 10 P fn R)) : Calls P fid args.toArray w R := by
 refine callsIn_wide.1 (callsIn_of_wp_marks (n := 10) hf hb trivial (h.out _ w ⟨r0, hR, fun i => ?_, by simp; omega, rfl⟩))
 refine argFr_get (r := r0) avs args 0 hargs (fun j u hj => ?_) i
 rw [Nat.zero_add, Array.getD_eq_getD_getElem?, Array.getElem?_append_left (by simp; rcases Nat.lt_or_ge j args.length with h1 | h1; exact h1; rw [List.getElem?_eq_none h1] at hj; cases hj)]
 have : args.toArray[j]? = some u := by simpa using hj
 rw [this]; rfl
theorem satq_loopX {P : Program} {w0 : World} {G : Gs} {N : Nd} {c : Code} {f : Fr} {S : List Ow} {Q : Exit → Act → World → Prop} {α : Type} (T : α → Fr) (J : α → World → Prop) (m : α → Nat) (x0 : α) (hf : FLe (plF f) (T x0)) (hJ : ∀ r w, Rel w0 G S r w → J x0 w) (hround : ∀ x w, J x w → SatQ P w Gs.nil N c (T x) [] (RoundW N T J m (m x) Q)) : SatQ P w0 G N (.loop c) f S Q :=
 satq_loopW T J m x0 (fun r w hR => ⟨fun _a hf' => hf.den (plF_den hf'), hJ r w hR⟩) hround
section
variable {P : Program} {w0 : World} {G : Gs} {N : Nd} {S : List Ow} {f : Fr} {o : Oper}
theorem equal_nils_at {t e : TypeId} (ht : P.underlying t = some (.pointer e)) (d : Nat) (w : World) : (Op.equalIn (d + 1) t (.pointer none) (.pointer none)).run P w = .ok true w := by
 simp [Op.equalIn, run_underlying ht]
theorem equal_nils {t e : TypeId} (ht : P.underlying t = some (.pointer e)) (_ : Unit) (w : World) : (Op.equal t (.pointer none) (.pointer none)).run P w = .ok true w := equal_nils_at ht 9999 w
theorem q_nil_v {K : AV → Prop} {t t' e : TypeId} {x y : Operand} (p : Option Addr) (hop : o.op = .binOp .eql t x y t') (ht : P.underlying t = some (.pointer e)) (hx : f.ev x = one (.pointer p)) (hy : f.ev y = one (.pointer none)) (hk : K (one (.bool p.isNone))) : QRun P w0 G S f o K := by
 refine ⟨_, hk, fun r a hf => ?_⟩
 have h1 := hf.ev x
 have h2 := hf.ev y
 rw [hx] at h1; rw [hy] at h2
 refine ⟨_, den_one _ _, fun w hR => ?_⟩
 cases p with
 | none =>
  have he := equal_nils (P := P) ht () w
  simp [execOp, hop, den_v h1, den_v h2, eqGuard, binOp, he]
 | some p =>
  have he := equal_nil (P := P) ht p () w
  simp [execOp, hop, den_v h1, den_v h2, eqGuard, binOp, he]
theorem q_index_ptr {K : AV → Prop} {t e : TypeId} {x ix : Operand} {q : IntKind} {i : TypeInfo} (b off n size : Nat) (k : Int) (hop : o.op = .indexAddr t x ix) (ht : P.underlying t = some (.array n e)) (hi : P.info? e = some i) (hsz : i.size = size) (hx : f.ev x = one (.pointer (some ⟨b, off, none⟩))) (hix : f.ev ix = one (.int q k)) (h0 : 0 ≤ k) (h1 : k < (n : Int)) (hk : K (one (.pointer (some ⟨b, off + k.toNat * size, none⟩)))) : QRun P w0 G S f o K := by
 refine ⟨_, hk, fun r a hf => ?_⟩
 have h2 := hf.ev x
 have h3 := hf.ev ix
 rw [hx] at h2; rw [hix] at h3
 refine ⟨_, den_one _ _, fun w hR => ?_⟩
 have := run_indexAt_array ht hi (b := b) (off := off) (q := q) h0 h1 w
 simp [execOp, hop, den_v h2, den_v h3, this, hsz]
theorem satq_jump_own {Q : Exit → Act → World → Prop} {id : Nat} {ops : Array Oper} (k : Nat) {o : Oper} (hk : ops.toList.drop k = o :: ops.toList.drop (k + 1)) (hg : o.guard = none) (hdst : dstOk N.n o.dst = true)
  (h : guardedN P w0 G N ops (ops.toList.take k) f S fun f1 S1 => jmpK P w0 G o f1 S1 fun u w' => ∃ (g : Nat) (t : TypeId) (us : List Value), u = .pointer (some ⟨g, 0, none⟩) ∧ w'.heap[g]? = some (.cells us.toArray t (0, 0)) ∧ guardedN P w' ⟨[g], []⟩ N ops (ops.toList.drop (k + 1)) ((plF f1).put o.dst (.p (.c (.ref 0 0)))) [.cells t (us.map .v)] fun f2 S2 => AtQ w' ⟨[g], []⟩ N .normal f2 S2 Q) : SatQ P w0 G N (.region id ops false) f S Q :=
 ⟨fun a w hgd => wpIn_region_list (wpListIn_split none 10 k (guardedN_sound (Q := fun a w => ∃ f1 S1, (jmpK P w0 G o f1 S1 fun u w' => ∃ (g : Nat) (t : TypeId) (us : List Value), u = .pointer (some ⟨g, 0, none⟩) ∧ w'.heap[g]? = some (.cells us.toArray t (0, 0)) ∧ guardedN P w' ⟨[g], []⟩ N ops (ops.toList.drop (k + 1)) ((plF f1).put o.dst (.p (.c (.ref 0 0)))) [.cells t (us.map .v)] fun f2 S2 => AtQ w' ⟨[g], []⟩ N .normal f2 S2 Q) ∧ Good w0 G N f1 S1 a w) _ f S _ h (fun f' S' a' w' hk' hg' => ⟨f', S', hk', hg'⟩) a w hgd) (by
  rintro a w ⟨f1, S1, hj, r, hR, hf, hN, hd⟩
  rw [hk]
  unfold wpListIn
  rw [if_pos (wanted_none hg _)]
  refine se_wpIn none 10 (next := fun a w => wpListIn (fenceR none) 10 P ops Q (ops.toList.drop (k + 1)) a w) (jmpK_sound hj hR hf fun u w' hq => ?_) (fun a w h => h)
  obtain ⟨g, t, us, hu, hh, hq⟩ := hq
  exact seL_wpIn none 10 (guardedN_sound _ _ _ _ hq (fun f' S' a' w' hk' hg' => hk'.out a' w' hg') _ _ ⟨envOne g, rel_own1 w' hh, (plF_den hf).put (by rw [hu]; exact den_mk_ref rfl) (by rw [hN]; exact hdst), (put_size a _ _).trans hN, (put_defers a _ _).trans hd⟩)))⟩
end
end Go.Proofs.YtnhdcclpjildjaaGreat
namespace Go.Proofs.YtnhdcclpjildjaaGreat
open Go.RowKit

def liftE (g : Nat) (vO : Value) : Env := ⟨fun i => if i = 0 then some g else if i = 1 then vO.ownBlock else none, fun i => if i = 1 then some vO else none⟩
abbrev liftG (g : Nat) (vO : Value) : Gs := ⟨[g], vO.ownBlock.toList⟩
abbrev liftU (vA vP : Value) (l : List BOp) : List Ow := [.cells 138 [.v vA, .v vP, .row 1], .row 45 5 l.length (l.flatMap opC)]
section
variable {w : World} {g : Nat} {vA vP vO : Value} {l : List BOp}
theorem rel_lift (h : LiftAt w g vA vP vO l) : Rel w (liftG g vO) (liftU vA vP l) (liftE g vO) w := by
 have hn := own_new h.row
 refine ⟨rfl, rfl, rfl, Nat.le_refl _, fun _ _ _ => rfl, fun i o ho => ?_, fun i j b hi hj => ?_, fun i b hb => ?_, fun i hi => ?_, fun i hi => ?_, fun i x hx => ?_⟩
 ·match i with
  | 0 => simp at ho; subst ho; exact ⟨g, _, rfl, h.blk, ⟨_, _, rfl, rfl, _, _, rfl, rfl, _, _, rfl, rfl, rfl⟩⟩
  | 1 => simp at ho; subst ho; exact ⟨vO, rfl, rfl, h.row⟩
  | i + 2 => simp at ho
 ·match i, j with
  | 0, 0 => rfl
  | 1, 1 => rfl
  | 0, 1 => simp [liftE] at hi hj; subst hi; exact absurd hj h.far
  | 1, 0 => simp [liftE] at hi hj; subst hj; exact absurd hi h.far
  | i + 2, _ => simp [liftE] at hi
  | 0, j + 2 => simp [liftE] at hj
  | 1, j + 2 => simp [liftE] at hj
 ·match i with
  | 0 =>
   simp [liftE] at hb; subst hb
   refine ⟨?_, fun _ => .inl (by simp)⟩
   rcases Nat.lt_or_ge g w.heap.size with h1 | h1
   ·exact h1
   ·have := h.blk; rw [Array.getElem?_eq_none h1] at this; cases this
  | 1 =>
   simp [liftE] at hb
   exact ⟨(hn b hb).2, fun _ => .inr (by simp [hb])⟩
  | i + 2 => simp [liftE] at hb
 ·match i with
  | 0 => simp at hi
  | 1 => simp at hi
  | i + 2 => simp [liftE]
 ·match i with
  | 0 => simp at hi
  | 1 => simp at hi
  | i + 2 => simp [liftE]
 ·match i with
  | 0 => simp at hx; subst hx; rfl
  | i + 1 => simp at hx
theorem fin_lift {S : List Ow} {v : AV} {x : Value} {l' : List BOp} {R : Ending → World → Prop} (hv : v.val = some x) (h0 : S[0]? = some (.cells 138 [.v vA, .v vP, .row 1])) (h1 : S[1]? = some (.row 45 5 l'.length (l'.flatMap opC))) (h : ∀ w', LiftTo w w' g vA vP vO l' → R (.returned x) w') : Fin w (liftG g vO) S v R := by
 refine ⟨fun r w' u hR hd => ?_⟩
 rw [AV.val_den hv hd]
 refine h w' ⟨?_, hR.os, hR.tape, hR.output, hR.size, fun b hb hne hno => hR.old b hb ?_⟩
 ·obtain ⟨b, us, e1, e2, e3⟩ := hR.own 0 _ h0
  have f0 := hR.first 0 g rfl
  rw [f0] at e1; injection e1 with e1; subst e1
  obtain ⟨u1, l1, rfl, d1, u2, l2, rfl, d2, u3, l3, rfl, d3, d4⟩ := e3
  obtain rfl : l3 = [] := d4
  obtain rfl : u1 = vA := d1
  obtain rfl : u2 = vP := d2
  obtain ⟨vO', k1, k2, k3⟩ := hR.own 1 _ h1
  have d3 : r.val 1 = some u3 := d3
  rw [d3] at k1; injection k1 with k1; subst k1
  refine ⟨u3, ⟨e2, k3, fun e => ?_⟩, fun b hb => ?_⟩
  ·rw [k2] at e
   have := hR.inj 0 1 g f0 e
   omega
  ·rw [k2] at hb
   rcases Nat.lt_or_ge b w.heap.size with h2 | h2
   ·rcases (hR.new 1 b hb).2 h2 with h3 | h3
    ·simp at h3; subst h3
     have := hR.inj 0 1 b f0 hb
     omega
    ·simp at h3; exact .inl h3
   ·exact .inr h2
 ·rintro (h2 | h2)
  ·simp at h2; exact hne h2
  ·simp at h2; exact hno h2
set_option maxRecDepth 100000 in
theorem add_walk (h : LiftAt w g vA vP vO l) (ops : List BOp) (q n c : Nat) (hq : CellsAt w (liftG g vO) q 0 (ops.flatMap opC)) (hn : ops.length = n) (hlen : l.length + n ≤ 1000000000) :
  Calls Tryz.prog 71 #[.pointer (some ⟨g, 0, none⟩), .slice (some ⟨q, 0, none⟩) n c] w fun e w' => e = .returned (.tuple #[]) ∧ LiftTo w w' g vA vP vO (l ++ ops) := by
 refine calls_satq_rel [.p (.c (.ref 0 0)), one (.slice (some ⟨q, 0, none⟩) n c)] [.pointer (some ⟨g, 0, none⟩), .slice (some ⟨q, 0, none⟩) n c] Tryz.func71 Tryz.ntmps71 rfl (by simp) (rel_lift h) ⟨_, _, rfl, den_mk_ref rfl, avdenL_of [.slice (some ⟨q, 0, none⟩) n c]⟩ ?_
 refine satq_vcN ?_
 conv => whnf
 refine appK_sound rfl ?_ rfl
 conv => whnf
 refine ⟨ops.flatMap opC, fun j u hj => ⟨q, 0, rfl, hq.1, hq.2.1, hq.2.2 j u hj⟩, ?_, ?_, ?_⟩
 ·show _ = n * 5
  rw [← hn]
  clear hq hn hlen
  induction ops with
  | nil => rfl
  | cons o ops ih => rw [List.flatMap_cons, List.length_append, ih, List.length_cons]; show 5 + ops.length * 5 = _; omega
 ·intro u hu
  obtain ⟨o, _, ho⟩ := List.mem_flatMap.1 hu
  simp only [opC, List.mem_cons, List.not_mem_nil, or_false] at ho
  rcases ho with rfl | rfl | rfl | rfl | rfl <;> rfl
 ·conv => whnf
  refine ⟨by omega, ?_⟩
  conv => whnf
  refine atq_end ?_
  conv => whnf
  refine fin_lift rfl rfl ?_ fun w' h' => ⟨rfl, h'⟩
  show some (Ow.row _ _ (l.length + n) (l.flatMap opC ++ ops.flatMap opC)) = _
  rw [List.flatMap_append, List.length_append, hn]
  rfl
end
end Go.Proofs.YtnhdcclpjildjaaGreat
namespace Go.Proofs.YtnhdcclpjildjaaGreat
open Go.RowKit

abbrev pV (b : Nat) : Value := .pointer (some ⟨b, 0, none⟩)
section
variable {w : World} {g : Nat} {vA vP vO : Value} {l : List BOp}
theorem LiftTo.early {w1 w2 : World} {l1 : List BOp} (hB : Below w.heap.size w w1) (h : LiftTo w1 w2 g vA vP vO l1) : LiftTo w w2 g vA vP vO l1 := by
 obtain ⟨vO1, k1, k2⟩ := h.out
 exact ⟨⟨vO1, k1, fun b hb => (k2 b hb).imp id fun h2 => Nat.le_trans hB.size h2⟩, h.os.trans hB.os, h.tape.trans hB.tape, h.output.trans hB.output, Nat.le_trans hB.size h.size, fun b hb h1 h2 => (h.block b (Nat.lt_of_lt_of_le hb hB.size) h1 h2).trans (hB.block b hb)⟩
theorem jmp_add {S : List Ow} {K : Value → World → Prop} (h : LiftAt w g vA vP vO l) (ops : List BOp) (j n : Nat) (hj : S[j]? = some (.cells 45 ((ops.flatMap opC).map .v))) (hn : ops.length = n) (hlen : l.length + n ≤ 1000000000) (hK : ∀ w', LiftTo w w' g vA vP vO (l ++ ops) → K (.tuple #[]) w') :
  Jmp Tryz.prog w Gs.nil 71 [one (pV g), .p (.c (.sl j 0 n n))] S K := by
 refine ⟨by kernel_rfl, fun r w1 us hR hd => ?_⟩
 obtain ⟨u1, l1, rfl, d1, d2⟩ := hd
 obtain rfl := den_v d1
 obtain ⟨u2, l2, rfl, d3, d4⟩ := d2
 obtain rfl : l2 = [] := d4
 obtain ⟨q, hq, rfl⟩ := den_sl d3
 obtain ⟨q', vs, e1, e2, e3⟩ := hR.own j _ hj
 rw [hq] at e1; injection e1 with e1; subst e1
 obtain rfl := denL_vals_inv e3
 have hB := hR.toBelow
 have h1 := h.later hB
 have hqn : w.heap.size ≤ q := by
  rcases Nat.lt_or_ge q w.heap.size with h2 | h2
  ·rcases (hR.new j q hq).2 h2 with h3 | h3 <;> cases h3
  ·exact h2
 have hvlt : ∀ b, vO.ownBlock = some b → b < w.heap.size := fun b hb => (own_new h.row b hb).2
 have hcells : CellsAt w1 (liftG g vO) q 0 (ops.flatMap opC) := by
  refine ⟨(hR.new j q hq).1, ?_, fun i u hi => by simp [World.cell?, e2, hi]⟩
  rintro (h3 | h3)
  ·simp at h3; have := h.lt; omega
  ·simp at h3; have := hvlt q h3; omega
 exact (add_walk h1 ops q n n hcells hn hlen).mono fun e w2 ⟨he, hl⟩ => ⟨_, he, hK w2 (hl.early hB)⟩
set_option maxRecDepth 100000 in
theorem set_walkL (h : LiftAt w g vA vP vO l) (d n : Int) (hlen : l.length ≤ 100000000) :
  Calls Tryz.prog 100 #[pV g, intV d, .int .u32 n] w fun e w' => e = .returned (.tuple #[]) ∧ LiftTo w w' g vA vP vO (l ++ qSet d n) := by
 refine calls_satq [pV g, intV d, .int .u32 n] Tryz.func100 Tryz.ntmps100 rfl (by simp) ?_
 refine satq_seqN ?_
 conv => whnf
 refine satq_cond rfl (fun hc => ?_) (fun hc => ?_)
 ·have hd : ¬ d = 0 := by simpa using hc
  unfold qSet
  rw [if_neg hd]
  refine satq_jump 5 rfl rfl rfl ?_
  conv => whnf
  refine jmp_add h [⟨1, d, 0, 0, n⟩] 0 1 rfl rfl (by omega) fun w1 hl => ?_
  conv => whnf
  refine atq_end ?_
  conv => whnf
  exact fin_val rfl fun w2 hB => ⟨rfl, hl.later hB⟩
 ·have hd : d = 0 := by simpa using hc
  unfold qSet
  rw [if_pos hd, List.append_nil]
  refine satq_skip (atq_end ?_)
  conv => whnf
  exact fin_val rfl fun w2 hB => ⟨rfl, LiftTo.refl h hB⟩
end
end Go.Proofs.YtnhdcclpjildjaaGreat
namespace Go.Proofs.YtnhdcclpjildjaaGreat
open Go.RowKit

def MemP.pokeAt (M : MemP) (a : Int) (l : List Int) (j : Nat) : MemP := (l.take j).zipIdx.foldl (fun Q bi => if (a + bi.2) % 4294967296 < Q.data.length then Q.put ((a + bi.2) % 4294967296) bi.1 else Q) M
theorem pokeAt_zero (M : MemP) (a : Int) (l : List Int) : M.pokeAt a l 0 = M := rfl
theorem pokeAt_succ (M : MemP) (a : Int) (l : List Int) {j : Nat} {b : Int} (h : l[j]? = some b) : M.pokeAt a l (j + 1) = if (a + j) % 4294967296 < (M.pokeAt a l j).data.length then (M.pokeAt a l j).put ((a + j) % 4294967296) b else M.pokeAt a l j := by
 have hj : j < l.length := by
  rcases Nat.lt_or_ge j l.length with h1 | h1
  ·exact h1
  ·rw [List.getElem?_eq_none h1] at h; cases h
 have hl : (l.take j).length = j := by rw [List.length_take]; omega
 unfold MemP.pokeAt
 rw [take_snoc h, List.zipIdx_append, List.foldl_append, hl]
 simp only [List.zipIdx_cons, List.zipIdx_nil, List.foldl_cons, List.foldl_nil, Nat.zero_add]
theorem pokeAt_ok {M : MemP} {n p : Nat} (hM : M.ok n p) (a : Int) {l : List Int} (hb : ∀ x ∈ l, 0 ≤ x ∧ x < 256) : ∀ j, j ≤ l.length → (M.pokeAt a l j).ok n p
 | 0, _ => hM
 | j + 1, h => by
  have e : l[j]? = some l[j] := List.getElem?_eq_getElem h
  rw [pokeAt_succ M a l e]
  have ih := pokeAt_ok hM a hb j (by omega)
  split
  ·exact put_ok ih _ (hb _ (List.getElem_mem h))
  ·exact ih
set_option maxRecDepth 100000 in
theorem mem_pokeAt (M : MemP) (n p : Nat) (a : Int) (l : List Int) (w : World) (g : Nat) (gs : List Nat) (hU : ObjsAt w (g :: gs) (memS 0 n p M)) (hM : M.ok n p) (_ha : word a) (hbl : ∀ x ∈ l, 0 ≤ x ∧ x < 256) (hlen : l.length ≤ 1000000) (hn8 : 8 < n) :
  Calls Tryz.prog 31 #[.pointer (some ⟨g, 0, none⟩), .int .u32 a, strV l] w fun e w' => e = .returned (.tuple #[]) ∧ ObjsAt w' (g :: gs) (memS 0 n p (M.pokeAt a l l.length)) ∧ GrownBys w w' (g :: gs) := by
 obtain ⟨g0, g1, g2, g3, g4, g5, hg⟩ := six_blocks hU
 injection hg with hg0 hgs
 subst hgs; subst hg0
 have hnp := hM.np
 have hpm := hM.pmax
 refine calls_objs [.p (.c (.ref 0 0)), one (.int .u32 a), one (strV l)] [.pointer (some ⟨g, 0, none⟩), .int .u32 a, strV l] Tryz.func31 Tryz.ntmps31 rfl (by simp) hU ⟨_, _, rfl, den_mk_ref rfl, avdenL_of [.int .u32 a, strV l]⟩ ?_
 conv => whnf
 refine ⟨{ j : Nat // j ≤ l.length }, fun x => [(0, .p (.c (.ref 0 0))), (1, one (.int .u32 a)), (2, one (strV l)), (6, one (.int .i64 (x.1 : Int)))], fun x => memS 0 n p (M.pokeAt a l x.1), fun x => l.length - x.1,
  ⟨⟨0, by omega⟩, ent_same rfl (aI rfl (aI rfl (aI rfl (aI rfl trivial)))) (aI sM (aI sM (aI sM (aI sM (aI sM (aI sM trivial))))))⟩, fun x => ?_⟩
 obtain ⟨j, hj⟩ := x
 dsimp only
 conv => whnf
 refine q_len_str l rfl rfl rfl ?_
 conv => whnf
 refine ⟨fun hc => ?_, fun hc => ?_⟩
 ·have hlt : j < l.length := by simpa using hc
  have hQ := pokeAt_ok hM a hbl j hj
  obtain ⟨b, hb⟩ : ∃ b, l[j]? = some b := ⟨_, List.getElem?_eq_getElem (by omega)⟩
  have hbb := hbl b (List.mem_of_getElem? hb)
  have hnext := pokeAt_succ M a l hb
  generalize M.pokeAt a l j = Q at hQ hnext ⊢
  rw [hQ.ld] at hnext
  have hlenQ : n ≤ (List.map CV.v Q.dV).length := tail_le hQ.ld
  have hadr : IntKind.u32.wrap (a + (j : Int)) = (a + j) % 4294967296 := wr32 _
  have hax : 0 ≤ (a + j) % 4294967296 ∧ (a + j) % 4294967296 < 4294967296 := by omega
  conv => whnf
  refine ⟨(j : Int), by rw [wr32]; omega, ?_⟩
  conv => whnf
  refine ⟨_, hadr, ?_⟩
  generalize (a + (j : Int)) % 4294967296 = z at hax hnext hadr ⊢
  conv => whnf
  refine call_memR (pre := []) (suf := [one (.int .u32 z)]) 0 n p Q (.bool (decide (z < (n : Int)))) (fun i hi => by rw [Nat.zero_add]) rfl rfl (by kernel_rfl) (fun w' g gs hk hU => mem_in Q n p z w' g gs hU hQ hax) ?_
  conv => whnf
  refine ⟨fun hc => ?_, fun hc => ?_⟩
  ·have hz : z < (n : Int) := by simpa using hc
   rw [if_pos hz] at hnext
   conv => whnf
   refine sat_tail 12 mixed (by kernel_rfl) ?_
   conv => whnf
   refine ⟨(j : Int), by rw [wr32]; omega, ?_⟩
   conv => whnf
   refine ⟨_, hadr, ?_⟩
   conv => whnf
   refine q_index_str l .i64 j b rfl rfl rfl rfl hb hbb ?_
   conv => whnf
   refine ⟨⟨by omega, by omega⟩, ?_⟩
   conv => whnf
   rw [show Nat.ble (0 + z.toNat * tsz Tryz.prog 5 + [CV.v (Value.int IntKind.u8 b)].length) (List.map CV.v Q.dV).length = true from Nat.ble_eq_true_of_le (by refine Nat.le_trans ?_ hlenQ; show 0 + _ * 1 + 1 ≤ n; omega)]
   conv => whnf
   rw [show Nat.ble (List.map CV.v Q.dV).length 8 = false from ble_no (by omega)]
   conv => whnf
   refine ⟨_, wr64 (by omega), ?_⟩
   conv => whnf
   have hset : setAll (List.map CV.v Q.dV) (0 + z.toNat * tsz Tryz.prog 5) [CV.v (Value.int IntKind.u8 b)] = List.map CV.v (M.pokeAt a l (j + 1)).dV := by
    rw [set_vals, hnext]
    show List.map CV.v (Q.dV.set (0 + z.toNat * 1) _) = List.map CV.v ((Q.put z b).dV)
    rw [Nat.zero_add, Nat.mul_one, ← put_dV Q b (by rw [hQ.ld]; omega)]
   have hrest : Q.iV = (M.pokeAt a l (j + 1)).iV ∧ Q.odV = (M.pokeAt a l (j + 1)).odV ∧ Q.oiV = (M.pokeAt a l (j + 1)).oiV ∧ Q.rV = (M.pokeAt a l (j + 1)).rV := by rw [hnext]; exact ⟨rfl, rfl, rfl, rfl⟩
   exact ⟨⟨j + 1, by omega⟩, ent_same rfl (aI rfl (aI rfl (aI rfl (aI rfl trivial)))) (aI ((aI rfl (Or.inl (by rw [hnext]; rfl)))) (aI ((aI rfl (Or.inl hset))) (aI ((aI rfl (Or.inl (by rw [hrest.1])))) (aI ((aI rfl (Or.inl (by rw [hrest.2.1])))) (aI ((aI rfl (Or.inl (by rw [hrest.2.2.1])))) (aI ((aI rfl (Or.inl (by rw [hrest.2.2.2])))) trivial)))))), by show l.length - (j + 1) < l.length - j; omega⟩
  ·have hz : ¬ z < (n : Int) := by simpa using hc
   rw [if_neg hz] at hnext
   conv => whnf
   refine ⟨_, wr64 (by omega), ?_⟩
   conv => whnf
   exact ⟨⟨j + 1, by omega⟩, ent_same rfl (aI rfl (aI rfl (aI rfl (aI rfl trivial)))) (aI ((aI rfl (Or.inl (by rw [hnext])))) (aI ((aI rfl (Or.inl (by rw [hnext])))) (aI ((aI rfl (Or.inl (by rw [hnext])))) (aI ((aI rfl (Or.inl (by rw [hnext])))) (aI ((aI rfl (Or.inl (by rw [hnext])))) (aI ((aI rfl (Or.inl (by rw [hnext])))) trivial)))))), by show l.length - (j + 1) < l.length - j; omega⟩
 ·have hje : j = l.length := by simp at hc; omega
  rw [hje]
  conv => whnf
  refine ⟨_, _, ent_refl, ?_⟩
  conv => whnf
  exact fin_objs rfl rfl (fun i o h => h) (memS_ob n p (M.pokeAt a l l.length)) fun w' h1 h2 => ⟨rfl, h1, h2⟩
end Go.Proofs.YtnhdcclpjildjaaGreat
namespace Go.Proofs.YtnhdcclpjildjaaGreat
open Go.RowKit

def MemP.codeTo (M : MemP) (q : Nat) (l : List Int) : Nat → MemP
 | 0 => M
 | j + 1 => (M.codeTo q l j).setI (256 * q + j) ((l[j]?).getD 0)
theorem codeTo_ok {M : MemP} {n p : Nat} (hM : M.ok n p) (q : Nat) {l : List Int} (hb : ∀ x ∈ l, 0 ≤ x ∧ x < 256) : ∀ j, (M.codeTo q l j).ok n p
 | 0 => hM
 | j + 1 => setI_ok (codeTo_ok hM q hb j) _ (by
   cases h : l[j]? with
   | none => simp
   | some x => exact hb x (List.mem_of_getElem? h))
set_option maxRecDepth 100000 in
set_option maxHeartbeats 1000000 in
theorem mem_setCode (M : MemP) (n p : Nat) (q : Nat) (l : List Int) (w : World) (g : Nat) (gs : List Nat) (hU : ObjsAt w (g :: gs) (memS 0 n p M)) (hM : M.ok n p) (hq : q < p) (hbl : ∀ x ∈ l, 0 ≤ x ∧ x < 256) (hlen : l.length ≤ 1000000) :
  Calls Tryz.prog 26 #[.pointer (some ⟨g, 0, none⟩), intV (q : Int), strV l] w fun e w' => e = .returned (.tuple #[]) ∧ ObjsAt w' (g :: gs) (memS 0 n p (M.codeTo q l (min l.length 256))) ∧ GrownBys w w' (g :: gs) := by
 obtain ⟨g0, g1, g2, g3, g4, g5, hg⟩ := six_blocks hU
 injection hg with hg0 hgs
 subst hgs; subst hg0
 have hnp := hM.np
 have hpm := hM.pmax
 refine calls_objs [.p (.c (.ref 0 0)), one (intV (q : Int)), one (strV l)] [.pointer (some ⟨g, 0, none⟩), intV (q : Int), strV l] Tryz.func26 Tryz.ntmps26 rfl (by simp) hU ⟨_, _, rfl, den_mk_ref rfl, avdenL_of [intV (q : Int), strV l]⟩ ?_
 conv => whnf
 refine ⟨decide ((q : Int) ≥ (p : Int)), fun _ => ?_, ?_⟩
 ·conv => whnf
  exact ⟨rfl, rfl, rfl, rfl, grp_mem _ _ _ _ _ _ _ _ _⟩
 have e1 : cmb false (decide ((q : Int) < 0)) (decide ((q : Int) ≥ (p : Int))) = false := by simp [cmb]; omega
 rw [e1]
 conv => whnf
 refine ⟨false, fun _ => ?_, ?_⟩
 ·conv => whnf
  exact ⟨rfl, rfl, rfl, rfl, grp_mem _ _ _ _ _ _ _ _ _⟩
 conv => whnf
 (repeat ((first | apply k1 | apply k2 | apply k3 | apply k4 | refine k5 (by decide) ?_ | refine k6 (by decide) ?_); conv => whnf))
 conv => whnf
 refine ⟨{ j : Nat // j ≤ min l.length 256 }, fun x => [(0, .p (.c (.ref 0 0))), (1, one (intV (q : Int))), (2, one (strV l)), (6, one (.int .i64 (x.1 : Int)))], fun x => memS 0 n p (M.codeTo q l x.1), fun x => 256 - x.1,
  ⟨⟨0, by omega⟩, ent_same rfl (aI rfl (aI rfl (aI rfl (aI rfl trivial)))) (aI sM (aI sM (aI sM (aI sM (aI sM (aI sM trivial))))))⟩, fun x => ?_⟩
 obtain ⟨j, hj⟩ := x
 dsimp only
 conv => whnf
 refine q_len_str l rfl rfl rfl ?_
 conv => whnf
 refine ⟨decide ((j : Int) < 256), fun _ => ?_, ?_⟩
 ·conv => whnf
  exact ⟨rfl, rfl, rfl, rfl, grp_mem _ _ _ _ _ _ _ _ _⟩
 conv => whnf
 refine ⟨fun hc => ?_, fun hc => ?_⟩
 ·have hlt : j < l.length ∧ j < 256 := by simp [cmb] at hc; omega
  have hQ := codeTo_ok hM q hbl j
  obtain ⟨b, hb⟩ : ∃ b, l[j]? = some b := ⟨_, List.getElem?_eq_getElem (by omega)⟩
  have hbb := hbl b (List.mem_of_getElem? hb)
  have hnext : M.codeTo q l (j + 1) = (M.codeTo q l j).setI (256 * q + j) b := by show (M.codeTo q l j).setI (256 * q + j) ((l[j]?).getD 0) = _; rw [hb]; rfl
  generalize M.codeTo q l j = Q at hQ hnext ⊢
  have hlenQ : n ≤ (List.map CV.v Q.iV).length := tail_le hQ.li
  conv => whnf
  refine sat_tail 12 mixed (by kernel_rfl) ?_
  conv => whnf
  refine ⟨(256 * q : Nat), by rw [show (256 : Int) * (q : Int) = ((256 * q : Nat) : Int) by omega]; exact wr64 (by omega), ?_⟩
  conv => whnf
  refine ⟨(256 * q + j : Nat), by rw [show ((256 * q : Nat) : Int) + (j : Int) = ((256 * q + j : Nat) : Int) by omega]; exact wr64 (by omega), ?_⟩
  conv => whnf
  refine q_index_str l .i64 j b rfl rfl rfl rfl hb hbb ?_
  conv => whnf
  refine ⟨⟨by omega, by omega⟩, ?_⟩
  conv => whnf
  rw [show Nat.ble (0 + ((256 * q + j : Nat) : Int).toNat * tsz Tryz.prog 5 + [CV.v (Value.int IntKind.u8 b)].length) (List.map CV.v Q.iV).length = true from Nat.ble_eq_true_of_le (by refine Nat.le_trans ?_ hlenQ; show 0 + _ * 1 + 1 ≤ n; omega)]
  conv => whnf
  rw [show Nat.ble (List.map CV.v Q.iV).length 8 = false from ble_no (by omega)]
  conv => whnf
  refine ⟨_, wr64 (by omega), ?_⟩
  conv => whnf
  have hset : setAll (List.map CV.v Q.iV) (0 + ((256 * q + j : Nat) : Int).toNat * tsz Tryz.prog 5) [CV.v (Value.int IntKind.u8 b)] = List.map CV.v (M.codeTo q l (j + 1)).iV := by
   rw [set_vals, hnext]
   show List.map CV.v (Q.iV.set (0 + ((256 * q + j : Nat) : Int).toNat * 1) _) = List.map CV.v ((Q.setI (256 * q + j) b).iV)
   rw [Nat.zero_add, Nat.mul_one, Int.toNat_natCast, ← setI_iV Q _ (by rw [hQ.li]; omega)]
  exact ⟨⟨j + 1, by omega⟩, ent_same rfl (aI rfl (aI rfl (aI rfl (aI rfl trivial)))) (aI ((aI rfl (Or.inl (by rw [hnext]; rfl)))) (aI ((aI rfl (Or.inl (by rw [hnext]; rfl)))) (aI ((aI rfl (Or.inl hset))) (aI ((aI rfl (Or.inl (by rw [hnext]; rfl)))) (aI ((aI rfl (Or.inl (by rw [hnext]; rfl)))) (aI ((aI rfl (Or.inl (by rw [hnext]; rfl)))) trivial)))))), by show 256 - (j + 1) < 256 - j; omega⟩
 ·have hje : j = min l.length 256 := by
   have h1 : ¬ (j < l.length ∧ j < 256) := fun h => by
    have : cmb true (decide ((j : Int) < (l.length : Int))) (decide ((j : Int) < 256)) = true := by simp [cmb]; omega
    rw [this] at hc; cases hc
   omega
  rw [hje]
  conv => whnf
  refine ⟨_, _, ent_refl, ?_⟩
  conv => whnf
  exact fin_objs rfl rfl (fun i o h => h) (memS_ob n p _) fun w' h1 h2 => ⟨rfl, h1, h2⟩
end Go.Proofs.YtnhdcclpjildjaaGreat
