/- Walks: numbers and names as text. -/
import Derived.Test.YtnhdcclpjildjaaGreatMFetchesD
namespace Go.Proofs.YtnhdcclpjildjaaGreat
open Go.RowKit

def dgs : Nat → Int → List Int → List Int
 | 0, _, s => s
 | k + 1, n, s => if n < 10 then s else dgs k (n / 10) ((48 + n / 10 % 10) :: s)
theorem dgs_len : ∀ (k : Nat) (n : Int) (s : List Int), s.length ≤ (dgs k n s).length ∧ (dgs k n s).length ≤ s.length + k
 | 0, n, s => ⟨Nat.le_refl _, Nat.le_refl _⟩
 | k + 1, n, s => by
  unfold dgs
  split
  ·omega
  ·have := dgs_len k (n / 10) ((48 + n / 10 % 10) :: s)
   simp only [List.length_cons] at this
   omega
theorem dgs_small {n : Int} (h : n < 10) (s : List Int) : ∀ k, dgs k n s = s
 | 0 => rfl
 | k + 1 => by unfold dgs; rw [if_pos h]
def decL (n : Int) : List Int := dgs 20 n [48 + n % 10]
theorem decL_len (n : Int) : (decL n).length ≤ 21 := by
 have := (dgs_len 20 n [48 + n % 10]).2
 unfold decL
 simp only [List.length_cons, List.length_nil] at this
 omega
theorem digit_mod {n : Int} (h : 0 ≤ n) : n.tmod 10 = n % 10 := Int.tmod_eq_emod_of_nonneg h
theorem quo_ten {n : Int} (h : 0 ≤ n) : n.tdiv 10 = n / 10 := Int.tdiv_eq_ediv_of_nonneg h
theorem wr8d {n : Int} (h : 0 ≤ n ∧ n < 256) : IntKind.u8.wrap n = n := by
 show n % 256 = n
 omega
theorem ten_pow {n : Int} {k : Nat} (h : n < 10 ^ k) (h10 : ¬ n < 10) : ∃ m, k = m + 1 ∧ n / 10 < 10 ^ m := by
 cases k with
 | zero => simp at h; omega
 | succ m =>
  refine ⟨m, rfl, ?_⟩
  rw [Int.pow_succ] at h
  generalize (10 : Int) ^ m = p at h
  omega
set_option maxRecDepth 100000 in
theorem decimal_walk (n : Int) (w : World) (hn : word n) : Calls Tryz.prog 88 #[.int .u32 n] w fun e w' => e = .returned (strV (decL n)) ∧ Below w.heap.size w w' := by
 have hn0 := hn
 unfold word at hn0
 refine calls_satq [.int .u32 n] Tryz.func88 Tryz.ntmps88 rfl (by simp) ?_
 refine satq_seqN ?_
 conv => whnf
 refine satq_seqN ?_
 conv => whnf
 refine ⟨by decide, n % 10, digit_mod hn0.1, ?_⟩
 conv => whnf
 refine ⟨48 + n % 10, by rw [wr32]; omega, ?_⟩
 conv => whnf
 refine ⟨48 + n % 10, wr8d (by omega), ?_⟩
 conv => whnf
 refine q_conv_str 0 1 1 [48 + n % 10] rfl rfl rfl rfl rfl rfl rfl ?_
 conv => whnf
 refine satq_mid (α := { l : List Int // l = decL n }) (fun x => [(3, one (strV x.1))]) (fun _ => []) ?_ fun x => ?_
 ·refine satq_block ?_
  refine satq_loop (α := { x : Nat × Int × List Int // 0 ≤ x.2.1 ∧ x.2.1 < 4294967296 ∧ x.2.1 < 10 ^ x.1 ∧ dgs x.1 x.2.1 x.2.2 = decL n }) (fun x => [(0, one (.int .u32 x.1.2.1)), (3, one (strV x.1.2.2))]) (fun _ => []) (fun x => x.1.1)
   ⟨(20, n, [48 + n % 10]), hn0.1, hn0.2, by show n < 100000000000000000000; omega, rfl⟩ (ent_drop (aI rfl (aI rfl trivial)) trivial rfl rfl) fun x => ?_
  obtain ⟨⟨k, m, s⟩, h0, h1, hk, hd⟩ := x
  dsimp only at h0 h1 hk hd ⊢
  have hsl : s.length ≤ 21 := by
   have := (dgs_len k m s).1
   rw [hd] at this
   exact Nat.le_trans this (decL_len n)
  refine satq_seqN ?_
  conv => whnf
  refine ⟨fun hc => ?_, fun hc => ?_⟩
  ·have hge : ¬ m < 10 := by simp at hc; omega
   obtain ⟨k', rfl, hk'⟩ := ten_pow hk hge
   unfold dgs at hd
   rw [if_neg hge] at hd
   conv => whnf
   refine satq_vcN ?_
   conv => whnf
   refine ⟨by decide, m / 10, by rw [quo_ten h0]; rw [wr32]; omega, ?_⟩
   conv => whnf
   refine ⟨by decide, m / 10 % 10, digit_mod (by omega), ?_⟩
   conv => whnf
   refine ⟨48 + m / 10 % 10, by rw [wr32]; omega, ?_⟩
   conv => whnf
   refine ⟨48 + m / 10 % 10, wr8d (by omega), ?_⟩
   conv => whnf
   refine q_conv_str 0 1 1 [48 + m / 10 % 10] rfl rfl rfl rfl rfl rfl rfl ?_
   conv => whnf
   refine q_cat_str [48 + m / 10 % 10] s rfl rfl rfl (by simp; omega) ?_
   conv => whnf
   exact atq_next ⟨(k', m / 10, _), by show 0 ≤ m / 10; omega, by show m / 10 < 4294967296; omega, hk', hd⟩ (ent_drop (aI rfl (aI rfl trivial)) trivial rfl rfl) (by show k' < k' + 1; omega)
  ·have hlt : m < 10 := by simp at hc; omega
   conv => whnf
   exact atq_out (atq_exit (atq_mid ⟨s, by rw [← hd, dgs_small hlt]⟩ (ent_same rfl (aI rfl trivial) trivial)))
 obtain ⟨l, rfl⟩ := x
 dsimp only
 refine satq_vcN ?_
 conv => whnf
 refine atq_ret ?_
 conv => whnf
 exact fin_val rfl fun w2 hB => ⟨rfl, hB⟩
theorem wr64u {n : Int} (h : 0 ≤ n ∧ n < 18446744073709551616) : IntKind.u64.wrap n = n := by
 show n % 18446744073709551616 = n
 omega
set_option maxRecDepth 100000 in
theorem wide_walk (n : Int) (w : World) (hn : 0 ≤ n ∧ n < 18446744073709551616) : Calls Tryz.prog 86 #[.int .u64 n] w fun e w' => e = .returned (strV (decL n)) ∧ Below w.heap.size w w' := by
 have hn0 := hn
 refine calls_satq [.int .u64 n] Tryz.func86 Tryz.ntmps86 rfl (by simp) ?_
 refine satq_seqN ?_
 conv => whnf
 refine satq_seqN ?_
 conv => whnf
 refine ⟨by decide, n % 10, digit_mod hn0.1, ?_⟩
 conv => whnf
 refine ⟨48 + n % 10, wr64u (by omega), ?_⟩
 conv => whnf
 refine ⟨48 + n % 10, wr8d (by omega), ?_⟩
 conv => whnf
 refine q_conv_str 0 1 1 [48 + n % 10] rfl rfl rfl rfl rfl rfl rfl ?_
 conv => whnf
 refine satq_mid (α := { l : List Int // l = decL n }) (fun x => [(3, one (strV x.1))]) (fun _ => []) ?_ fun x => ?_
 ·refine satq_block ?_
  refine satq_loop (α := { x : Nat × Int × List Int // 0 ≤ x.2.1 ∧ x.2.1 < 18446744073709551616 ∧ x.2.1 < 10 ^ x.1 ∧ dgs x.1 x.2.1 x.2.2 = decL n }) (fun x => [(0, one (.int .u64 x.1.2.1)), (3, one (strV x.1.2.2))]) (fun _ => []) (fun x => x.1.1)
   ⟨(20, n, [48 + n % 10]), hn0.1, hn0.2, by show n < 100000000000000000000; omega, rfl⟩ (ent_drop (aI rfl (aI rfl trivial)) trivial rfl rfl) fun x => ?_
  obtain ⟨⟨k, m, s⟩, h0, h1, hk, hd⟩ := x
  dsimp only at h0 h1 hk hd ⊢
  have hsl : s.length ≤ 21 := by
   have := (dgs_len k m s).1
   rw [hd] at this
   exact Nat.le_trans this (decL_len n)
  refine satq_seqN ?_
  conv => whnf
  refine ⟨fun hc => ?_, fun hc => ?_⟩
  ·have hge : ¬ m < 10 := by simp at hc; omega
   obtain ⟨k', rfl, hk'⟩ := ten_pow hk hge
   unfold dgs at hd
   rw [if_neg hge] at hd
   conv => whnf
   refine satq_vcN ?_
   conv => whnf
   refine ⟨by decide, m / 10, by rw [quo_ten h0]; exact wr64u (by omega), ?_⟩
   conv => whnf
   refine ⟨by decide, m / 10 % 10, digit_mod (by omega), ?_⟩
   conv => whnf
   refine ⟨48 + m / 10 % 10, wr64u (by omega), ?_⟩
   conv => whnf
   refine ⟨48 + m / 10 % 10, wr8d (by omega), ?_⟩
   conv => whnf
   refine q_conv_str 0 1 1 [48 + m / 10 % 10] rfl rfl rfl rfl rfl rfl rfl ?_
   conv => whnf
   refine q_cat_str [48 + m / 10 % 10] s rfl rfl rfl (by simp; omega) ?_
   conv => whnf
   exact atq_next ⟨(k', m / 10, _), by show 0 ≤ m / 10; omega, by show m / 10 < 18446744073709551616; omega, hk', hd⟩ (ent_drop (aI rfl (aI rfl trivial)) trivial rfl rfl) (by show k' < k' + 1; omega)
  ·have hlt : m < 10 := by simp at hc; omega
   conv => whnf
   exact atq_out (atq_exit (atq_mid ⟨s, by rw [← hd, dgs_small hlt]⟩ (ent_same rfl (aI rfl trivial) trivial)))
 obtain ⟨l, rfl⟩ := x
 dsimp only
 refine satq_vcN ?_
 conv => whnf
 refine atq_ret ?_
 conv => whnf
 exact fin_val rfl fun w2 hB => ⟨rfl, hB⟩
def hexD (d : Int) : Int := if d < 10 then 48 + d else 87 + d
def hexL (n : Int) : Nat → List Int
 | 0 => []
 | k + 1 => hexL n k ++ [hexD (n / 2 ^ (28 - 4 * k) % 16)]
theorem hexL_len (n : Int) : ∀ k, (hexL n k).length = k
 | 0 => rfl
 | k + 1 => by unfold hexL; rw [List.length_append, hexL_len n k]; rfl
def nameL (v : Int) : List Int :=
 if 0 ≤ v ∧ v < 16 then 114 :: decL v
 else if 20 ≤ v ∧ v < 28 then 116 :: decL (v - 20)
 else if v = 16 then [102, 107] else if v = 17 then [102, 97] else if v = 18 then [102, 98] else if v = 19 then [112, 99] else [63]
theorem nameL_len (v : Int) : (nameL v).length ≤ 30 := by
 unfold nameL
 have h1 := decL_len v
 have h2 := decL_len (v - 20)
 repeat' split
 all_goals simp only [List.length_cons, List.length_nil]
 all_goals omega
set_option maxRecDepth 100000 in
theorem name_walk (v : Int) (w : World) (hv : mid v) : Calls Tryz.prog 87 #[intV v] w fun e w' => e = .returned (strV (nameL v)) ∧ Below w.heap.size w w' := by
 have hv0 := hv
 unfold mid at hv0
 have hlen : ∀ x : Int, (decL x).length ≤ 21 := decL_len
 refine calls_valN [intV v] Tryz.func87 Tryz.ntmps87 rfl (by simp) ?_
 by_cases h1 : 0 ≤ v ∧ v < 16
 ·have e : nameL v = 114 :: decL v := if_pos h1
  rw [e]
  conv => whnf
  rw [show decide (v ≥ 0) = true from decide_eq_true h1.1]
  (repeat ((first | apply k1 | apply k2 | apply k3 | apply k4 | refine k5 (by decide) ?_ | refine k6 (by decide) ?_); conv => whnf))
  rw [show decide (v < 16) = true from decide_eq_true h1.2]
  (repeat ((first | apply k1 | apply k2 | apply k3 | apply k4 | refine k5 (by decide) ?_ | refine k6 (by decide) ?_); conv => whnf))
  refine ⟨v, by rw [wr32]; omega, ?_⟩
  conv => whnf
  refine call_con (x := strV (decL v)) rfl (by kernel_rfl) (fun r w' hR => decimal_walk v w' (by unfold word; omega)) ?_
  conv => whnf
  refine q_cat_str [114] (decL v) rfl rfl rfl (by have := hlen v; simp; omega) ?_
  conv => whnf
  exact fin_val rfl fun w2 hB => ⟨rfl, hB⟩
 by_cases h2 : 20 ≤ v ∧ v < 28
 ·have e : nameL v = 116 :: decL (v - 20) := by unfold nameL; rw [if_neg h1, if_pos h2]
  rw [e]
  conv => whnf
  rw [show decide (v ≥ 0) = true from decide_eq_true (by omega)]
  (repeat ((first | apply k1 | apply k2 | apply k3 | apply k4 | refine k5 (by decide) ?_ | refine k6 (by decide) ?_); conv => whnf))
  rw [show decide (v < 16) = false from decide_eq_false (by omega)]
  (repeat ((first | apply k1 | apply k2 | apply k3 | apply k4 | refine k5 (by decide) ?_ | refine k6 (by decide) ?_); conv => whnf))
  rw [show decide (v ≥ 20) = true from decide_eq_true h2.1]
  (repeat ((first | apply k1 | apply k2 | apply k3 | apply k4 | refine k5 (by decide) ?_ | refine k6 (by decide) ?_); conv => whnf))
  rw [show decide (v < 28) = true from decide_eq_true h2.2]
  (repeat ((first | apply k1 | apply k2 | apply k3 | apply k4 | refine k5 (by decide) ?_ | refine k6 (by decide) ?_); conv => whnf))
  refine ⟨v - 20, wr64 (by omega), ?_⟩
  conv => whnf
  refine ⟨v - 20, by rw [wr32]; omega, ?_⟩
  conv => whnf
  refine call_con (x := strV (decL (v - 20))) rfl (by kernel_rfl) (fun r w' hR => decimal_walk (v - 20) w' (by unfold word; omega)) ?_
  conv => whnf
  refine q_cat_str [116] (decL (v - 20)) rfl rfl rfl (by have := hlen (v - 20); simp; omega) ?_
  conv => whnf
  exact fin_val rfl fun w2 hB => ⟨rfl, hB⟩
 rcases (by omega : v = 16 ∨ v = 17 ∨ v = 18 ∨ v = 19 ∨ (v < 0 ∨ 28 ≤ v)) with rfl | rfl | rfl | rfl | h3
 ·conv => whnf
  (repeat ((first | apply k1 | apply k2 | apply k3 | apply k4 | refine k5 (by decide) ?_ | refine k6 (by decide) ?_); conv => whnf))
  exact fin_val rfl fun w2 hB => ⟨rfl, hB⟩
 ·conv => whnf
  (repeat ((first | apply k1 | apply k2 | apply k3 | apply k4 | refine k5 (by decide) ?_ | refine k6 (by decide) ?_); conv => whnf))
  exact fin_val rfl fun w2 hB => ⟨rfl, hB⟩
 ·conv => whnf
  (repeat ((first | apply k1 | apply k2 | apply k3 | apply k4 | refine k5 (by decide) ?_ | refine k6 (by decide) ?_); conv => whnf))
  exact fin_val rfl fun w2 hB => ⟨rfl, hB⟩
 ·conv => whnf
  (repeat ((first | apply k1 | apply k2 | apply k3 | apply k4 | refine k5 (by decide) ?_ | refine k6 (by decide) ?_); conv => whnf))
  exact fin_val rfl fun w2 hB => ⟨rfl, hB⟩
 have e : nameL v = [63] := by unfold nameL; rw [if_neg h1, if_neg h2, if_neg (by omega), if_neg (by omega), if_neg (by omega), if_neg (by omega)]
 rw [e]
 have f1 : (v == 16) = false := by simp; omega
 have f2 : (v == 17) = false := by simp; omega
 have f3 : (v == 18) = false := by simp; omega
 have f4 : (v == 19) = false := by simp; omega
 rcases h3 with h3 | h3
 ·conv => whnf
  rw [show decide (v ≥ 0) = false from decide_eq_false (by omega)]
  (repeat ((first | apply k1 | apply k2 | apply k3 | apply k4 | refine k5 (by decide) ?_ | refine k6 (by decide) ?_); conv => whnf))
  rw [show decide (v ≥ 20) = false from decide_eq_false (by omega)]
  (repeat ((first | apply k1 | apply k2 | apply k3 | apply k4 | refine k5 (by decide) ?_ | refine k6 (by decide) ?_); conv => whnf))
  rw [f1]
  (repeat ((first | apply k1 | apply k2 | apply k3 | apply k4 | refine k5 (by decide) ?_ | refine k6 (by decide) ?_); conv => whnf))
  rw [f2]
  (repeat ((first | apply k1 | apply k2 | apply k3 | apply k4 | refine k5 (by decide) ?_ | refine k6 (by decide) ?_); conv => whnf))
  rw [f3]
  (repeat ((first | apply k1 | apply k2 | apply k3 | apply k4 | refine k5 (by decide) ?_ | refine k6 (by decide) ?_); conv => whnf))
  rw [f4]
  (repeat ((first | apply k1 | apply k2 | apply k3 | apply k4 | refine k5 (by decide) ?_ | refine k6 (by decide) ?_); conv => whnf))
  exact fin_val rfl fun w2 hB => ⟨rfl, hB⟩
 ·conv => whnf
  rw [show decide (v ≥ 0) = true from decide_eq_true (by omega)]
  (repeat ((first | apply k1 | apply k2 | apply k3 | apply k4 | refine k5 (by decide) ?_ | refine k6 (by decide) ?_); conv => whnf))
  rw [show decide (v < 16) = false from decide_eq_false (by omega)]
  (repeat ((first | apply k1 | apply k2 | apply k3 | apply k4 | refine k5 (by decide) ?_ | refine k6 (by decide) ?_); conv => whnf))
  rw [show decide (v ≥ 20) = true from decide_eq_true (by omega)]
  (repeat ((first | apply k1 | apply k2 | apply k3 | apply k4 | refine k5 (by decide) ?_ | refine k6 (by decide) ?_); conv => whnf))
  rw [show decide (v < 28) = false from decide_eq_false (by omega)]
  (repeat ((first | apply k1 | apply k2 | apply k3 | apply k4 | refine k5 (by decide) ?_ | refine k6 (by decide) ?_); conv => whnf))
  rw [f1]
  (repeat ((first | apply k1 | apply k2 | apply k3 | apply k4 | refine k5 (by decide) ?_ | refine k6 (by decide) ?_); conv => whnf))
  rw [f2]
  (repeat ((first | apply k1 | apply k2 | apply k3 | apply k4 | refine k5 (by decide) ?_ | refine k6 (by decide) ?_); conv => whnf))
  rw [f3]
  (repeat ((first | apply k1 | apply k2 | apply k3 | apply k4 | refine k5 (by decide) ?_ | refine k6 (by decide) ?_); conv => whnf))
  rw [f4]
  (repeat ((first | apply k1 | apply k2 | apply k3 | apply k4 | refine k5 (by decide) ?_ | refine k6 (by decide) ?_); conv => whnf))
  exact fin_val rfl fun w2 hB => ⟨rfl, hB⟩
end Go.Proofs.YtnhdcclpjildjaaGreat
namespace Go.Proofs.YtnhdcclpjildjaaGreat
open Go.RowKit

theorem bytesA_sub (l : List Int) (a b : Nat) : (bytesA l).extract a b = bytesA ((l.drop a).take (b - a)) := by
 have h : ((bytesA l).extract a b).data = (bytesA ((l.drop a).take (b - a))).data := by
  apply Array.ext'
  rw [bytesA_list, ByteArray.data_extract, Array.toList_extract, List.extract_eq_take_drop, bytesA_list, List.map_take, List.map_drop]
 exact ByteArray.ext h
theorem q_sub_str {P : Program} {w0 : World} {G : Gs} {S : List Ow} {f : Fr} {o : Oper} {K : AV → Prop} {t : TypeId} {x y z : Operand} {q q2 : IntKind} (l : List Int) (a b : Nat) (hop : o.op = .slice t x (some y) (some z) none) (ht : P.underlying t = some .string) (hx : f.ev x = one (strV l)) (hy : f.ev y = one (.int q (a : Int))) (hz : f.ev z = one (.int q2 (b : Int))) (hab : a ≤ b) (hb : b ≤ l.length) (hK : K (one (strV ((l.drop a).take (b - a))))) : QRun P w0 G S f o K := by
 refine ⟨_, hK, fun r c hf => ?_⟩
 have h1 := hf.ev x
 have h2 := hf.ev y
 have h3 := hf.ev z
 rw [hx] at h1
 rw [hy] at h2
 rw [hz] at h3
 refine ⟨_, rfl, fun w hR => ?_⟩
 have hs : (bytesA l).size = l.length := bytesA_size l
 simp [execOp, hop, den_v h1, den_v h2, den_v h3, Instr.sliceAt, Instr.slice, underlying, ht, strV, Instr.sliceBounds, Instr.sliceBound, asIntOf, hs, hab, hb, ← bytesA_sub]
abbrev digL : List Int := [48, 49, 50, 51, 52, 53, 54, 55, 56, 57, 97, 98, 99, 100, 101, 102]
theorem dig_at {d : Nat} (h : d < 16) : (digL.drop d).take (d + 1 - d) = [hexD (d : Int)] := by
 rcases (by omega : d = 0 ∨ d = 1 ∨ d = 2 ∨ d = 3 ∨ d = 4 ∨ d = 5 ∨ d = 6 ∨ d = 7 ∨ d = 8 ∨ d = 9 ∨ d = 10 ∨ d = 11 ∨ d = 12 ∨ d = 13 ∨ d = 14 ∨ d = 15) with rfl | rfl | rfl | rfl | rfl | rfl | rfl | rfl | rfl | rfl | rfl | rfl | rfl | rfl | rfl | rfl <;> rfl
theorem hex_shr {n : Int} (_hn : word n) {j : Nat} (hj : j < 8) : n.fdiv (2 ^ (min (28 - 4 * (j : Int)).toNat IntKind.u32.bits)) = n / 2 ^ (28 - 4 * j) := by
 have e : (min (28 - 4 * (j : Int)).toNat IntKind.u32.bits) = 28 - 4 * j := by
  show min (28 - 4 * (j : Int)).toNat 32 = 28 - 4 * j
  omega
 rw [e, Int.fdiv_eq_ediv_of_nonneg _ (Int.pow_nonneg (by decide))]
theorem hex_and {x : Int} (h : 0 ≤ x ∧ x < 4294967296) : bits .and .u32 x 15 = x % 16 := by
 obtain ⟨m, rfl⟩ : ∃ m : Nat, x = m := ⟨x.toNat, by omega⟩
 have := u32_and_nat m 15 (by omega) (by omega)
 rw [show (15 : Int) = ((15 : Nat) : Int) from rfl, this, show (15 : Nat) = 2 ^ 4 - 1 from rfl, Nat.and_two_pow_sub_one_eq_mod]
 omega
theorem hex_div {n : Int} (hn : word n) (k : Nat) : 0 ≤ n / 2 ^ k ∧ n / 2 ^ k < 4294967296 := by
 have h1 : (0 : Int) < 2 ^ k := Int.pow_pos (by decide)
 exact ⟨Int.ediv_nonneg hn.1 (Int.le_of_lt h1), Int.lt_of_le_of_lt (Int.ediv_le_self _ hn.1) hn.2⟩
set_option maxRecDepth 100000 in
theorem signed_walk (n : Int) (w : World) (hn : 0 ≤ n ∧ n < 9223372036854775808) : Calls Tryz.prog 61 #[intV n] w fun e w' => e = .returned (strV (decL n)) ∧ Below w.heap.size w w' := by
 refine calls_valN [intV n] Tryz.func61 Tryz.ntmps61 rfl (by simp) ?_
 conv => whnf
 rw [show decide (n < 0) = false from decide_eq_false (by omega)]
 (repeat ((first | apply k1 | apply k2 | apply k3 | apply k4 | refine k5 (by decide) ?_ | refine k6 (by decide) ?_); conv => whnf))
 refine ⟨n, wr64u (by omega), ?_⟩
 conv => whnf
 refine call_con (x := strV (decL n)) rfl (by kernel_rfl) (fun r w' hR => wide_walk n w' (by omega)) ?_
 conv => whnf
 exact fin_val rfl fun w2 hB => ⟨rfl, hB⟩
set_option maxRecDepth 100000 in
theorem hex_walk (n : Int) (w : World) (hn : word n) : Calls Tryz.prog 90 #[.int .u32 n] w fun e w' => e = .returned (strV (hexL n 8)) ∧ Below w.heap.size w w' := by
 refine calls_satq [.int .u32 n] Tryz.func90 Tryz.ntmps90 rfl (by simp) ?_
 refine satq_seqN ?_
 conv => whnf
 refine satq_seqN ?_
 conv => whnf
 refine satq_seqN ?_
 conv => whnf
 refine satq_mid (α := Unit) (fun _ => [(3, one (strV (hexL n 8)))]) (fun _ => []) ?_ fun _ => ?_
 ·refine satq_seqN ?_
  conv => whnf
  refine satq_block ?_
  refine satq_loop (α := { x : Nat // x ≤ 8 }) (fun x => [(0, one (.int .u32 n)), (3, one (strV (hexL n x.1))), (4, one (strV digL)), (5, one (intV (x.1 : Int)))]) (fun _ => []) (fun x => 8 - x.1)
   ⟨0, by omega⟩ (ent_same rfl (aI rfl (aI rfl (aI rfl (aI rfl trivial)))) trivial) fun x => ?_
  obtain ⟨j, hj⟩ := x
  dsimp only
  have hlen := hexL_len n j
  have hsucc : hexL n (j + 1) = hexL n j ++ [hexD (n / 2 ^ (28 - 4 * j) % 16)] := rfl
  generalize hl : hexL n j = l at hlen hsucc ⊢
  refine satq_seqN ?_
  conv => whnf
  refine ⟨fun hc => ?_, fun hc => ?_⟩
  ·have hlt : j < 8 := by simp at hc; omega
   conv => whnf
   refine satq_in (satq_block ?_)
   refine satq_seqN ?_
   conv => whnf
   refine ⟨4 * (j : Int), wr64 (by omega), ?_⟩
   conv => whnf
   refine ⟨28 - 4 * (j : Int), wr64 (by omega), ?_⟩
   conv => whnf
   refine ⟨28 - 4 * (j : Int), wr64u (by omega), ?_⟩
   conv => whnf
   refine ⟨by omega, n / 2 ^ (28 - 4 * j), hex_shr hn hlt, ?_⟩
   conv => whnf
   have hx := hex_div hn (28 - 4 * j)
   obtain ⟨d, hd⟩ : ∃ d : Nat, n / 2 ^ (28 - 4 * j) % 16 = (d : Int) := ⟨(n / 2 ^ (28 - 4 * j) % 16).toNat, by omega⟩
   have hd16 : d < 16 := by omega
   rw [hd] at hsucc
   refine ⟨(d : Int), (hex_and hx).trans hd, ?_⟩
   conv => whnf
   refine ⟨(d : Int), wr64 (by omega), ?_⟩
   conv => whnf
   refine satq_vcN ?_
   conv => whnf
   refine ⟨(d : Int) + 1, wr64 (by omega), ?_⟩
   conv => whnf
   refine opS_q (q_sub_str digL d (d + 1) rfl rfl rfl rfl (num_succ d) (by omega) (by show d + 1 ≤ 16; omega) ?_) rfl
   rw [dig_at hd16]
   conv => whnf
   refine q_cat_str l [hexD (d : Int)] rfl rfl rfl (by simp; omega) ?_
   conv => whnf
   refine atq_block (atq_on ?_)
   refine satq_vcN ?_
   conv => whnf
   refine ⟨(j : Int) + 1, wr64 (by omega), ?_⟩
   conv => whnf
   exact atq_next ⟨j + 1, by omega⟩ (ent_same rfl (aI rfl (aI ((by rw [hsucc]; rfl)) (aI rfl (aI rfl trivial)))) trivial) (by show 8 - (j + 1) < 8 - j; omega)
  ·have hje : j = 8 := by simp at hc; omega
   subst hje
   conv => whnf
   exact atq_out (atq_exit (atq_mid () (ent_same rfl (aI ((by rw [← hl]; rfl)) trivial) trivial)))
 refine satq_vcN ?_
 conv => whnf
 refine atq_ret ?_
 conv => whnf
 exact fin_val rfl fun w2 hB => ⟨rfl, hB⟩
def cellL (o : BOp) : List Int := (if sizeI o.code = 1 then [98, 121, 116, 101] else [119, 111, 114, 100]) ++ ([91] ++ nameL o.a ++ [32, 43, 32] ++ decL o.n ++ [93])
theorem cellL_len (o : BOp) : (cellL o).length ≤ 70 := by
 unfold cellL
 have h1 := nameL_len o.a
 have h2 := decL_len o.n
 simp only [List.length_append, List.length_cons, List.length_nil]
 split <;> simp only [List.length_cons, List.length_nil] <;> omega
set_option maxRecDepth 100000 in
theorem cell_walk (o : BOp) (w : World) (ha : mid o.a) (hn : word o.n) : Calls Tryz.prog 89 #[opV o] w fun e w' => e = .returned (strV (cellL o)) ∧ Below w.heap.size w w' := by
 obtain ⟨code, d, a, b, n⟩ := o
 dsimp only at ha hn
 have l1 := nameL_len a
 have l2 := decL_len n
 have hcl : cellL ⟨code, d, a, b, n⟩ = (if sizeI code = 1 then [98, 121, 116, 101] else [119, 111, 114, 100]) ++ ([91] ++ nameL a ++ [32, 43, 32] ++ decL n ++ [93]) := rfl
 rw [hcl]
 refine calls_valN [opV ⟨code, d, a, b, n⟩] Tryz.func89 Tryz.ntmps89 rfl (by simp) ?_
 conv => whnf
 refine sat_quiet mixed (by kernel_rfl) ?_
 conv => whnf
 refine q_con (x := strV (nameL a)) rfl (by kernel_rfl) (fun r w' hR => name_walk a w' ha) ?_
 conv => whnf
 refine q_cat_str [91] (nameL a) rfl rfl rfl (by simp only [List.length_cons, List.length_nil]; omega) ?_
 conv => whnf
 refine q_cat_str ([91] ++ nameL a) [32, 43, 32] rfl rfl rfl (by simp only [List.length_append, List.length_cons, List.length_nil]; omega) ?_
 conv => whnf
 refine q_con (x := strV (decL n)) rfl (by kernel_rfl) (fun r w' hR => decimal_walk n w' hn) ?_
 conv => whnf
 refine q_cat_str ([91] ++ nameL a ++ [32, 43, 32]) (decL n) rfl rfl rfl (by simp only [List.length_append, List.length_cons, List.length_nil]; omega) ?_
 conv => whnf
 refine q_cat_str ([91] ++ nameL a ++ [32, 43, 32] ++ decL n) [93] rfl rfl rfl (by simp only [List.length_append, List.length_cons, List.length_nil]; omega) ?_
 conv => whnf
 refine call_con (x := intV (sizeI code)) rfl (by kernel_rfl) (fun r w' hR => size_walk code w') ?_
 conv => whnf
 have hs : sizeI code = 1 ∨ sizeI code = 4 := by unfold sizeI; split <;> simp
 rcases hs with hs | hs
 ·rw [hs, if_pos rfl]
  (repeat ((first | apply k1 | apply k2 | apply k3 | apply k4 | refine k5 (by decide) ?_ | refine k6 (by decide) ?_); conv => whnf))
  refine q_cat_str [98, 121, 116, 101] ([91] ++ nameL a ++ [32, 43, 32] ++ decL n ++ [93]) rfl rfl rfl (by simp only [List.length_append, List.length_cons, List.length_nil]; omega) ?_
  conv => whnf
  exact fin_val rfl fun w2 hB => ⟨rfl, hB⟩
 ·rw [hs, if_neg (by decide)]
  (repeat ((first | apply k1 | apply k2 | apply k3 | apply k4 | refine k5 (by decide) ?_ | refine k6 (by decide) ?_); conv => whnf))
  refine q_cat_str [119, 111, 114, 100] ([91] ++ nameL a ++ [32, 43, 32] ++ decL n ++ [93]) rfl rfl rfl (by simp only [List.length_append, List.length_cons, List.length_nil]; omega) ?_
  conv => whnf
  exact fin_val rfl fun w2 hB => ⟨rfl, hB⟩
end Go.Proofs.YtnhdcclpjildjaaGreat
