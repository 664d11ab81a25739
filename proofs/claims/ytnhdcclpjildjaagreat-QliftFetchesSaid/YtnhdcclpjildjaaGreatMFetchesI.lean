/- Walks: a line of a block. -/
import Derived.Test.YtnhdcclpjildjaaGreatMFetchesF
import Derived.Test.YtnhdcclpjildjaaGreatMFetchesH
namespace Go.Proofs.YtnhdcclpjildjaaGreat
open Go.RowKit

def symL (c : Int) : List Int := [[43], [45], [38], [124], [94], [60, 60], [62, 62], [62, 62, 62], [42], [47], [61, 61], [60], [60, 115]].getD (c - 3).toNat []
def lineL (o : BOp) (l : List Int) : List Int :=
 if o.code = 1 then nameL o.d ++ [32, 61, 32] ++ decL o.n
 else if o.code = 2 then nameL o.d ++ [32, 61, 32] ++ nameL o.a
 else if o.code = 16 ∨ o.code = 17 then nameL o.d ++ [32, 61, 32] ++ cellL o
 else if o.code = 18 ∨ o.code = 19 then cellL o ++ [32, 61, 32] ++ nameL o.b
 else if o.code = 20 then (if o.n < (l.length : Int) then decL o.n ++ [58, 32] ++ hexL ((l[o.n.toNat]?).getD 0) 8 else decL o.n ++ [58, 32, 63])
 else if o.code = 21 then [103, 117, 97, 114, 100, 32] ++ nameL o.a
 else if o.code = 22 then [115, 108, 111, 119]
 else if o.code = 23 then [105, 102, 32] ++ nameL o.a ++ [32, 101, 120, 105, 116, 32] ++ decL o.n
 else if o.code = 24 then [101, 120, 105, 116, 32] ++ decL o.n
 else if o.code = 25 then [101, 120, 105, 116, 32] ++ nameL o.a
 else nameL o.d ++ [32, 61, 32] ++ nameL o.a ++ [32] ++ symL o.code ++ [32] ++ nameL o.b
theorem symL_len (c : Int) : (symL c).length ≤ 3 := by
 unfold symL
 generalize (c - 3).toNat = k
 match k with
 | 0 | 1 | 2 | 3 | 4 | 5 | 6 | 7 | 8 | 9 | 10 | 11 | 12 => decide
 | m + 13 => exact Nat.zero_le _
theorem lineL_len (o : BOp) (l : List Int) : (lineL o l).length ≤ 200 := by
 unfold lineL
 have h1 := nameL_len o.d
 have h2 := nameL_len o.a
 have h3 := nameL_len o.b
 have h4 := decL_len o.n
 have h5 := cellL_len o
 have h6 := symL_len o.code
 have h7 := hexL_len ((l[o.n.toNat]?).getD 0) 8
 repeat' split
 all_goals simp only [List.length_append, List.length_cons, List.length_nil]
 all_goals omega
set_option maxRecDepth 100000 in
set_option maxHeartbeats 8000000 in
theorem line_walk (o : BOp) (A : Option Addr) (m c : Nat) (l : List Int) (w : World) (hcode : 1 ≤ o.code ∧ o.code ≤ 25) (hd : mid o.d) (ha : mid o.a) (hb : mid o.b) (hn : word o.n) (hm : l.length = m) (hm2 : m ≤ 1000000) (hA : SlAt w w.heap.size A (l.map (.int .u32))) (hl : ∀ x ∈ l, word x) :
  Calls Tryz.prog 62 #[opV o, .slice A m c] w fun e w' => e = .returned (strV (lineL o l)) ∧ Below w.heap.size w w' := by
 subst hm
 obtain ⟨code, d, a, b, n⟩ := o
 dsimp only at hcode hd ha hb hn
 have l1 := nameL_len d
 have l2 := nameL_len a
 have l3 := nameL_len b
 have l4 := decL_len n
 have hn2 := hn
 unfold word at hn2
 refine calls_valN [opV ⟨code, d, a, b, n⟩, .slice A l.length c] Tryz.func62 Tryz.ntmps62 rfl (by simp) ?_
 conv => whnf
 refine call_con (x := strV (nameL d)) rfl (by kernel_rfl) (fun r w' hR => name_walk d w' hd) ?_
 conv => whnf
 refine q_cat_str (nameL d) [32, 61, 32] rfl rfl rfl (by simp only [List.length_cons, List.length_nil]; omega) ?_
 conv => whnf
 rcases (by omega : code = 1 ∨ code = 2 ∨ code = 3 ∨ code = 4 ∨ code = 5 ∨ code = 6 ∨ code = 7 ∨ code = 8 ∨ code = 9 ∨ code = 10 ∨ code = 11 ∨ code = 12 ∨ code = 13 ∨ code = 14 ∨ code = 15 ∨ code = 16 ∨ code = 17 ∨ code = 18 ∨ code = 19 ∨ code = 20 ∨ code = 21 ∨ code = 22 ∨ code = 23 ∨ code = 24 ∨ code = 25) with rfl | rfl | rfl | rfl | rfl | rfl | rfl | rfl | rfl | rfl | rfl | rfl | rfl | rfl | rfl | rfl | rfl | rfl | rfl | rfl | rfl | rfl | rfl | rfl | rfl
 ·(repeat ((first | apply k1 | apply k2 | apply k3 | apply k4 | refine k5 (by decide) ?_ | refine k6 (by decide) ?_); conv => whnf))
  refine call_con (x := strV (decL n)) rfl (by kernel_rfl) (fun r w' hR => decimal_walk n w' hn) ?_
  conv => whnf
  refine q_cat_str (nameL d ++ [32, 61, 32]) (decL n) rfl rfl rfl (by simp only [List.length_append, List.length_cons, List.length_nil]; omega) ?_
  conv => whnf
  exact fin_val rfl fun w2 hB => ⟨rfl, hB⟩
 ·(repeat ((first | apply k1 | apply k2 | apply k3 | apply k4 | refine k5 (by decide) ?_ | refine k6 (by decide) ?_); conv => whnf))
  refine call_con (x := strV (nameL a)) rfl (by kernel_rfl) (fun r w' hR => name_walk a w' ha) ?_
  conv => whnf
  refine q_cat_str (nameL d ++ [32, 61, 32]) (nameL a) rfl rfl rfl (by simp only [List.length_append, List.length_cons, List.length_nil]; omega) ?_
  conv => whnf
  exact fin_val rfl fun w2 hB => ⟨rfl, hB⟩
 ·(repeat ((first | apply k1 | apply k2 | apply k3 | apply k4 | refine k5 (by decide) ?_ | refine k6 (by decide) ?_); conv => whnf))
  refine sat_quiet mixed (by kernel_rfl) ?_
  conv => whnf
  refine q_con (x := strV (nameL a)) rfl (by kernel_rfl) (fun r w' hR => name_walk a w' ha) ?_
  conv => whnf
  refine q_cat_str (nameL d ++ [32, 61, 32]) (nameL a) rfl rfl rfl (by simp only [List.length_append, List.length_cons, List.length_nil]; omega) ?_
  conv => whnf
  refine q_cat_str (nameL d ++ [32, 61, 32] ++ nameL a) [32] rfl rfl rfl (by simp only [List.length_append, List.length_cons, List.length_nil]; omega) ?_
  conv => whnf
  refine ⟨0, rfl, ?_⟩
  conv => whnf
  (refine ⟨⟨by omega, by omega⟩, ?_⟩; (conv=>whnf))
  refine q_cat_str (nameL d ++ [32, 61, 32] ++ nameL a ++ [32]) [43] rfl rfl rfl (by simp only [List.length_append, List.length_cons, List.length_nil]; omega) ?_
  conv => whnf
  refine q_cat_str (nameL d ++ [32, 61, 32] ++ nameL a ++ [32] ++ [43]) [32] rfl rfl rfl (by simp only [List.length_append, List.length_cons, List.length_nil]; omega) ?_
  conv => whnf
  refine q_con (x := strV (nameL b)) rfl (by kernel_rfl) (fun r w' hR => name_walk b w' hb) ?_
  conv => whnf
  refine q_cat_str (nameL d ++ [32, 61, 32] ++ nameL a ++ [32] ++ [43] ++ [32]) (nameL b) rfl rfl rfl (by simp only [List.length_append, List.length_cons, List.length_nil]; omega) ?_
  conv => whnf
  exact fin_val rfl fun w2 hB => ⟨rfl, hB⟩
 ·(repeat ((first | apply k1 | apply k2 | apply k3 | apply k4 | refine k5 (by decide) ?_ | refine k6 (by decide) ?_); conv => whnf))
  refine sat_quiet mixed (by kernel_rfl) ?_
  conv => whnf
  refine q_con (x := strV (nameL a)) rfl (by kernel_rfl) (fun r w' hR => name_walk a w' ha) ?_
  conv => whnf
  refine q_cat_str (nameL d ++ [32, 61, 32]) (nameL a) rfl rfl rfl (by simp only [List.length_append, List.length_cons, List.length_nil]; omega) ?_
  conv => whnf
  refine q_cat_str (nameL d ++ [32, 61, 32] ++ nameL a) [32] rfl rfl rfl (by simp only [List.length_append, List.length_cons, List.length_nil]; omega) ?_
  conv => whnf
  refine ⟨1, rfl, ?_⟩
  conv => whnf
  (refine ⟨⟨by omega, by omega⟩, ?_⟩; (conv=>whnf))
  refine q_cat_str (nameL d ++ [32, 61, 32] ++ nameL a ++ [32]) [45] rfl rfl rfl (by simp only [List.length_append, List.length_cons, List.length_nil]; omega) ?_
  conv => whnf
  refine q_cat_str (nameL d ++ [32, 61, 32] ++ nameL a ++ [32] ++ [45]) [32] rfl rfl rfl (by simp only [List.length_append, List.length_cons, List.length_nil]; omega) ?_
  conv => whnf
  refine q_con (x := strV (nameL b)) rfl (by kernel_rfl) (fun r w' hR => name_walk b w' hb) ?_
  conv => whnf
  refine q_cat_str (nameL d ++ [32, 61, 32] ++ nameL a ++ [32] ++ [45] ++ [32]) (nameL b) rfl rfl rfl (by simp only [List.length_append, List.length_cons, List.length_nil]; omega) ?_
  conv => whnf
  exact fin_val rfl fun w2 hB => ⟨rfl, hB⟩
 ·(repeat ((first | apply k1 | apply k2 | apply k3 | apply k4 | refine k5 (by decide) ?_ | refine k6 (by decide) ?_); conv => whnf))
  refine sat_quiet mixed (by kernel_rfl) ?_
  conv => whnf
  refine q_con (x := strV (nameL a)) rfl (by kernel_rfl) (fun r w' hR => name_walk a w' ha) ?_
  conv => whnf
  refine q_cat_str (nameL d ++ [32, 61, 32]) (nameL a) rfl rfl rfl (by simp only [List.length_append, List.length_cons, List.length_nil]; omega) ?_
  conv => whnf
  refine q_cat_str (nameL d ++ [32, 61, 32] ++ nameL a) [32] rfl rfl rfl (by simp only [List.length_append, List.length_cons, List.length_nil]; omega) ?_
  conv => whnf
  refine ⟨2, rfl, ?_⟩
  conv => whnf
  (refine ⟨⟨by omega, by omega⟩, ?_⟩; (conv=>whnf))
  refine q_cat_str (nameL d ++ [32, 61, 32] ++ nameL a ++ [32]) [38] rfl rfl rfl (by simp only [List.length_append, List.length_cons, List.length_nil]; omega) ?_
  conv => whnf
  refine q_cat_str (nameL d ++ [32, 61, 32] ++ nameL a ++ [32] ++ [38]) [32] rfl rfl rfl (by simp only [List.length_append, List.length_cons, List.length_nil]; omega) ?_
  conv => whnf
  refine q_con (x := strV (nameL b)) rfl (by kernel_rfl) (fun r w' hR => name_walk b w' hb) ?_
  conv => whnf
  refine q_cat_str (nameL d ++ [32, 61, 32] ++ nameL a ++ [32] ++ [38] ++ [32]) (nameL b) rfl rfl rfl (by simp only [List.length_append, List.length_cons, List.length_nil]; omega) ?_
  conv => whnf
  exact fin_val rfl fun w2 hB => ⟨rfl, hB⟩
 ·(repeat ((first | apply k1 | apply k2 | apply k3 | apply k4 | refine k5 (by decide) ?_ | refine k6 (by decide) ?_); conv => whnf))
  refine sat_quiet mixed (by kernel_rfl) ?_
  conv => whnf
  refine q_con (x := strV (nameL a)) rfl (by kernel_rfl) (fun r w' hR => name_walk a w' ha) ?_
  conv => whnf
  refine q_cat_str (nameL d ++ [32, 61, 32]) (nameL a) rfl rfl rfl (by simp only [List.length_append, List.length_cons, List.length_nil]; omega) ?_
  conv => whnf
  refine q_cat_str (nameL d ++ [32, 61, 32] ++ nameL a) [32] rfl rfl rfl (by simp only [List.length_append, List.length_cons, List.length_nil]; omega) ?_
  conv => whnf
  refine ⟨3, rfl, ?_⟩
  conv => whnf
  (refine ⟨⟨by omega, by omega⟩, ?_⟩; (conv=>whnf))
  refine q_cat_str (nameL d ++ [32, 61, 32] ++ nameL a ++ [32]) [124] rfl rfl rfl (by simp only [List.length_append, List.length_cons, List.length_nil]; omega) ?_
  conv => whnf
  refine q_cat_str (nameL d ++ [32, 61, 32] ++ nameL a ++ [32] ++ [124]) [32] rfl rfl rfl (by simp only [List.length_append, List.length_cons, List.length_nil]; omega) ?_
  conv => whnf
  refine q_con (x := strV (nameL b)) rfl (by kernel_rfl) (fun r w' hR => name_walk b w' hb) ?_
  conv => whnf
  refine q_cat_str (nameL d ++ [32, 61, 32] ++ nameL a ++ [32] ++ [124] ++ [32]) (nameL b) rfl rfl rfl (by simp only [List.length_append, List.length_cons, List.length_nil]; omega) ?_
  conv => whnf
  exact fin_val rfl fun w2 hB => ⟨rfl, hB⟩
 ·(repeat ((first | apply k1 | apply k2 | apply k3 | apply k4 | refine k5 (by decide) ?_ | refine k6 (by decide) ?_); conv => whnf))
  refine sat_quiet mixed (by kernel_rfl) ?_
  conv => whnf
  refine q_con (x := strV (nameL a)) rfl (by kernel_rfl) (fun r w' hR => name_walk a w' ha) ?_
  conv => whnf
  refine q_cat_str (nameL d ++ [32, 61, 32]) (nameL a) rfl rfl rfl (by simp only [List.length_append, List.length_cons, List.length_nil]; omega) ?_
  conv => whnf
  refine q_cat_str (nameL d ++ [32, 61, 32] ++ nameL a) [32] rfl rfl rfl (by simp only [List.length_append, List.length_cons, List.length_nil]; omega) ?_
  conv => whnf
  refine ⟨4, rfl, ?_⟩
  conv => whnf
  (refine ⟨⟨by omega, by omega⟩, ?_⟩; (conv=>whnf))
  refine q_cat_str (nameL d ++ [32, 61, 32] ++ nameL a ++ [32]) [94] rfl rfl rfl (by simp only [List.length_append, List.length_cons, List.length_nil]; omega) ?_
  conv => whnf
  refine q_cat_str (nameL d ++ [32, 61, 32] ++ nameL a ++ [32] ++ [94]) [32] rfl rfl rfl (by simp only [List.length_append, List.length_cons, List.length_nil]; omega) ?_
  conv => whnf
  refine q_con (x := strV (nameL b)) rfl (by kernel_rfl) (fun r w' hR => name_walk b w' hb) ?_
  conv => whnf
  refine q_cat_str (nameL d ++ [32, 61, 32] ++ nameL a ++ [32] ++ [94] ++ [32]) (nameL b) rfl rfl rfl (by simp only [List.length_append, List.length_cons, List.length_nil]; omega) ?_
  conv => whnf
  exact fin_val rfl fun w2 hB => ⟨rfl, hB⟩
 ·(repeat ((first | apply k1 | apply k2 | apply k3 | apply k4 | refine k5 (by decide) ?_ | refine k6 (by decide) ?_); conv => whnf))
  refine sat_quiet mixed (by kernel_rfl) ?_
  conv => whnf
  refine q_con (x := strV (nameL a)) rfl (by kernel_rfl) (fun r w' hR => name_walk a w' ha) ?_
  conv => whnf
  refine q_cat_str (nameL d ++ [32, 61, 32]) (nameL a) rfl rfl rfl (by simp only [List.length_append, List.length_cons, List.length_nil]; omega) ?_
  conv => whnf
  refine q_cat_str (nameL d ++ [32, 61, 32] ++ nameL a) [32] rfl rfl rfl (by simp only [List.length_append, List.length_cons, List.length_nil]; omega) ?_
  conv => whnf
  refine ⟨5, rfl, ?_⟩
  conv => whnf
  (refine ⟨⟨by omega, by omega⟩, ?_⟩; (conv=>whnf))
  refine q_cat_str (nameL d ++ [32, 61, 32] ++ nameL a ++ [32]) [60, 60] rfl rfl rfl (by simp only [List.length_append, List.length_cons, List.length_nil]; omega) ?_
  conv => whnf
  refine q_cat_str (nameL d ++ [32, 61, 32] ++ nameL a ++ [32] ++ [60, 60]) [32] rfl rfl rfl (by simp only [List.length_append, List.length_cons, List.length_nil]; omega) ?_
  conv => whnf
  refine q_con (x := strV (nameL b)) rfl (by kernel_rfl) (fun r w' hR => name_walk b w' hb) ?_
  conv => whnf
  refine q_cat_str (nameL d ++ [32, 61, 32] ++ nameL a ++ [32] ++ [60, 60] ++ [32]) (nameL b) rfl rfl rfl (by simp only [List.length_append, List.length_cons, List.length_nil]; omega) ?_
  conv => whnf
  exact fin_val rfl fun w2 hB => ⟨rfl, hB⟩
 ·(repeat ((first | apply k1 | apply k2 | apply k3 | apply k4 | refine k5 (by decide) ?_ | refine k6 (by decide) ?_); conv => whnf))
  refine sat_quiet mixed (by kernel_rfl) ?_
  conv => whnf
  refine q_con (x := strV (nameL a)) rfl (by kernel_rfl) (fun r w' hR => name_walk a w' ha) ?_
  conv => whnf
  refine q_cat_str (nameL d ++ [32, 61, 32]) (nameL a) rfl rfl rfl (by simp only [List.length_append, List.length_cons, List.length_nil]; omega) ?_
  conv => whnf
  refine q_cat_str (nameL d ++ [32, 61, 32] ++ nameL a) [32] rfl rfl rfl (by simp only [List.length_append, List.length_cons, List.length_nil]; omega) ?_
  conv => whnf
  refine ⟨6, rfl, ?_⟩
  conv => whnf
  (refine ⟨⟨by omega, by omega⟩, ?_⟩; (conv=>whnf))
  refine q_cat_str (nameL d ++ [32, 61, 32] ++ nameL a ++ [32]) [62, 62] rfl rfl rfl (by simp only [List.length_append, List.length_cons, List.length_nil]; omega) ?_
  conv => whnf
  refine q_cat_str (nameL d ++ [32, 61, 32] ++ nameL a ++ [32] ++ [62, 62]) [32] rfl rfl rfl (by simp only [List.length_append, List.length_cons, List.length_nil]; omega) ?_
  conv => whnf
  refine q_con (x := strV (nameL b)) rfl (by kernel_rfl) (fun r w' hR => name_walk b w' hb) ?_
  conv => whnf
  refine q_cat_str (nameL d ++ [32, 61, 32] ++ nameL a ++ [32] ++ [62, 62] ++ [32]) (nameL b) rfl rfl rfl (by simp only [List.length_append, List.length_cons, List.length_nil]; omega) ?_
  conv => whnf
  exact fin_val rfl fun w2 hB => ⟨rfl, hB⟩
 ·(repeat ((first | apply k1 | apply k2 | apply k3 | apply k4 | refine k5 (by decide) ?_ | refine k6 (by decide) ?_); conv => whnf))
  refine sat_quiet mixed (by kernel_rfl) ?_
  conv => whnf
  refine q_con (x := strV (nameL a)) rfl (by kernel_rfl) (fun r w' hR => name_walk a w' ha) ?_
  conv => whnf
  refine q_cat_str (nameL d ++ [32, 61, 32]) (nameL a) rfl rfl rfl (by simp only [List.length_append, List.length_cons, List.length_nil]; omega) ?_
  conv => whnf
  refine q_cat_str (nameL d ++ [32, 61, 32] ++ nameL a) [32] rfl rfl rfl (by simp only [List.length_append, List.length_cons, List.length_nil]; omega) ?_
  conv => whnf
  refine ⟨7, rfl, ?_⟩
  conv => whnf
  (refine ⟨⟨by omega, by omega⟩, ?_⟩; (conv=>whnf))
  refine q_cat_str (nameL d ++ [32, 61, 32] ++ nameL a ++ [32]) [62, 62, 62] rfl rfl rfl (by simp only [List.length_append, List.length_cons, List.length_nil]; omega) ?_
  conv => whnf
  refine q_cat_str (nameL d ++ [32, 61, 32] ++ nameL a ++ [32] ++ [62, 62, 62]) [32] rfl rfl rfl (by simp only [List.length_append, List.length_cons, List.length_nil]; omega) ?_
  conv => whnf
  refine q_con (x := strV (nameL b)) rfl (by kernel_rfl) (fun r w' hR => name_walk b w' hb) ?_
  conv => whnf
  refine q_cat_str (nameL d ++ [32, 61, 32] ++ nameL a ++ [32] ++ [62, 62, 62] ++ [32]) (nameL b) rfl rfl rfl (by simp only [List.length_append, List.length_cons, List.length_nil]; omega) ?_
  conv => whnf
  exact fin_val rfl fun w2 hB => ⟨rfl, hB⟩
 ·(repeat ((first | apply k1 | apply k2 | apply k3 | apply k4 | refine k5 (by decide) ?_ | refine k6 (by decide) ?_); conv => whnf))
  refine sat_quiet mixed (by kernel_rfl) ?_
  conv => whnf
  refine q_con (x := strV (nameL a)) rfl (by kernel_rfl) (fun r w' hR => name_walk a w' ha) ?_
  conv => whnf
  refine q_cat_str (nameL d ++ [32, 61, 32]) (nameL a) rfl rfl rfl (by simp only [List.length_append, List.length_cons, List.length_nil]; omega) ?_
  conv => whnf
  refine q_cat_str (nameL d ++ [32, 61, 32] ++ nameL a) [32] rfl rfl rfl (by simp only [List.length_append, List.length_cons, List.length_nil]; omega) ?_
  conv => whnf
  refine ⟨8, rfl, ?_⟩
  conv => whnf
  (refine ⟨⟨by omega, by omega⟩, ?_⟩; (conv=>whnf))
  refine q_cat_str (nameL d ++ [32, 61, 32] ++ nameL a ++ [32]) [42] rfl rfl rfl (by simp only [List.length_append, List.length_cons, List.length_nil]; omega) ?_
  conv => whnf
  refine q_cat_str (nameL d ++ [32, 61, 32] ++ nameL a ++ [32] ++ [42]) [32] rfl rfl rfl (by simp only [List.length_append, List.length_cons, List.length_nil]; omega) ?_
  conv => whnf
  refine q_con (x := strV (nameL b)) rfl (by kernel_rfl) (fun r w' hR => name_walk b w' hb) ?_
  conv => whnf
  refine q_cat_str (nameL d ++ [32, 61, 32] ++ nameL a ++ [32] ++ [42] ++ [32]) (nameL b) rfl rfl rfl (by simp only [List.length_append, List.length_cons, List.length_nil]; omega) ?_
  conv => whnf
  exact fin_val rfl fun w2 hB => ⟨rfl, hB⟩
 ·(repeat ((first | apply k1 | apply k2 | apply k3 | apply k4 | refine k5 (by decide) ?_ | refine k6 (by decide) ?_); conv => whnf))
  refine sat_quiet mixed (by kernel_rfl) ?_
  conv => whnf
  refine q_con (x := strV (nameL a)) rfl (by kernel_rfl) (fun r w' hR => name_walk a w' ha) ?_
  conv => whnf
  refine q_cat_str (nameL d ++ [32, 61, 32]) (nameL a) rfl rfl rfl (by simp only [List.length_append, List.length_cons, List.length_nil]; omega) ?_
  conv => whnf
  refine q_cat_str (nameL d ++ [32, 61, 32] ++ nameL a) [32] rfl rfl rfl (by simp only [List.length_append, List.length_cons, List.length_nil]; omega) ?_
  conv => whnf
  refine ⟨9, rfl, ?_⟩
  conv => whnf
  (refine ⟨⟨by omega, by omega⟩, ?_⟩; (conv=>whnf))
  refine q_cat_str (nameL d ++ [32, 61, 32] ++ nameL a ++ [32]) [47] rfl rfl rfl (by simp only [List.length_append, List.length_cons, List.length_nil]; omega) ?_
  conv => whnf
  refine q_cat_str (nameL d ++ [32, 61, 32] ++ nameL a ++ [32] ++ [47]) [32] rfl rfl rfl (by simp only [List.length_append, List.length_cons, List.length_nil]; omega) ?_
  conv => whnf
  refine q_con (x := strV (nameL b)) rfl (by kernel_rfl) (fun r w' hR => name_walk b w' hb) ?_
  conv => whnf
  refine q_cat_str (nameL d ++ [32, 61, 32] ++ nameL a ++ [32] ++ [47] ++ [32]) (nameL b) rfl rfl rfl (by simp only [List.length_append, List.length_cons, List.length_nil]; omega) ?_
  conv => whnf
  exact fin_val rfl fun w2 hB => ⟨rfl, hB⟩
 ·(repeat ((first | apply k1 | apply k2 | apply k3 | apply k4 | refine k5 (by decide) ?_ | refine k6 (by decide) ?_); conv => whnf))
  refine sat_quiet mixed (by kernel_rfl) ?_
  conv => whnf
  refine q_con (x := strV (nameL a)) rfl (by kernel_rfl) (fun r w' hR => name_walk a w' ha) ?_
  conv => whnf
  refine q_cat_str (nameL d ++ [32, 61, 32]) (nameL a) rfl rfl rfl (by simp only [List.length_append, List.length_cons, List.length_nil]; omega) ?_
  conv => whnf
  refine q_cat_str (nameL d ++ [32, 61, 32] ++ nameL a) [32] rfl rfl rfl (by simp only [List.length_append, List.length_cons, List.length_nil]; omega) ?_
  conv => whnf
  refine ⟨10, rfl, ?_⟩
  conv => whnf
  (refine ⟨⟨by omega, by omega⟩, ?_⟩; (conv=>whnf))
  refine q_cat_str (nameL d ++ [32, 61, 32] ++ nameL a ++ [32]) [61, 61] rfl rfl rfl (by simp only [List.length_append, List.length_cons, List.length_nil]; omega) ?_
  conv => whnf
  refine q_cat_str (nameL d ++ [32, 61, 32] ++ nameL a ++ [32] ++ [61, 61]) [32] rfl rfl rfl (by simp only [List.length_append, List.length_cons, List.length_nil]; omega) ?_
  conv => whnf
  refine q_con (x := strV (nameL b)) rfl (by kernel_rfl) (fun r w' hR => name_walk b w' hb) ?_
  conv => whnf
  refine q_cat_str (nameL d ++ [32, 61, 32] ++ nameL a ++ [32] ++ [61, 61] ++ [32]) (nameL b) rfl rfl rfl (by simp only [List.length_append, List.length_cons, List.length_nil]; omega) ?_
  conv => whnf
  exact fin_val rfl fun w2 hB => ⟨rfl, hB⟩
 ·(repeat ((first | apply k1 | apply k2 | apply k3 | apply k4 | refine k5 (by decide) ?_ | refine k6 (by decide) ?_); conv => whnf))
  refine sat_quiet mixed (by kernel_rfl) ?_
  conv => whnf
  refine q_con (x := strV (nameL a)) rfl (by kernel_rfl) (fun r w' hR => name_walk a w' ha) ?_
  conv => whnf
  refine q_cat_str (nameL d ++ [32, 61, 32]) (nameL a) rfl rfl rfl (by simp only [List.length_append, List.length_cons, List.length_nil]; omega) ?_
  conv => whnf
  refine q_cat_str (nameL d ++ [32, 61, 32] ++ nameL a) [32] rfl rfl rfl (by simp only [List.length_append, List.length_cons, List.length_nil]; omega) ?_
  conv => whnf
  refine ⟨11, rfl, ?_⟩
  conv => whnf
  (refine ⟨⟨by omega, by omega⟩, ?_⟩; (conv=>whnf))
  refine q_cat_str (nameL d ++ [32, 61, 32] ++ nameL a ++ [32]) [60] rfl rfl rfl (by simp only [List.length_append, List.length_cons, List.length_nil]; omega) ?_
  conv => whnf
  refine q_cat_str (nameL d ++ [32, 61, 32] ++ nameL a ++ [32] ++ [60]) [32] rfl rfl rfl (by simp only [List.length_append, List.length_cons, List.length_nil]; omega) ?_
  conv => whnf
  refine q_con (x := strV (nameL b)) rfl (by kernel_rfl) (fun r w' hR => name_walk b w' hb) ?_
  conv => whnf
  refine q_cat_str (nameL d ++ [32, 61, 32] ++ nameL a ++ [32] ++ [60] ++ [32]) (nameL b) rfl rfl rfl (by simp only [List.length_append, List.length_cons, List.length_nil]; omega) ?_
  conv => whnf
  exact fin_val rfl fun w2 hB => ⟨rfl, hB⟩
 ·(repeat ((first | apply k1 | apply k2 | apply k3 | apply k4 | refine k5 (by decide) ?_ | refine k6 (by decide) ?_); conv => whnf))
  refine sat_quiet mixed (by kernel_rfl) ?_
  conv => whnf
  refine q_con (x := strV (nameL a)) rfl (by kernel_rfl) (fun r w' hR => name_walk a w' ha) ?_
  conv => whnf
  refine q_cat_str (nameL d ++ [32, 61, 32]) (nameL a) rfl rfl rfl (by simp only [List.length_append, List.length_cons, List.length_nil]; omega) ?_
  conv => whnf
  refine q_cat_str (nameL d ++ [32, 61, 32] ++ nameL a) [32] rfl rfl rfl (by simp only [List.length_append, List.length_cons, List.length_nil]; omega) ?_
  conv => whnf
  refine ⟨12, rfl, ?_⟩
  conv => whnf
  (refine ⟨⟨by omega, by omega⟩, ?_⟩; (conv=>whnf))
  refine q_cat_str (nameL d ++ [32, 61, 32] ++ nameL a ++ [32]) [60, 115] rfl rfl rfl (by simp only [List.length_append, List.length_cons, List.length_nil]; omega) ?_
  conv => whnf
  refine q_cat_str (nameL d ++ [32, 61, 32] ++ nameL a ++ [32] ++ [60, 115]) [32] rfl rfl rfl (by simp only [List.length_append, List.length_cons, List.length_nil]; omega) ?_
  conv => whnf
  refine q_con (x := strV (nameL b)) rfl (by kernel_rfl) (fun r w' hR => name_walk b w' hb) ?_
  conv => whnf
  refine q_cat_str (nameL d ++ [32, 61, 32] ++ nameL a ++ [32] ++ [60, 115] ++ [32]) (nameL b) rfl rfl rfl (by simp only [List.length_append, List.length_cons, List.length_nil]; omega) ?_
  conv => whnf
  exact fin_val rfl fun w2 hB => ⟨rfl, hB⟩
 ·(repeat ((first | apply k1 | apply k2 | apply k3 | apply k4 | refine k5 (by decide) ?_ | refine k6 (by decide) ?_); conv => whnf))
  have lc := cellL_len ⟨16, d, a, b, n⟩
  refine call_con (x := strV (cellL ⟨16, d, a, b, n⟩)) rfl (by kernel_rfl) (fun r w' hR => cell_walk ⟨16, d, a, b, n⟩ w' ha hn) ?_
  conv => whnf
  refine q_cat_str (nameL d ++ [32, 61, 32]) (cellL ⟨16, d, a, b, n⟩) rfl rfl rfl (by simp only [List.length_append, List.length_cons, List.length_nil]; omega) ?_
  conv => whnf
  exact fin_val rfl fun w2 hB => ⟨rfl, hB⟩
 ·(repeat ((first | apply k1 | apply k2 | apply k3 | apply k4 | refine k5 (by decide) ?_ | refine k6 (by decide) ?_); conv => whnf))
  have lc := cellL_len ⟨17, d, a, b, n⟩
  refine call_con (x := strV (cellL ⟨17, d, a, b, n⟩)) rfl (by kernel_rfl) (fun r w' hR => cell_walk ⟨17, d, a, b, n⟩ w' ha hn) ?_
  conv => whnf
  refine q_cat_str (nameL d ++ [32, 61, 32]) (cellL ⟨17, d, a, b, n⟩) rfl rfl rfl (by simp only [List.length_append, List.length_cons, List.length_nil]; omega) ?_
  conv => whnf
  exact fin_val rfl fun w2 hB => ⟨rfl, hB⟩
 ·(repeat ((first | apply k1 | apply k2 | apply k3 | apply k4 | refine k5 (by decide) ?_ | refine k6 (by decide) ?_); conv => whnf))
  have lc := cellL_len ⟨18, d, a, b, n⟩
  refine sat_quiet mixed (by kernel_rfl) ?_
  conv => whnf
  refine q_con (x := strV (cellL ⟨18, d, a, b, n⟩)) rfl (by kernel_rfl) (fun r w' hR => cell_walk ⟨18, d, a, b, n⟩ w' ha hn) ?_
  conv => whnf
  refine q_cat_str (cellL ⟨18, d, a, b, n⟩) [32, 61, 32] rfl rfl rfl (by simp only [List.length_cons, List.length_nil]; omega) ?_
  conv => whnf
  refine q_con (x := strV (nameL b)) rfl (by kernel_rfl) (fun r w' hR => name_walk b w' hb) ?_
  conv => whnf
  refine q_cat_str (cellL ⟨18, d, a, b, n⟩ ++ [32, 61, 32]) (nameL b) rfl rfl rfl (by simp only [List.length_append, List.length_cons, List.length_nil]; omega) ?_
  conv => whnf
  exact fin_val rfl fun w2 hB => ⟨rfl, hB⟩
 ·(repeat ((first | apply k1 | apply k2 | apply k3 | apply k4 | refine k5 (by decide) ?_ | refine k6 (by decide) ?_); conv => whnf))
  have lc := cellL_len ⟨19, d, a, b, n⟩
  refine sat_quiet mixed (by kernel_rfl) ?_
  conv => whnf
  refine q_con (x := strV (cellL ⟨19, d, a, b, n⟩)) rfl (by kernel_rfl) (fun r w' hR => cell_walk ⟨19, d, a, b, n⟩ w' ha hn) ?_
  conv => whnf
  refine q_cat_str (cellL ⟨19, d, a, b, n⟩) [32, 61, 32] rfl rfl rfl (by simp only [List.length_cons, List.length_nil]; omega) ?_
  conv => whnf
  refine q_con (x := strV (nameL b)) rfl (by kernel_rfl) (fun r w' hR => name_walk b w' hb) ?_
  conv => whnf
  refine q_cat_str (cellL ⟨19, d, a, b, n⟩ ++ [32, 61, 32]) (nameL b) rfl rfl rfl (by simp only [List.length_append, List.length_cons, List.length_nil]; omega) ?_
  conv => whnf
  exact fin_val rfl fun w2 hB => ⟨rfl, hB⟩
 ·(repeat ((first | apply k1 | apply k2 | apply k3 | apply k4 | refine k5 (by decide) ?_ | refine k6 (by decide) ?_); conv => whnf))
  refine ⟨n, wr64 (n := n) (by omega), ?_⟩
  conv => whnf
  refine ⟨fun hc => ?_, fun hc => ?_⟩
  ·have hlt : n < (l.length : Int) := by simpa using hc
   have hk : n.toNat < l.length := by omega
   obtain ⟨x, hx⟩ : ∃ x, l[n.toNat]? = some x := ⟨_, List.getElem?_eq_getElem hk⟩
   obtain ⟨b0, off, rfl, hb0, hc0⟩ := hA n.toNat (.int .u32 x) (by rw [List.getElem?_map, hx]; rfl)
   have hxw : word x := hl x (List.mem_of_getElem? hx)
   have hle : lineL ⟨20, d, a, b, n⟩ l = decL n ++ [58, 32] ++ hexL x 8 := by
    show (if n < (l.length : Int) then decL n ++ [58, 32] ++ hexL ((l[n.toNat]?).getD 0) 8 else _) = _
    rw [if_pos hlt, hx]; rfl
   have lh := hexL_len x 8
   conv => whnf
   refine sat_quiet mixed (by kernel_rfl) ?_
   conv => whnf
   refine q_con (x := strV (decL n)) rfl (by kernel_rfl) (fun r w' hR => decimal_walk n w' hn) ?_
   conv => whnf
   refine q_cat_str (decL n) [58, 32] rfl rfl rfl (by simp only [List.length_cons, List.length_nil]; omega) ?_
   conv => whnf
   refine ⟨⟨hn2.1, hlt⟩, ?_⟩
   conv => whnf
   refine ⟨_, cells_one hb0 (by simp) (x := .int .u32 x) (by show w.cell? ⟨b0, off + n.toNat * 1, none⟩ = _; rw [Nat.mul_one]; exact hc0), ?_⟩
   conv => whnf
   refine q_con (x := strV (hexL x 8)) rfl (by kernel_rfl) (fun r w' hR => hex_walk x w' hxw) ?_
   conv => whnf
   refine q_cat_str (decL n ++ [58, 32]) (hexL x 8) rfl rfl rfl (by simp only [List.length_append, List.length_cons, List.length_nil]; omega) ?_
   conv => whnf
   exact fin_val rfl fun w2 hB => ⟨by rw [hle], hB⟩
  ·have hge : ¬ n < (l.length : Int) := by simpa using hc
   have hle : lineL ⟨20, d, a, b, n⟩ l = decL n ++ [58, 32, 63] := by
    show (if n < (l.length : Int) then _ else decL n ++ [58, 32, 63]) = _
    rw [if_neg hge]
   conv => whnf
   refine call_con (x := strV (decL n)) rfl (by kernel_rfl) (fun r w' hR => decimal_walk n w' hn) ?_
   conv => whnf
   refine q_cat_str (decL n) [58, 32, 63] rfl rfl rfl (by simp only [List.length_cons, List.length_nil]; omega) ?_
   conv => whnf
   exact fin_val rfl fun w2 hB => ⟨by rw [hle], hB⟩
 ·(repeat ((first | apply k1 | apply k2 | apply k3 | apply k4 | refine k5 (by decide) ?_ | refine k6 (by decide) ?_); conv => whnf))
  refine call_con (x := strV (nameL a)) rfl (by kernel_rfl) (fun r w' hR => name_walk a w' ha) ?_
  conv => whnf
  refine q_cat_str [103, 117, 97, 114, 100, 32] (nameL a) rfl rfl rfl (by simp only [List.length_cons, List.length_nil]; omega) ?_
  conv => whnf
  exact fin_val rfl fun w2 hB => ⟨rfl, hB⟩
 ·(repeat ((first | apply k1 | apply k2 | apply k3 | apply k4 | refine k5 (by decide) ?_ | refine k6 (by decide) ?_); conv => whnf))
  exact fin_val rfl fun w2 hB => ⟨rfl, hB⟩
 ·(repeat ((first | apply k1 | apply k2 | apply k3 | apply k4 | refine k5 (by decide) ?_ | refine k6 (by decide) ?_); conv => whnf))
  refine sat_quiet mixed (by kernel_rfl) ?_
  conv => whnf
  refine q_con (x := strV (nameL a)) rfl (by kernel_rfl) (fun r w' hR => name_walk a w' ha) ?_
  conv => whnf
  refine q_cat_str [105, 102, 32] (nameL a) rfl rfl rfl (by simp only [List.length_cons, List.length_nil]; omega) ?_
  conv => whnf
  refine q_cat_str ([105, 102, 32] ++ nameL a) [32, 101, 120, 105, 116, 32] rfl rfl rfl (by simp only [List.length_append, List.length_cons, List.length_nil]; omega) ?_
  conv => whnf
  refine q_con (x := strV (decL n)) rfl (by kernel_rfl) (fun r w' hR => decimal_walk n w' hn) ?_
  conv => whnf
  refine q_cat_str ([105, 102, 32] ++ nameL a ++ [32, 101, 120, 105, 116, 32]) (decL n) rfl rfl rfl (by simp only [List.length_append, List.length_cons, List.length_nil]; omega) ?_
  conv => whnf
  exact fin_val rfl fun w2 hB => ⟨rfl, hB⟩
 ·(repeat ((first | apply k1 | apply k2 | apply k3 | apply k4 | refine k5 (by decide) ?_ | refine k6 (by decide) ?_); conv => whnf))
  refine call_con (x := strV (decL n)) rfl (by kernel_rfl) (fun r w' hR => decimal_walk n w' hn) ?_
  conv => whnf
  refine q_cat_str [101, 120, 105, 116, 32] (decL n) rfl rfl rfl (by simp only [List.length_cons, List.length_nil]; omega) ?_
  conv => whnf
  exact fin_val rfl fun w2 hB => ⟨rfl, hB⟩
 ·(repeat ((first | apply k1 | apply k2 | apply k3 | apply k4 | refine k5 (by decide) ?_ | refine k6 (by decide) ?_); conv => whnf))
  refine call_con (x := strV (nameL a)) rfl (by kernel_rfl) (fun r w' hR => name_walk a w' ha) ?_
  conv => whnf
  refine q_cat_str [101, 120, 105, 116, 32] (nameL a) rfl rfl rfl (by simp only [List.length_cons, List.length_nil]; omega) ?_
  conv => whnf
  exact fin_val rfl fun w2 hB => ⟨rfl, hB⟩
end Go.Proofs.YtnhdcclpjildjaaGreat
namespace Go.Proofs.YtnhdcclpjildjaaGreat
open Go.RowKit

def pagL (l : List Int) (k : Nat) : List Int := [112, 97, 103, 101, 115] ++ (l.take k).flatMap fun p => 32 :: decL p
def opsL (b : Blk) (k : Nat) : List Int := pagL b.pages b.pages.length ++ [10] ++ (b.ops.take k).flatMap fun o => lineL o b.at_ ++ [10]
def printL (b : Blk) : List Int := opsL b b.ops.length
theorem flatM_len {α : Type} (f : α → List Int) (m : Nat) (h : ∀ x, (f x).length ≤ m) : ∀ l : List α, (l.flatMap f).length ≤ m * l.length
 | [] => by simp
 | x :: l => by
  rw [List.flatMap_cons, List.length_append, List.length_cons]
  have := flatM_len f m h l
  have := h x
  rw [Nat.mul_succ]
  omega
theorem take_last1 {α : Type} {l : List α} {k : Nat} {x : α} (h : l[k]? = some x) : l.take (k + 1) = l.take k ++ [x] := by
 rw [List.take_add_one, h]; rfl
theorem pagL_len (l : List Int) (k : Nat) (hk : k ≤ l.length) : (pagL l k).length ≤ 5 + 22 * k := by
 unfold pagL
 have := flatM_len (fun p => 32 :: decL p) 22 (fun p => by have := decL_len p; simp only [List.length_cons]; omega) (l.take k)
 rw [List.length_take, Nat.min_eq_left hk] at this
 simp only [List.length_append, List.length_cons, List.length_nil]
 omega
theorem opsL_len (b : Blk) (k : Nat) (hk : k ≤ b.ops.length) : (opsL b k).length ≤ 6 + 22 * b.pages.length + 201 * k := by
 unfold opsL
 have h1 := pagL_len b.pages b.pages.length (Nat.le_refl _)
 have := flatM_len (fun o => lineL o b.at_ ++ [10]) 201 (fun o => by have := lineL_len o b.at_; simp only [List.length_append, List.length_cons, List.length_nil]; omega) (b.ops.take k)
 rw [List.length_take, Nat.min_eq_left hk] at this
 simp only [List.length_append, List.length_cons, List.length_nil]
 omega
theorem pagL_succ {l : List Int} {k : Nat} {x : Int} (h : l[k]? = some x) : pagL l (k + 1) = pagL l k ++ [32] ++ decL x := by
 unfold pagL
 rw [take_last1 h, List.flatMap_append]
 simp
theorem opsL_succ {b : Blk} {k : Nat} {o : BOp} (h : b.ops[k]? = some o) : opsL b (k + 1) = opsL b k ++ lineL o b.at_ ++ [10] := by
 unfold opsL
 rw [take_last1 h, List.flatMap_append]
 simp
set_option maxRecDepth 100000 in
set_option maxHeartbeats 4000000 in
theorem print_walk (b : Blk) (A1 A2 A3 : Option Addr) (c1 c2 c3 : Nat) (w : World) (hb : b.ok) (hcode : ∀ o ∈ b.ops, 1 ≤ o.code ∧ o.code ≤ 25) (hpg : ∀ x ∈ b.pages, 0 ≤ x ∧ x < 4096) (s1 : SlAt w w.heap.size A1 (b.at_.map (.int .u32))) (s2 : SlAt w w.heap.size A2 (b.pages.map (.int .i64))) (s3 : OpsAt w w.heap.size A3 b.ops) :
  Calls Tryz.prog 33 #[.agg #[.slice A1 b.at_.length c1, .slice A2 b.pages.length c2, .slice A3 b.ops.length c3]] w fun e w' => e = .returned (strV (printL b)) ∧ Below w.heap.size w w' := by
 have q1 := hb.lpages
 have q2 := hb.lops
 have q3 := hb.lat
 refine calls_satq [.agg #[.slice A1 b.at_.length c1, .slice A2 b.pages.length c2, .slice A3 b.ops.length c3]] Tryz.func33 Tryz.ntmps33 rfl (by simp) ?_
 refine satq_seqN ?_
 conv => whnf
 refine satq_seqN ?_
 conv => whnf
 refine satq_mid (α := Unit) (fun _ => [(1, .p (.c (.ref 0 0))), (3, one (strV (pagL b.pages b.pages.length)))]) (fun _ => [.cells blT [.v (.slice A1 b.at_.length c1), .v (.slice A2 b.pages.length c2), .v (.slice A3 b.ops.length c3)]]) ?_ fun _ => ?_
 ·refine satq_seqN ?_
  conv => whnf
  refine satq_block ?_
  refine satq_loop (α := { x : Nat // x ≤ b.pages.length }) (fun x => [(1, .p (.c (.ref 0 0))), (3, one (strV (pagL b.pages x.1))), (4, one (intV (x.1 : Int)))]) (fun _ => [.cells blT [.v (.slice A1 b.at_.length c1), .v (.slice A2 b.pages.length c2), .v (.slice A3 b.ops.length c3)]]) (fun x => b.pages.length - x.1)
   ⟨0, by omega⟩ (ent_same rfl (aI rfl (aI rfl (aI rfl trivial))) (aI sM trivial)) fun x => ?_
  obtain ⟨j, hj⟩ := x
  dsimp only
  have hlen := pagL_len b.pages j hj
  have hsucc := fun x (h : b.pages[j]? = some x) => pagL_succ h
  generalize hl : pagL b.pages j = l at hlen hsucc ⊢
  refine satq_seqN ?_
  conv => whnf
  refine ⟨fun hc => ?_, fun hc => ?_⟩
  ·have hlt : j < b.pages.length := by simpa using hc
   obtain ⟨x, hx⟩ : ∃ x, b.pages[j]? = some x := ⟨_, List.getElem?_eq_getElem hlt⟩
   obtain ⟨b0, off, hA2, hb0, hc0⟩ := s2 j (intV x) (by rw [List.getElem?_map, hx]; rfl)
   have hxr := hpg x (List.mem_of_getElem? hx)
   have hdl := decL_len x
   rw [hA2]
   conv => whnf
   refine satq_in (satq_block ?_)
   refine satq_vcN ?_
   conv => whnf
   refine q_cat_str l [32] rfl rfl rfl (by simp only [List.length_cons, List.length_nil]; omega) ?_
   conv => whnf
   (refine ⟨⟨by omega, by omega⟩, ?_⟩; (conv=>whnf))
   refine ⟨_, cells_one hb0 (by simp) (x := intV x) (by show w.cell? ⟨b0, off + (j : Int).toNat * 1, none⟩ = _; rw [Nat.mul_one, Int.toNat_natCast]; exact hc0), ?_⟩
   conv => whnf
   refine call_con (x := strV (decL x)) rfl (by kernel_rfl) (fun r w' hR => signed_walk x w' (by omega)) ?_
   conv => whnf
   refine q_cat_str (l ++ [32]) (decL x) rfl rfl rfl (by simp only [List.length_append, List.length_cons, List.length_nil]; omega) ?_
   conv => whnf
   refine atq_block (atq_on ?_)
   refine satq_vcN ?_
   conv => whnf
   refine ⟨(j : Int) + 1, wr64 (by omega), ?_⟩
   conv => whnf
   exact atq_next ⟨j + 1, hlt⟩ (ent_same rfl (aI rfl (aI ((by rw [hsucc x hx]; rfl)) (aI rfl trivial))) (aI sM trivial)) (by show b.pages.length - (j + 1) < b.pages.length - j; omega)
  ·have hje : j = b.pages.length := by
    have : ¬ j < b.pages.length := by simpa using hc
    omega
   conv => whnf
   exact atq_out (atq_exit (atq_mid () (ent_same rfl (aI rfl (aI ((by rw [← hl, hje]; rfl)) trivial)) (aI sM trivial))))
 have hp0 : opsL b 0 = pagL b.pages b.pages.length ++ [10] := by unfold opsL; simp
 have hpl := pagL_len b.pages b.pages.length (Nat.le_refl _)
 refine satq_seqN ?_
 conv => whnf
 refine q_cat_str (pagL b.pages b.pages.length) [10] rfl rfl rfl (by simp only [List.length_cons, List.length_nil]; omega) ?_
 conv => whnf
 refine satq_mid (α := Unit) (fun _ => [(3, one (strV (printL b)))]) (fun _ => []) ?_ fun _ => ?_
 ·refine satq_seqN ?_
  conv => whnf
  refine satq_block ?_
  refine satq_loop (α := { x : Nat // x ≤ b.ops.length }) (fun x => [(1, .p (.c (.ref 0 0))), (3, one (strV (opsL b x.1))), (5, one (intV (x.1 : Int)))]) (fun _ => [.cells blT [.v (.slice A1 b.at_.length c1), .v (.slice A2 b.pages.length c2), .v (.slice A3 b.ops.length c3)]]) (fun x => b.ops.length - x.1)
   ⟨0, by omega⟩ (ent_same rfl (aI rfl (aI ((by rw [hp0]; rfl)) (aI rfl trivial))) (aI sM trivial)) fun x => ?_
  clear hp0
  obtain ⟨j, hj⟩ := x
  dsimp only
  have hlen := opsL_len b j hj
  have hsucc := fun o (h : b.ops[j]? = some o) => opsL_succ h
  generalize hl : opsL b j = l at hlen hsucc ⊢
  refine satq_seqN ?_
  conv => whnf
  refine ⟨fun hc => ?_, fun hc => ?_⟩
  ·have hlt : j < b.ops.length := by simpa using hc
   obtain ⟨o, ho⟩ : ∃ o, b.ops[j]? = some o := ⟨_, List.getElem?_eq_getElem hlt⟩
   obtain ⟨b0, off, hA3, hcell⟩ := ops_cells s3 ho
   have hom := List.mem_of_getElem? ho
   have hook := hb.ops o hom
   have hll := lineL_len o b.at_
   rw [hA3]
   conv => whnf
   refine satq_in (satq_block ?_)
   refine satq_vcN ?_
   conv => whnf
   refine sat_quiet mixed (by kernel_rfl) ?_
   conv => whnf
   (refine ⟨⟨by omega, by omega⟩, ?_⟩; (conv=>whnf))
   refine ⟨opC o, hcell, rfl, ?_⟩
   conv => whnf
   refine q_con (x := strV (lineL o b.at_)) rfl (by kernel_rfl) (fun r w' hR => line_walk o A1 b.at_.length c1 b.at_ w' (hcode o hom) hook.d hook.a hook.b hook.n rfl q3 (sl_later s1 hR.toBelow) hb.at_) ?_
   conv => whnf
   refine q_cat_str l (lineL o b.at_) rfl rfl rfl (by omega) ?_
   conv => whnf
   refine q_cat_str (l ++ lineL o b.at_) [10] rfl rfl rfl (by simp only [List.length_append, List.length_cons, List.length_nil]; omega) ?_
   conv => whnf
   refine atq_block (atq_on ?_)
   refine satq_vcN ?_
   conv => whnf
   refine ⟨(j : Int) + 1, wr64 (by omega), ?_⟩
   conv => whnf
   exact atq_next ⟨j + 1, hlt⟩ (ent_same rfl (aI rfl (aI ((by rw [hsucc o ho]; rfl)) (aI rfl trivial))) (aI sM trivial)) (by show b.ops.length - (j + 1) < b.ops.length - j; omega)
  ·have hje : j = b.ops.length := by
    have : ¬ j < b.ops.length := by simpa using hc
    omega
   conv => whnf
   exact atq_out (atq_exit (atq_mid () (ent_drop (aI ((by rw [← hl, hje]; rfl)) trivial) trivial rfl rfl)))
 refine satq_vcN ?_
 conv => whnf
 refine atq_ret ?_
 conv => whnf
 exact fin_val rfl fun w2 hB => ⟨rfl, hB⟩
end Go.Proofs.YtnhdcclpjildjaaGreat
namespace Go.Proofs.YtnhdcclpjildjaaGreat
open Go.RowKit

section
variable {w0 : World} {G : Gs} {S : List Ow} {K : AV → List Ow → Prop}
end
theorem hold {p : Prop} (h : p ∨ False) : p := h.elim id False.elim
end Go.Proofs.YtnhdcclpjildjaaGreat
namespace Go.Proofs.YtnhdcclpjildjaaGreat
open Go.RowKit

section
variable {w0 : World} {S : List Ow} {K : AV → List Ow → Prop} {n p : Nat} {M : MemP}
theorem call_copyP {g : Nat} {gs : List Nat} (hO : ObjsAt w0 (g :: gs) (memS 0 n p M)) (hM : M.ok n p) (hp : 1 ≤ p) (hK : ∀ t : Tl, K (.p (.c (.ref S.length 0))) (S ++ memS S.length n p (M.tl t))) : CallS Tryz.prog w0 Gs.nil 25 [one (ptrV g)] S K := by
 refine call_newObjsX (α := Tl) (fun t => memS 0 n p (M.tl t)) (fun t => memS S.length n p (M.tl t)) (fun _ => True) (by kernel_rfl) (fun _ _ => memS_sh S.length n p _) (fun _ _ => memS_ob n p _) (fun r w' xs hR hd => ?_) fun t _ => hK t
 obtain rfl := avals_den (xs := [ptrV g]) rfl hd
 exact (copy_walk M n p w' g gs (objs_later (memS_ob n p M) hO hR.toBelow) hM hp).mono fun e w'' ⟨g', gs', M', he, ⟨t1, t2, t3, t4, t5, hM'⟩, hn⟩ => ⟨g', gs', ⟨t1, t2, t3, t4, t5⟩, he, trivial, by rw [hM'] at hn; exact hn⟩
end
end Go.Proofs.YtnhdcclpjildjaaGreat
