/- Walks: the formats of Q's instructions in the reference. -/
import Derived.Test.YtnhdcclpjildjaaGreatC16
import Derived.Test.YtnhdcclpjildjaaGreatMFetchesC
namespace Go.Proofs.YtnhdcclpjildjaaGreat
open Go.RowKit

abbrev formV (f : QForm) : Value := .agg #[.bool f.is, .bool f.d, .bool f.a, .bool f.b, .bool f.signed, intV f.bits, .int .u32 f.most]
set_option maxRecDepth 100000 in
set_option maxHeartbeats 4000000 in
theorem of_ref (op : Int) (w : World) (h : 0 ≤ op ∧ op < 64) : Calls Tryz.prog 51 #[intV op] w fun e w' => e = .returned (formV (qForm op)) ∧ Below w.heap.size w w' := by
 rcases ops64 h with rfl | rfl | rfl | rfl | rfl | rfl | rfl | rfl | rfl | rfl | rfl | rfl | rfl | rfl | rfl | rfl | rfl | rfl | rfl | rfl | rfl | rfl | rfl | rfl | rfl | rfl | rfl | rfl | rfl | rfl | rfl | rfl | rfl | rfl | rfl | rfl | rfl | rfl | rfl | rfl | rfl | rfl | rfl | rfl | rfl | rfl | rfl | rfl | rfl | rfl | rfl | rfl | rfl | rfl | rfl | rfl | rfl | rfl | rfl | rfl | rfl | rfl | rfl | rfl
 all_goals
  refine calls_valN [intV _] Tryz.func51 Tryz.ntmps51 rfl (by simp) ?_
  conv => whnf
  repeat (first | (refine ⟨fun _ => ?_, (fun h => absurd h (by decide))⟩; (conv=>whnf)) | (refine ⟨(fun h => absurd h (by decide)), fun _ => ?_⟩; (conv=>whnf)))
  exact fin_val rfl fun w' hB => ⟨rfl, hB⟩
end Go.Proofs.YtnhdcclpjildjaaGreat
namespace Go.Proofs.YtnhdcclpjildjaaGreat
open Go.RowKit

set_option maxRecDepth 100000 in
theorem reg_ref (n : Int) (u : Bool) (w : World) : Calls Tryz.prog 91 #[intV n, .bool u] w fun e w' => e = .returned (.bool (regB n u)) ∧ Below w.heap.size w w' := by
 refine calls_valN [intV n, .bool u] Tryz.func91 Tryz.ntmps91 rfl (by simp) ?_
 conv => whnf
 refine ⟨fun h1 => ?_, fun h1 => ?_⟩
 ·conv => whnf
  (repeat ((first | apply k1 | apply k2 | apply k3 | apply k4 | refine k5 (by decide) ?_ | refine k6 (by decide) ?_); conv => whnf))
  cases u with
  | false =>
   conv => whnf
   (repeat ((first | apply k1 | apply k2 | apply k3 | apply k4 | refine k5 (by decide) ?_ | refine k6 (by decide) ?_); conv => whnf))
   refine fin_val rfl fun w' hB => ⟨?_, hB⟩
   have hn : n ≠ 0 := by simpa using h1
   simp [regB, hn]
  | true =>
   conv => whnf
   (repeat ((first | apply k1 | apply k2 | apply k3 | apply k4 | refine k5 (by decide) ?_ | refine k6 (by decide) ?_); conv => whnf))
   generalize hz : decide (n > 0) = z
   have hn : n ≠ 0 := by simpa using h1
   cases z with
   | false =>
    conv => whnf
    (repeat ((first | apply k1 | apply k2 | apply k3 | apply k4 | refine k5 (by decide) ?_ | refine k6 (by decide) ?_); conv => whnf))
    refine fin_val rfl fun w' hB => ⟨?_, hB⟩
    have : ¬ 0 < n := by simpa using hz
    simp [regB, hn, this]
   | true =>
    conv => whnf
    (repeat ((first | apply k1 | apply k2 | apply k3 | apply k4 | refine k5 (by decide) ?_ | refine k6 (by decide) ?_); conv => whnf))
    refine fin_val rfl fun w' hB => ⟨?_, hB⟩
    have : 0 < n := by simpa using hz
    simp [regB, hn, this]
 ·conv => whnf
  (repeat ((first | apply k1 | apply k2 | apply k3 | apply k4 | refine k5 (by decide) ?_ | refine k6 (by decide) ?_); conv => whnf))
  refine fin_val rfl fun w' hB => ⟨?_, hB⟩
  have hn : n = 0 := by simpa using h1
  simp [regB, hn]
end Go.Proofs.YtnhdcclpjildjaaGreat
namespace Go.Proofs.YtnhdcclpjildjaaGreat
open Go.RowKit

theorem shl1 {b : Nat} (h : b = 18 ∨ b = 22) : IntKind.u32.wrap (1 * 2 ^ (min (b : Int).toNat IntKind.u32.bits)) = 2 ^ b := by
 rcases h with rfl | rfl <;> rfl
theorem conv64 {b : Nat} (h : b = 18 ∨ b = 22) : IntKind.u64.wrap (b : Int) = (b : Int) := by
 rcases h with rfl | rfl <;> rfl
set_option maxRecDepth 100000 in
set_option maxHeartbeats 1000000 in
theorem valid_ref03 (i : QI) (w : World) (h : 0 ≤ i.op ∧ i.op < 64) (hi : word i.imm) : Calls Tryz.prog 64 #[qiV i] w fun e w' => e = .returned (.bool (validQ i)) ∧ Below w.heap.size w w' := by
 refine calls_valN [qiV i] Tryz.func64 Tryz.ntmps64 rfl (by simp) ?_
 conv => whnf
 refine call_con rfl (by kernel_rfl) (fun r w' _ => of_ref i.op w' h) ?_
 have hf := form_ok i.op
 unfold validQ
 generalize qForm i.op = f at hf
 conv => whnf
 have e1 : ∀ (n : Int) (u : Bool), regB n u = true ∨ regB n u = false := fun n u => by cases regB n u <;> simp
 refine ⟨fun h1 => ?_, fun h1 => ?_⟩
 ·conv => whnf
  refine fin_val rfl fun w' hB => ⟨?_, hB⟩
  have : f.is = false := by simpa using h1
  rw [this]; rfl
 have his : f.is = true := by simpa using h1
 conv => whnf
 refine call_con rfl (by kernel_rfl) (fun r w' _ => reg_ref i.d f.d w') ?_
 conv => whnf
 refine call_con rfl (by kernel_rfl) (fun r w' _ => reg_ref i.a f.a w') ?_
 conv => whnf
 refine call_con rfl (by kernel_rfl) (fun r w' _ => reg_ref i.b f.b w') ?_
 rw [his]
 generalize regB i.d f.d = x1
 generalize regB i.a f.a = x2
 generalize regB i.b f.b = x3
 cases x1 <;> cases x2 <;> cases x3 <;> ((conv=>whnf); (repeat ((first | apply k1 | apply k2 | apply k3 | apply k4 | refine k5 (by decide) ?_ | refine k6 (by decide) ?_); conv => whnf)))
 all_goals first | exact fin_val rfl fun w' hB => ⟨rfl, hB⟩ | skip
 obtain ⟨is, fd, fa, fb, fs, fbits, fmost⟩ := f
 obtain ⟨hb, hm, hs⟩ := hf
 dsimp only at hb hm hs his ⊢
 rcases hb with rfl | hb
 ·(repeat ((first | apply k1 | apply k2 | apply k3 | apply k4 | refine k5 (by decide) ?_ | refine k6 (by decide) ?_); conv => whnf))
  conv => whnf
  exact fin_val rfl fun w' hB => ⟨rfl, hB⟩
 have hb0 : ¬ fbits = 0 := by omega
 refine ⟨fun hc => absurd hc (by simp; omega), fun _ => ?_⟩
 conv => whnf
 cases fs with
 | true =>
  (repeat ((first | apply k1 | apply k2 | apply k3 | apply k4 | refine k5 (by decide) ?_ | refine k6 (by decide) ?_); conv => whnf))
  conv => whnf
  refine call_con rfl (by kernel_rfl) (fun r w' _ => fits_ref i.imm fbits w' hi (.inr hb)) ?_
  conv => whnf
  refine fin_val rfl fun w' hB => ⟨?_, hB⟩
  simp [immB, hb0]
 | false =>
  (repeat ((first | apply k1 | apply k2 | apply k3 | apply k4 | refine k5 (by decide) ?_ | refine k6 (by decide) ?_); conv => whnf))
  conv => whnf
  refine ⟨fun hc => ?_, fun hc => ?_⟩
  ·conv => whnf
   refine fin_val rfl fun w' hB => ⟨?_, hB⟩
   have : 0 < fmost := by simpa using hc
   simp [immB, hb0, this]
  ·conv => whnf
   refine ⟨_, conv64 hb, ?_⟩
   conv => whnf
   refine ⟨by omega, _, shl1 hb, ?_⟩
   conv => whnf
   refine fin_val rfl fun w' hB => ⟨?_, hB⟩
   have : ¬ 0 < fmost := by simpa using hc
   simp [immB, hb0, this]
end Go.Proofs.YtnhdcclpjildjaaGreat
namespace Go.Proofs.YtnhdcclpjildjaaGreat
open Go.RowKit

set_option maxRecDepth 100000 in
set_option maxHeartbeats 1000000 in
theorem encode_ref (i : QI) (w : World) (h : 0 ≤ i.op ∧ i.op < 64) (hi : word i.imm) : Calls Tryz.prog 35 #[qiV i] w fun e w' => e = .returned (encV (encQ i)) ∧ Below w.heap.size w w' := by
 refine calls_valN [qiV i] Tryz.func35 Tryz.ntmps35 rfl (by simp) ?_
 conv => whnf
 refine call_con rfl (by kernel_rfl) (fun r w' _ => valid_ref03 i w' h hi) ?_
 unfold encQ
 cases hv : validQ i with
 | false =>
  conv => whnf
  (repeat ((first | apply k1 | apply k2 | apply k3 | apply k4 | refine k5 (by decide) ?_ | refine k6 (by decide) ?_); conv => whnf))
  exact fin_val rfl fun w' hB => ⟨rfl, hB⟩
 | true =>
  obtain ⟨r0, rd, ra, rb⟩ := validQ_range hv
  conv => whnf
  (repeat ((first | apply k1 | apply k2 | apply k3 | apply k4 | refine k5 (by decide) ?_ | refine k6 (by decide) ?_); conv => whnf))
  conv => whnf
  refine ⟨i.op, by rw [wr32]; omega, ?_⟩
  conv => whnf
  refine ⟨i.op * 67108864, by rw [wr32]; omega, ?_⟩
  conv => whnf
  refine ⟨i.d, by rw [wr32]; omega, ?_⟩
  conv => whnf
  refine ⟨i.d * 4194304, by rw [wr32]; omega, ?_⟩
  conv => whnf
  refine ⟨i.op * 67108864 + i.d * 4194304, by rw [wr32]; omega, ?_⟩
  conv => whnf
  refine ⟨i.a, by rw [wr32]; omega, ?_⟩
  conv => whnf
  refine ⟨i.a * 262144, by rw [wr32]; omega, ?_⟩
  conv => whnf
  refine ⟨i.op * 67108864 + i.d * 4194304 + i.a * 262144, by rw [wr32]; omega, ?_⟩
  conv => whnf
  refine ⟨i.b, by rw [wr32]; omega, ?_⟩
  conv => whnf
  refine ⟨i.b * 16384, by rw [wr32]; omega, ?_⟩
  conv => whnf
  refine ⟨i.op * 67108864 + i.d * 4194304 + i.a * 262144 + i.b * 16384, by rw [wr32]; omega, ?_⟩
  conv => whnf
  refine call_con rfl (by kernel_rfl) (fun r w' _ => of_ref i.op w' h) ?_
  have hw : wordQ i = i.op * 67108864 + i.d * 4194304 + i.a * 262144 + i.b * 16384 + i.imm % 2 ^ (qForm i.op).bits := rfl
  have hword := (decQ_word hv hi).2
  rw [hw] at hword ⊢
  have hf := form_ok i.op
  generalize qForm i.op = f at hf hword ⊢
  conv => whnf
  rcases hf.bits with hb | hb
  ·rw [hb]
   (repeat ((first | apply k1 | apply k2 | apply k3 | apply k4 | refine k5 (by decide) ?_ | refine k6 (by decide) ?_); conv => whnf))
   conv => whnf
   refine fin_val rfl fun w' hB => ⟨?_, hB⟩
   simp [encV]
  ·refine ⟨fun hc => absurd hc (by simp; omega), fun _ => ?_⟩
   conv => whnf
   refine ⟨_, conv64 hb, ?_⟩
   conv => whnf
   refine ⟨by omega, _, shl1 hb, ?_⟩
   conv => whnf
   refine ⟨by rcases hb with hb | hb <;> rw [hb] <;> decide, i.imm % 2 ^ f.bits, Int.tmod_eq_emod_of_nonneg hi.1, ?_⟩
   conv => whnf
   refine ⟨i.op * 67108864 + i.d * 4194304 + i.a * 262144 + i.b * 16384 + i.imm % 2 ^ f.bits, ?_, ?_⟩
   ·rw [wr32]; unfold word at hword; omega
   conv => whnf
   refine fin_val rfl fun w' hB => ⟨?_, hB⟩
   simp [encV]
theorem word_zero : word 0 := by unfold word; omega
end Go.Proofs.YtnhdcclpjildjaaGreat
namespace Go.Proofs.YtnhdcclpjildjaaGreat
open Go.RowKit

theorem mod_twice (n m : Int) (hm : 0 < m) : (n.tmod m + m).tmod m = n % m ∧ -m < n.tmod m ∧ n.tmod m < m := by
 have h1 := Int.tmod_lt_of_pos n hm
 have h2 : -m < n.tmod m := by have := Int.lt_tmod_of_pos n hm; omega
 refine ⟨?_, h2, h1⟩
 rw [Int.tmod_eq_emod_of_nonneg (by omega), Int.add_emod_right]
 have : n = m * n.tdiv m + n.tmod m := (Int.mul_tdiv_add_tmod n m).symm
 conv => rhs; rw [this]
 rw [Int.mul_add_emod_self_left]
theorem mod_ref (n m : Int) (w : World) (hm : 0 < m ∧ m < 4611686018427387904) : Calls Tryz.prog 17 #[intV n, intV m] w fun e w' => e = .returned (intV (n % m)) ∧ Below w.heap.size w w' := by
 obtain ⟨h1, h2, h3⟩ := mod_twice n m hm.1
 refine calls_valN [intV n, intV m] Tryz.func17 Tryz.ntmps17 rfl (by simp) ?_
 conv => whnf
 refine ⟨by omega, _, rfl, ?_⟩
 conv => whnf
 refine ⟨n.tmod m + m, wr64 (by omega), ?_⟩
 conv => whnf
 refine ⟨by omega, _, h1, ?_⟩
 conv => whnf
 exact fin_val rfl fun w' hB => ⟨rfl, hB⟩
end Go.Proofs.YtnhdcclpjildjaaGreat
namespace Go.Proofs.YtnhdcclpjildjaaGreat
open Go.RowKit

theorem fin_rowOwn {w0 : World} {S : List Ow} {i n size : Nat} {e : TypeId} {xs : List Value} {R : Ending → World → Prop} (hi : S[i]? = some (.row e size n xs)) (h : ∀ w v, w.ownsRow w0.heap.size e size v n xs → Below w0.heap.size w0 w → R (.returned v) w) : Fin w0 Gs.nil S (.p (.c (.row i))) R :=
 ⟨fun _r w u hR hd => h w u (rowLike_at hR (.inl ⟨rfl, hi⟩) hd).1 hR.toBelow⟩
def opsTo (k : Nat) : List Int := ((List.range k).map Int.ofNat).filter fun x => (qForm x).is
def opsQ : List Int := opsTo 64
theorem opsTo_succ (k : Nat) : opsTo (k + 1) = if (qForm (k : Int)).is = true then opsTo k ++ [(k : Int)] else opsTo k := by
 unfold opsTo
 rw [List.range_succ, List.map_append, List.filter_append]
 show _ ++ List.filter (fun x => (qForm x).is) [(k : Int)] = _
 split
 ·rename_i h; rw [List.filter_cons_of_pos (by simpa using h)]; rfl
 ·rename_i h; rw [List.filter_cons_of_neg (by simpa using h)]; simp
theorem opsTo_length (k : Nat) : (opsTo k).length ≤ k := by
 unfold opsTo
 exact Nat.le_trans (List.length_filter_le _ _) (by simp)
set_option maxRecDepth 100000 in
theorem ops_ref (w : World) : Calls Tryz.prog 50 #[] w fun e w' => ∃ v, e = .returned v ∧ w'.ownsRow w.heap.size 3 1 v 39 (opsQ.map intV) ∧ Below w.heap.size w w' := by
 refine calls_val [] Tryz.func50 Tryz.ntmps50 rfl (by simp) ?_
 conv => whnf
 refine ⟨{ k : Nat // k ≤ 64 }, fun x => [(1, .p (.c (.row 0))), (2, one (intV (x.1 : Int)))], fun x => [.row 3 1 (opsTo x.1).length ((opsTo x.1).map intV)], fun x => 64 - x.1,
  ⟨⟨0, by omega⟩, ent_trans (ent_row 1 3 1 rfl) (ent_same rfl (aI rfl (aI rfl trivial)) (aI ((aI rfl (aI rfl (aI rfl rfl)))) trivial))⟩, fun x => ?_⟩
 obtain ⟨k, hk⟩ := x
 dsimp only
 conv => whnf
 refine ⟨fun hc => ?_, fun hc => ?_⟩
 ·have hlt : k < 64 := by simp at hc; omega
  conv => whnf
  refine call_con rfl (by kernel_rfl) (fun r w' _ => of_ref (k : Int) w' (by omega)) ?_
  have hs := opsTo_succ k
  have hlen := opsTo_length k
  generalize qForm (k : Int) = f at hs ⊢
  obtain ⟨is, fd, fa, fb, fs, bits, most⟩ := f
  dsimp only at hs
  cases is with
  | true =>
   rw [if_pos rfl] at hs
   conv => whnf
   (repeat ((first | apply k1 | apply k2 | apply k3 | apply k4 | refine k5 (by decide) ?_ | refine k6 (by decide) ?_); conv => whnf))
   conv => whnf
   refine appK_sound rfl ?_ rfl
   conv => whnf
   refine ⟨by omega, ?_⟩
   conv => whnf
   refine ⟨_, wr64 (by omega), ?_⟩
   conv => whnf
   refine ⟨⟨k + 1, by omega⟩, ent_drop (aI rfl (aI rfl trivial)) (aI ((aI rfl (aI rfl (aI (by rw [hs]; simp) (by rw [hs]; simp))))) trivial) rfl rfl, by show 64 - (k + 1) < 64 - k; omega⟩
  | false =>
   rw [if_neg (by decide)] at hs
   conv => whnf
   (repeat ((first | apply k1 | apply k2 | apply k3 | apply k4 | refine k5 (by decide) ?_ | refine k6 (by decide) ?_); conv => whnf))
   conv => whnf
   refine ⟨_, wr64 (by omega), ?_⟩
   conv => whnf
   refine ⟨⟨k + 1, by omega⟩, ent_same rfl (aI rfl (aI rfl trivial)) (aI ((aI rfl (aI rfl (aI (by rw [hs]) (by rw [hs]))))) trivial), by show 64 - (k + 1) < 64 - k; omega⟩
 ·have hke : k = 64 := by simp at hc; omega
  subst hke
  conv => whnf
  refine ⟨_, _, ent_refl, ?_⟩
  conv => whnf
  exact fin_rowOwn rfl fun w' v hv hB => ⟨v, rfl, hv, hB⟩
end Go.Proofs.YtnhdcclpjildjaaGreat
namespace Go.Proofs.YtnhdcclpjildjaaGreat
open Go.RowKit

def madeF (op : Int) (f : QForm) (n1 n2 n3 n4 : Int) : QI :=
 ⟨op, if f.d = true then n1 % 16 else 0, if f.a = true then n2 % 16 else 0, if f.b = true then n3 % 16 else 0,
  if f.signed = true then sgnW (if 0 < f.most then n4 % (f.most + 1) else if 0 < f.bits then n4 % 2 ^ f.bits else 0) f.bits else (if 0 < f.most then n4 % (f.most + 1) else if 0 < f.bits then n4 % 2 ^ f.bits else 0)⟩
def madeOp (n0 : Int) : Int := (opsQ[(n0 % 39).toNat]?).getD 0
def madeQ (n0 n1 n2 n3 n4 : Int) : QI := madeF (madeOp n0) (qForm (madeOp n0)) n1 n2 n3 n4
theorem opsQ_all : opsQ.all (fun x => decide (0 ≤ x ∧ x < 64)) = true := by decide
theorem opsQ_len : opsQ.length = 39 := by decide
theorem madeOp_get (n0 : Int) : opsQ[(n0 % 39).toNat]? = some (madeOp n0) ∧ 0 ≤ madeOp n0 ∧ madeOp n0 < 64 := by
 have hl : (n0 % 39).toNat < opsQ.length := by rw [opsQ_len]; omega
 have e : opsQ[(n0 % 39).toNat]? = some (opsQ[(n0 % 39).toNat]) := List.getElem?_eq_getElem hl
 have e2 : madeOp n0 = opsQ[(n0 % 39).toNat] := by unfold madeOp; rw [e]; rfl
 have := List.all_eq_true.1 opsQ_all _ (List.getElem_mem hl)
 rw [e2]
 exact ⟨e, by simpa using this⟩
theorem madeF_word {op : Int} {f : QForm} (hf : FOk f) (n1 n2 n3 n4 : Int) : word (madeF op f n1 n2 n3 n4).imm ∧ word (if 0 < f.most then n4 % (f.most + 1) else if 0 < f.bits then n4 % 2 ^ f.bits else 0) := by
 have h2 : word (if 0 < f.most then n4 % (f.most + 1) else if 0 < f.bits then n4 % 2 ^ f.bits else 0) := by
  have := hf.most
  split
  ·have h1 := Int.emod_nonneg n4 (show f.most + 1 ≠ 0 by omega)
   have h2 := Int.emod_lt_of_pos n4 (show 0 < f.most + 1 by omega)
   exact ⟨h1, by omega⟩
  ·split
   ·rcases hf.bits with h | h | h <;> rw [h] <;> unfold word <;> omega
   ·exact word_zero
 refine ⟨?_, h2⟩
 show word (if f.signed = true then _ else _)
 split
 ·rename_i hs
  exact sgnW_w _ (by rcases hf.bits with h | h | h; · exact absurd (hf.sgn hs).1 (by omega)
                     · exact .inr (.inl h)
                     · exact .inr (.inr h))
 ·exact h2
theorem madeQ_ok (n0 n1 n2 n3 n4 : Int) : (madeQ n0 n1 n2 n3 n4).ok := by
 obtain ⟨h1, h2, h3⟩ := madeOp_get n0
 refine ⟨⟨h2, h3⟩, ?_, ?_, ?_, (madeF_word (form_ok _) n1 n2 n3 n4).1⟩
 ·unfold madeQ madeF; dsimp only; split <;> omega
 ·unfold madeQ madeF; dsimp only; split <;> omega
 ·unfold madeQ madeF; dsimp only; split <;> omega
theorem shl1i {b : Nat} (h : b = 18 ∨ b = 22) : IntKind.i64.wrap (1 * 2 ^ (min (b : Int).toNat IntKind.i64.bits)) = 2 ^ b := by
 rcases h with rfl | rfl <;> rfl
abbrev fiveV (n0 n1 n2 n3 n4 : Int) : Value := .agg #[intV n0, intV n1, intV n2, intV n3, intV n4]
set_option maxRecDepth 100000 in
set_option maxHeartbeats 4000000 in
theorem made_ref03 (n0 n1 n2 n3 n4 : Int) (w : World) : Calls Tryz.prog 22 #[fiveV n0 n1 n2 n3 n4] w fun e w' => e = .returned (qiV (madeQ n0 n1 n2 n3 n4)) ∧ Below w.heap.size w w' := by
 obtain ⟨hg, hop⟩ := madeOp_get n0
 refine calls_valN [fiveV n0 n1 n2 n3 n4] Tryz.func22 Tryz.ntmps22 rfl (by simp) ?_
 conv => whnf
 refine call_row (xs := []) rfl (by kernel_rfl) (fun r w' _ => ops_ref w') ?_
 conv => whnf
 (refine ⟨⟨by omega, by omega⟩, ?_⟩; (conv=>whnf))
 refine call_con rfl (by kernel_rfl) (fun r w' _ => mod_ref n0 39 w' (by omega)) ?_
 conv => whnf
 refine ⟨⟨by omega, by omega⟩, ?_⟩
 unfold madeQ
 generalize madeOp n0 = op at hg hop ⊢
 have hg2 : (List.map CV.v (opsQ.map intV))[(n0 % 39).toNat * tsz Tryz.prog 3]? = some (.v (intV op)) := by
  show (List.map CV.v (opsQ.map intV))[(n0 % 39).toNat * 1]? = _
  rw [Nat.mul_one, List.getElem?_map, List.getElem?_map, hg]; rfl
 conv => whnf
 rw [hg2]
 conv => whnf
 refine call_con rfl (by kernel_rfl) (fun r w' _ => of_ref op w' hop) ?_
 have hf := form_ok op
 have hmw := (madeF_word (op := op) hf n1 n2 n3 n4).2
 generalize qForm op = f at hf hmw ⊢
 obtain ⟨is, fd, fa, fb, fs, bits, most⟩ := f
 obtain ⟨hb, hm, hs⟩ := hf
 dsimp only at hb hm hs hmw
 obtain ⟨y, hy⟩ : ∃ y, madeF op ⟨is, fd, fa, fb, fs, bits, most⟩ n1 n2 n3 n4 = y := ⟨_, rfl⟩
 rw [hy]
 obtain ⟨z, hz⟩ : ∃ z, (if 0 < most then n4 % (most + 1) else if 0 < bits then n4 % 2 ^ bits else 0) = z := ⟨_, rfl⟩
 rw [hz] at hmw
 simp only [madeF, hz] at hy
 cases fd <;> cases fa <;> cases fb <;> ((conv=>whnf); (repeat (first | (refine ⟨fun _ => ?_, nT⟩; (conv=>whnf)) | (refine ⟨nF, fun _ => ?_⟩; (conv=>whnf)) | (((refine ⟨⟨by omega, by omega⟩, ?_⟩; (conv=>whnf))); refine call_con rfl (by kernel_rfl) (fun r w' _ => mod_ref _ 16 w' (by omega)) ?_; (conv=>whnf)))))
 all_goals
  refine ⟨fun hc => ?_, fun hc => ?_⟩
  ·have hm0 : 0 < most := by simpa using hc
   obtain rfl : fs = false := by
    cases fs with
    | false => rfl
    | true => exact absurd (hs rfl).2 (by omega)
   rw [if_pos hm0] at hz
   conv => whnf
   (refine ⟨⟨by omega, by omega⟩, ?_⟩; (conv=>whnf))
   refine ⟨most, show IntKind.i64.wrap most = most from wr64 (by omega), ?_⟩
   conv => whnf
   refine ⟨most + 1, show IntKind.i64.wrap (most + 1) = most + 1 from wr64 (by omega), ?_⟩
   conv => whnf
   refine call_con rfl (by kernel_rfl) (fun r w' _ => mod_ref n4 (most + 1) w' (by omega)) ?_
   conv => whnf
   refine ⟨z, by rw [wr32, hz]; unfold word at hmw; omega, ?_⟩
   conv => whnf
   (repeat ((first | apply k1 | apply k2 | apply k3 | apply k4 | refine k5 (by decide) ?_ | refine k6 (by decide) ?_); conv => whnf))
   conv => whnf
   refine fin_val rfl fun w' hB => ⟨?_, hB⟩
   simp only [eq_self, if_true, Bool.false_eq_true, if_false] at hy
   rw [← hy]; try rfl
  have hm0 : ¬ 0 < most := by simpa using hc
  rw [if_neg hm0] at hz
  conv => whnf
  rcases hb with rfl | hb
  ·obtain rfl : fs = false := by
    cases fs with
    | false => rfl
    | true => exact absurd (hs rfl).1 (by omega)
   rw [if_neg (by omega)] at hz
   subst hz
   (repeat ((first | apply k1 | apply k2 | apply k3 | apply k4 | refine k5 (by decide) ?_ | refine k6 (by decide) ?_); conv => whnf))
   conv => whnf
   refine fin_val rfl fun w' hB => ⟨?_, hB⟩
   simp only [eq_self, if_true, Bool.false_eq_true, if_false] at hy
   rw [← hy]; try rfl
  refine ⟨fun _ => ?_, fun hc => absurd hc (by simp; omega)⟩
  rw [if_pos (by omega)] at hz
  have hpow : 0 < (2 : Int) ^ bits ∧ (2 : Int) ^ bits < 4611686018427387904 := by rcases hb with hb | hb <;> rw [hb] <;> decide
  conv => whnf
  (refine ⟨⟨by omega, by omega⟩, ?_⟩; (conv=>whnf))
  refine ⟨_, conv64 hb, ?_⟩
  conv => whnf
  refine ⟨by omega, _, shl1i hb, ?_⟩
  conv => whnf
  refine call_con rfl (by kernel_rfl) (fun r w' _ => mod_ref n4 (2 ^ bits) w' hpow) ?_
  conv => whnf
  refine ⟨z, by rw [wr32]; show n4 % 2 ^ bits % _ = z; rw [hz]; unfold word at hmw; omega, ?_⟩
  conv => whnf
  cases fs with
  | false =>
   (repeat ((first | apply k1 | apply k2 | apply k3 | apply k4 | refine k5 (by decide) ?_ | refine k6 (by decide) ?_); conv => whnf))
   conv => whnf
   refine fin_val rfl fun w' hB => ⟨?_, hB⟩
   simp only [eq_self, if_true, Bool.false_eq_true, if_false] at hy
   rw [← hy]; try rfl
  | true =>
   (repeat ((first | apply k1 | apply k2 | apply k3 | apply k4 | refine k5 (by decide) ?_ | refine k6 (by decide) ?_); conv => whnf))
   conv => whnf
   refine call_con rfl (by kernel_rfl) (fun r w' _ => sign_ref z bits w' hmw (.inr hb)) ?_
   conv => whnf
   (repeat ((first | apply k1 | apply k2 | apply k3 | apply k4 | refine k5 (by decide) ?_ | refine k6 (by decide) ?_); conv => whnf))
   conv => whnf
   refine fin_val rfl fun w' hB => ⟨?_, hB⟩
   simp only [eq_self, if_true, Bool.false_eq_true, if_false] at hy
   rw [← hy]; try rfl
end Go.Proofs.YtnhdcclpjildjaaGreat
namespace Go.Proofs.YtnhdcclpjildjaaGreat
open Go.RowKit

theorem bytesA_append (l m : List Int) : bytesA (l ++ m) = bytesA l ++ bytesA m := by
 have h : (bytesA (l ++ m)).data = (bytesA l ++ bytesA m).data := by
  apply Array.ext'
  rw [bytesA_list, List.map_append, ByteArray.data_append, Array.toList_append, bytesA_list, bytesA_list]
 exact ByteArray.ext h
section
variable {P : Program} {w0 : World} {G : Gs} {N : Nd} {S : List Ow} {f : Fr} {o : Oper}
theorem q_cat_str {K : AV → Prop} {t t' : TypeId} {x y : Operand} (l m : List Int) (hop : o.op = .binOp .add t x y t') (hx : f.ev x = one (strV l)) (hy : f.ev y = one (strV m)) (hlen : l.length + m.length ≤ 9223372036854775807) (hk : K (one (strV (l ++ m)))) : QRun P w0 G S f o K := by
 refine ⟨_, hk, fun r a hf => ?_⟩
 have h1 := hf.ev x
 have h2 := hf.ev y
 rw [hx] at h1; rw [hy] at h2
 refine ⟨_, rfl, fun w hR => ?_⟩
 have hb : ¬ ((((bytesA l).size + (bytesA m).size : Nat) : Int) > IntKind.i64.max) := by
  rw [bytesA_size, bytesA_size]
  show ¬ (_ > (9223372036854775807 : Int))
  omega
 have hb' : ¬ (IntKind.i64.max < ((bytesA l).size : Int) + ((bytesA m).size : Int)) := by omega
 simp [execOp, hop, den_v h1, den_v h2, strV, binOp, Op.stringOp, eqGuard, bytesA_append]
 rw [bytesA_size, bytesA_size]; omega
end
end Go.Proofs.YtnhdcclpjildjaaGreat
namespace Go.Proofs.YtnhdcclpjildjaaGreat
open Go.RowKit

def putTo (n : Int) (j : Nat) : List Int := (List.range j).map (byteAt n)
def putL (n : Int) : List Int := putTo n 4
theorem putTo_succ (n : Int) (j : Nat) : putTo n (j + 1) = putTo n j ++ [byteAt n j] := by
 unfold putTo; rw [List.range_succ, List.map_append]; rfl
theorem putTo_length (n : Int) (j : Nat) : (putTo n j).length = j := by unfold putTo; simp
theorem byteAt_range (n : Int) (j : Nat) : 0 ≤ byteAt n j ∧ byteAt n j < 256 := by unfold byteAt; omega
theorem putTo_bytes (n : Int) (j : Nat) : ∀ x ∈ putTo n j, 0 ≤ x ∧ x < 256 := fun x hx => by
 unfold putTo at hx
 obtain ⟨k, _, rfl⟩ := List.mem_map.1 hx
 exact byteAt_range n k
theorem byte_shr {n : Int} (h : word n) {j : Nat} (hj : j < 4) : IntKind.u8.wrap (n.fdiv (2 ^ (min ((8 : Int) * j).toNat IntKind.u32.bits))) = byteAt n j := by
 have h0 := h.1
 have e : (min ((8 : Int) * j).toNat IntKind.u32.bits) = 8 * j := by
  show min ((8 : Int) * j).toNat 32 = 8 * j
  omega
 rw [e, Int.fdiv_eq_ediv_of_nonneg _ (Int.le_of_lt (Int.pow_pos (by omega)))]
 rfl
set_option maxRecDepth 100000 in
theorem put_walk (n : Int) (w : World) (hn : word n) : Calls Tryz.prog 27 #[.int .u32 n, intV 4] w fun e w' => e = .returned (strV (putL n)) ∧ Below w.heap.size w w' := by
 refine calls_val [.int .u32 n, intV 4] Tryz.func27 Tryz.ntmps27 rfl (by simp) ?_
 conv => whnf
 refine ⟨{ j : Nat // j ≤ 4 }, fun x => [(0, one (.int .u32 n)), (1, one (intV 4)), (5, one (strV (putTo n x.1))), (6, one (intV (x.1 : Int)))], fun x => [], fun x => 4 - x.1, ⟨⟨0, by omega⟩, ent_same rfl (aI rfl (aI rfl (aI rfl (aI rfl trivial)))) trivial⟩, fun x => ?_⟩
 obtain ⟨j, hj⟩ := x
 dsimp only
 have hlen := putTo_length n j
 have hs := putTo_succ n j
 generalize hl : putTo n j = l at hlen hs ⊢
 conv => whnf
 refine ⟨decide ((j : Int) < 4), fun _ => ?_, ?_⟩
 ·conv => whnf
  exact ⟨rfl, rfl, rfl, rfl, rfl⟩
 conv => whnf
 refine ⟨fun hc => ?_, fun hc => ?_⟩
 ·have hlt : j < 4 := by simp [cmb] at hc; omega
  conv => whnf
  refine ⟨(8 : Int) * j, wr64 (by omega), ?_⟩
  conv => whnf
  refine ⟨by omega, _, rfl, ?_⟩
  conv => whnf
  refine ⟨byteAt n j, byte_shr hn hlt, ?_⟩
  conv => whnf
  refine q_conv_str 0 1 1 [byteAt n j] rfl rfl rfl rfl rfl rfl rfl ?_
  conv => whnf
  refine q_cat_str l [byteAt n j] rfl rfl rfl (by simp; omega) ?_
  conv => whnf
  refine ⟨_, wr64 (by omega), ?_⟩
  conv => whnf
  exact ⟨⟨j + 1, by omega⟩, ent_drop (aI rfl (aI rfl (aI ((by rw [hs]; rfl)) (aI rfl trivial)))) trivial rfl rfl, by show 4 - (j + 1) < 4 - j; omega⟩
 ·have hje : j = 4 := by simp [cmb] at hc; omega
  subst hje
  conv => whnf
  refine ⟨_, _, ent_refl, ?_⟩
  conv => whnf
  exact fin_val rfl fun w' hB => ⟨by rw [← hl]; rfl, hB⟩
end Go.Proofs.YtnhdcclpjildjaaGreat
namespace Go.Proofs.YtnhdcclpjildjaaGreat
open Go.RowKit

def MemP.pokeAt (M : MemP) (a : Int) (l : List Int) (j : Nat) : MemP := (l.take j).zipIdx.foldl (fun Q bi => if (a + bi.2) % 4294967296 < Q.data.length then Q.put ((a + bi.2) % 4294967296) bi.1 else Q) M
theorem pokeAt_succ (M : MemP) (a : Int) (l : List Int) {j : Nat} {b : Int} (h : l[j]? = some b) : M.pokeAt a l (j + 1) = if (a + j) % 4294967296 < (M.pokeAt a l j).data.length then (M.pokeAt a l j).put ((a + j) % 4294967296) b else M.pokeAt a l j := by
 have hj : j < l.length := by
  rcases Nat.lt_or_ge j l.length with h1 | h1
  ·exact h1
  ·rw [List.getElem?_eq_none h1] at h; cases h
 have hl : (l.take j).length = j := by rw [List.length_take]; omega
 unfold MemP.pokeAt
 rw [take_snoc h, List.zipIdx_append, List.foldl_append, hl]
 simp only [List.zipIdx_cons, List.zipIdx_nil, List.foldl_cons, List.foldl_nil, Nat.zero_add]
theorem pokeAt_ok {M : MemP} {n p : Nat} (hM : M.ok n p) (a : Int) {l : List Int} (hb : ∀ x ∈ l, 0 ≤ x ∧ x < 256) : ∀ j, j ≤ l.length → (M.pokeAt a l j).ok n p
 | 0, _ => hM
 | j + 1, h => by
  have e : l[j]? = some l[j] := List.getElem?_eq_getElem h
  rw [pokeAt_succ M a l e]
  have ih := pokeAt_ok hM a hb j (by omega)
  split
  ·exact put_ok ih _ (hb _ (List.getElem_mem h))
  ·exact ih
set_option maxRecDepth 100000 in
theorem mem_pokeAt (M : MemP) (n p : Nat) (a : Int) (l : List Int) (w : World) (g : Nat) (gs : List Nat) (hU : ObjsAt w (g :: gs) (memS 0 n p M)) (hM : M.ok n p) (_ha : word a) (hbl : ∀ x ∈ l, 0 ≤ x ∧ x < 256) (hlen : l.length ≤ 1000000) (hn8 : 8 < n) :
  Calls Tryz.prog 31 #[.pointer (some ⟨g, 0, none⟩), .int .u32 a, strV l] w fun e w' => e = .returned (.tuple #[]) ∧ ObjsAt w' (g :: gs) (memS 0 n p (M.pokeAt a l l.length)) ∧ GrownBys w w' (g :: gs) := by
 obtain ⟨g0, g1, g2, g3, g4, g5, hg⟩ := six_blocks hU
 injection hg with hg0 hgs
 subst hgs; subst hg0
 have hnp := hM.np
 have hpm := hM.pmax
 refine calls_objs [.p (.c (.ref 0 0)), one (.int .u32 a), one (strV l)] [.pointer (some ⟨g, 0, none⟩), .int .u32 a, strV l] Tryz.func31 Tryz.ntmps31 rfl (by simp) hU ⟨_, _, rfl, den_mk_ref rfl, avdenL_of [.int .u32 a, strV l]⟩ ?_
 conv => whnf
 refine ⟨{ j : Nat // j ≤ l.length }, fun x => [(0, .p (.c (.ref 0 0))), (1, one (.int .u32 a)), (2, one (strV l)), (6, one (.int .i64 (x.1 : Int)))], fun x => memS 0 n p (M.pokeAt a l x.1), fun x => l.length - x.1,
  ⟨⟨0, by omega⟩, ent_same rfl (aI rfl (aI rfl (aI rfl (aI rfl trivial)))) (aI sM (aI sM (aI sM (aI sM (aI sM (aI sM trivial))))))⟩, fun x => ?_⟩
 obtain ⟨j, hj⟩ := x
 dsimp only
 conv => whnf
 refine q_len_str l rfl rfl rfl ?_
 conv => whnf
 refine ⟨fun hc => ?_, fun hc => ?_⟩
 ·have hlt : j < l.length := by simpa using hc
  have hQ := pokeAt_ok hM a hbl j hj
  obtain ⟨b, hb⟩ : ∃ b, l[j]? = some b := ⟨_, List.getElem?_eq_getElem (by omega)⟩
  have hbb := hbl b (List.mem_of_getElem? hb)
  have hnext := pokeAt_succ M a l hb
  generalize M.pokeAt a l j = Q at hQ hnext ⊢
  rw [hQ.ld] at hnext
  have hlenQ : n ≤ (List.map CV.v Q.dV).length := tail_le hQ.ld
  have hadr : IntKind.u32.wrap (a + (j : Int)) = (a + j) % 4294967296 := wr32 _
  have hax : 0 ≤ (a + j) % 4294967296 ∧ (a + j) % 4294967296 < 4294967296 := by omega
  conv => whnf
  refine ⟨(j : Int), by rw [wr32]; omega, ?_⟩
  conv => whnf
  refine ⟨_, hadr, ?_⟩
  generalize (a + (j : Int)) % 4294967296 = z at hax hnext hadr ⊢
  conv => whnf
  refine call_memR (pre := []) (suf := [one (.int .u32 z)]) 0 n p Q (.bool (decide (z < (n : Int)))) (fun i hi => by rw [Nat.zero_add]) rfl rfl (by kernel_rfl) (fun w' g gs hk hU => mem_in Q n p z w' g gs hU hQ hax) ?_
  conv => whnf
  refine ⟨fun hc => ?_, fun hc => ?_⟩
  ·have hz : z < (n : Int) := by simpa using hc
   rw [if_pos hz] at hnext
   conv => whnf
   refine sat_tail 12 mixed (by kernel_rfl) ?_
   conv => whnf
   refine ⟨(j : Int), by rw [wr32]; omega, ?_⟩
   conv => whnf
   refine ⟨_, hadr, ?_⟩
   conv => whnf
   refine q_index_str l .i64 j b rfl rfl rfl rfl hb hbb ?_
   conv => whnf
   refine ⟨⟨by omega, by omega⟩, ?_⟩
   conv => whnf
   rw [show Nat.ble (0 + z.toNat * tsz Tryz.prog 5 + [CV.v (Value.int IntKind.u8 b)].length) (List.map CV.v Q.dV).length = true from Nat.ble_eq_true_of_le (by refine Nat.le_trans ?_ hlenQ; show 0 + _ * 1 + 1 ≤ n; omega)]
   conv => whnf
   rw [show Nat.ble (List.map CV.v Q.dV).length 8 = false from ble_no (by omega)]
   conv => whnf
   refine ⟨_, wr64 (by omega), ?_⟩
   conv => whnf
   have hset : setAll (List.map CV.v Q.dV) (0 + z.toNat * tsz Tryz.prog 5) [CV.v (Value.int IntKind.u8 b)] = List.map CV.v (M.pokeAt a l (j + 1)).dV := by
    rw [set_vals, hnext]
    show List.map CV.v (Q.dV.set (0 + z.toNat * 1) _) = List.map CV.v ((Q.put z b).dV)
    rw [Nat.zero_add, Nat.mul_one, ← put_dV Q b (by rw [hQ.ld]; omega)]
   have hrest : Q.iV = (M.pokeAt a l (j + 1)).iV ∧ Q.odV = (M.pokeAt a l (j + 1)).odV ∧ Q.oiV = (M.pokeAt a l (j + 1)).oiV ∧ Q.rV = (M.pokeAt a l (j + 1)).rV := by rw [hnext]; exact ⟨rfl, rfl, rfl, rfl⟩
   exact ⟨⟨j + 1, by omega⟩, ent_same rfl (aI rfl (aI rfl (aI rfl (aI rfl trivial)))) (aI ((aI rfl (Or.inl (by rw [hnext]; rfl)))) (aI ((aI rfl (Or.inl hset))) (aI ((aI rfl (Or.inl (by rw [hrest.1])))) (aI ((aI rfl (Or.inl (by rw [hrest.2.1])))) (aI ((aI rfl (Or.inl (by rw [hrest.2.2.1])))) (aI ((aI rfl (Or.inl (by rw [hrest.2.2.2])))) trivial)))))), by show l.length - (j + 1) < l.length - j; omega⟩
  ·have hz : ¬ z < (n : Int) := by simpa using hc
   rw [if_neg hz] at hnext
   conv => whnf
   refine ⟨_, wr64 (by omega), ?_⟩
   conv => whnf
   exact ⟨⟨j + 1, by omega⟩, ent_same rfl (aI rfl (aI rfl (aI rfl (aI rfl trivial)))) (aI ((aI rfl (Or.inl (by rw [hnext])))) (aI ((aI rfl (Or.inl (by rw [hnext])))) (aI ((aI rfl (Or.inl (by rw [hnext])))) (aI ((aI rfl (Or.inl (by rw [hnext])))) (aI ((aI rfl (Or.inl (by rw [hnext])))) (aI ((aI rfl (Or.inl (by rw [hnext])))) trivial)))))), by show l.length - (j + 1) < l.length - j; omega⟩
 ·have hje : j = l.length := by simp at hc; omega
  rw [hje]
  conv => whnf
  refine ⟨_, _, ent_refl, ?_⟩
  conv => whnf
  exact fin_objs rfl rfl (fun i o h => h) (memS_ob n p (M.pokeAt a l l.length)) fun w' h1 h2 => ⟨rfl, h1, h2⟩
end Go.Proofs.YtnhdcclpjildjaaGreat
namespace Go.Proofs.YtnhdcclpjildjaaGreat
open Go.RowKit

def MemP.setI (M : MemP) (i : Nat) (v : Int) : MemP := { M with image := M.image.set i v }
def MemP.codeTo (M : MemP) (q : Nat) (l : List Int) : Nat → MemP
 | 0 => M
 | j + 1 => (M.codeTo q l j).setI (256 * q + j) ((l[j]?).getD 0)
theorem setI_ok {M : MemP} {n p : Nat} (hM : M.ok n p) (i : Nat) {v : Int} (hv : 0 ≤ v ∧ v < 256) : (M.setI i v).ok n p := by
 refine ⟨hM.ld, by show (M.image.set i v).length = n; rw [List.length_set]; exact hM.li, hM.lr, hM.lod, hM.loi, hM.np, hM.pmax, hM.db, fun x hx => ?_, hM.rb⟩
 rcases List.mem_or_eq_of_mem_set hx with h | h
 ·exact hM.ib x h
 ·rw [h]; exact hv
theorem codeTo_ok {M : MemP} {n p : Nat} (hM : M.ok n p) (q : Nat) {l : List Int} (hb : ∀ x ∈ l, 0 ≤ x ∧ x < 256) : ∀ j, (M.codeTo q l j).ok n p
 | 0 => hM
 | j + 1 => setI_ok (codeTo_ok hM q hb j) _ (by
   cases h : l[j]? with
   | none => simp
   | some x => exact hb x (List.mem_of_getElem? h))
theorem setI_iV (M : MemP) {i : Nat} (v : Int) (h : i < M.image.length) : M.iV.set i (byteV v) = (M.setI i v).iV := tail_set h
set_option maxRecDepth 100000 in
set_option maxHeartbeats 1000000 in
theorem mem_setCode (M : MemP) (n p : Nat) (q : Nat) (l : List Int) (w : World) (g : Nat) (gs : List Nat) (hU : ObjsAt w (g :: gs) (memS 0 n p M)) (hM : M.ok n p) (hq : q < p) (hbl : ∀ x ∈ l, 0 ≤ x ∧ x < 256) (hlen : l.length ≤ 1000000) :
  Calls Tryz.prog 26 #[.pointer (some ⟨g, 0, none⟩), intV (q : Int), strV l] w fun e w' => e = .returned (.tuple #[]) ∧ ObjsAt w' (g :: gs) (memS 0 n p (M.codeTo q l (min l.length 256))) ∧ GrownBys w w' (g :: gs) := by
 obtain ⟨g0, g1, g2, g3, g4, g5, hg⟩ := six_blocks hU
 injection hg with hg0 hgs
 subst hgs; subst hg0
 have hnp := hM.np
 have hpm := hM.pmax
 refine calls_objs [.p (.c (.ref 0 0)), one (intV (q : Int)), one (strV l)] [.pointer (some ⟨g, 0, none⟩), intV (q : Int), strV l] Tryz.func26 Tryz.ntmps26 rfl (by simp) hU ⟨_, _, rfl, den_mk_ref rfl, avdenL_of [intV (q : Int), strV l]⟩ ?_
 conv => whnf
 refine ⟨decide ((q : Int) ≥ (p : Int)), fun _ => ?_, ?_⟩
 ·conv => whnf
  exact ⟨rfl, rfl, rfl, rfl, grp_mem _ _ _ _ _ _ _ _ _⟩
 have e1 : cmb false (decide ((q : Int) < 0)) (decide ((q : Int) ≥ (p : Int))) = false := by simp [cmb]; omega
 rw [e1]
 conv => whnf
 refine ⟨false, fun _ => ?_, ?_⟩
 ·conv => whnf
  exact ⟨rfl, rfl, rfl, rfl, grp_mem _ _ _ _ _ _ _ _ _⟩
 conv => whnf
 (repeat ((first | apply k1 | apply k2 | apply k3 | apply k4 | refine k5 (by decide) ?_ | refine k6 (by decide) ?_); conv => whnf))
 conv => whnf
 refine ⟨{ j : Nat // j ≤ min l.length 256 }, fun x => [(0, .p (.c (.ref 0 0))), (1, one (intV (q : Int))), (2, one (strV l)), (6, one (.int .i64 (x.1 : Int)))], fun x => memS 0 n p (M.codeTo q l x.1), fun x => 256 - x.1,
  ⟨⟨0, by omega⟩, ent_same rfl (aI rfl (aI rfl (aI rfl (aI rfl trivial)))) (aI sM (aI sM (aI sM (aI sM (aI sM (aI sM trivial))))))⟩, fun x => ?_⟩
 obtain ⟨j, hj⟩ := x
 dsimp only
 conv => whnf
 refine q_len_str l rfl rfl rfl ?_
 conv => whnf
 refine ⟨decide ((j : Int) < 256), fun _ => ?_, ?_⟩
 ·conv => whnf
  exact ⟨rfl, rfl, rfl, rfl, grp_mem _ _ _ _ _ _ _ _ _⟩
 conv => whnf
 refine ⟨fun hc => ?_, fun hc => ?_⟩
 ·have hlt : j < l.length ∧ j < 256 := by simp [cmb] at hc; omega
  have hQ := codeTo_ok hM q hbl j
  obtain ⟨b, hb⟩ : ∃ b, l[j]? = some b := ⟨_, List.getElem?_eq_getElem (by omega)⟩
  have hbb := hbl b (List.mem_of_getElem? hb)
  have hnext : M.codeTo q l (j + 1) = (M.codeTo q l j).setI (256 * q + j) b := by show (M.codeTo q l j).setI (256 * q + j) ((l[j]?).getD 0) = _; rw [hb]; rfl
  generalize M.codeTo q l j = Q at hQ hnext ⊢
  have hlenQ : n ≤ (List.map CV.v Q.iV).length := tail_le hQ.li
  conv => whnf
  refine sat_tail 12 mixed (by kernel_rfl) ?_
  conv => whnf
  refine ⟨(256 * q : Nat), by rw [show (256 : Int) * (q : Int) = ((256 * q : Nat) : Int) by omega]; exact wr64 (by omega), ?_⟩
  conv => whnf
  refine ⟨(256 * q + j : Nat), by rw [show ((256 * q : Nat) : Int) + (j : Int) = ((256 * q + j : Nat) : Int) by omega]; exact wr64 (by omega), ?_⟩
  conv => whnf
  refine q_index_str l .i64 j b rfl rfl rfl rfl hb hbb ?_
  conv => whnf
  refine ⟨⟨by omega, by omega⟩, ?_⟩
  conv => whnf
  rw [show Nat.ble (0 + ((256 * q + j : Nat) : Int).toNat * tsz Tryz.prog 5 + [CV.v (Value.int IntKind.u8 b)].length) (List.map CV.v Q.iV).length = true from Nat.ble_eq_true_of_le (by refine Nat.le_trans ?_ hlenQ; show 0 + _ * 1 + 1 ≤ n; omega)]
  conv => whnf
  rw [show Nat.ble (List.map CV.v Q.iV).length 8 = false from ble_no (by omega)]
  conv => whnf
  refine ⟨_, wr64 (by omega), ?_⟩
  conv => whnf
  have hset : setAll (List.map CV.v Q.iV) (0 + ((256 * q + j : Nat) : Int).toNat * tsz Tryz.prog 5) [CV.v (Value.int IntKind.u8 b)] = List.map CV.v (M.codeTo q l (j + 1)).iV := by
   rw [set_vals, hnext]
   show List.map CV.v (Q.iV.set (0 + ((256 * q + j : Nat) : Int).toNat * 1) _) = List.map CV.v ((Q.setI (256 * q + j) b).iV)
   rw [Nat.zero_add, Nat.mul_one, Int.toNat_natCast, ← setI_iV Q _ (by rw [hQ.li]; omega)]
  exact ⟨⟨j + 1, by omega⟩, ent_same rfl (aI rfl (aI rfl (aI rfl (aI rfl trivial)))) (aI ((aI rfl (Or.inl (by rw [hnext]; rfl)))) (aI ((aI rfl (Or.inl (by rw [hnext]; rfl)))) (aI ((aI rfl (Or.inl hset))) (aI ((aI rfl (Or.inl (by rw [hnext]; rfl)))) (aI ((aI rfl (Or.inl (by rw [hnext]; rfl)))) (aI ((aI rfl (Or.inl (by rw [hnext]; rfl)))) trivial)))))), by show 256 - (j + 1) < 256 - j; omega⟩
 ·have hje : j = min l.length 256 := by
   have h1 : ¬ (j < l.length ∧ j < 256) := fun h => by
    have : cmb true (decide ((j : Int) < (l.length : Int))) (decide ((j : Int) < 256)) = true := by simp [cmb]; omega
    rw [this] at hc; cases hc
   omega
  rw [hje]
  conv => whnf
  refine ⟨_, _, ent_refl, ?_⟩
  conv => whnf
  exact fin_objs rfl rfl (fun i o h => h) (memS_ob n p _) fun w' h1 h2 => ⟨rfl, h1, h2⟩
end Go.Proofs.YtnhdcclpjildjaaGreat
namespace Go.Proofs.YtnhdcclpjildjaaGreat
open Go.RowKit

theorem cpuU_sh (k : Nat) (us : List Value) (n p : Nat) (M : MemP) : ShAll k (cpuU 0 us n p M) (cpuU k us n p M) := by
 refine ⟨⟨rfl, ?_⟩, ⟨rfl, ?_⟩, ⟨rfl, (sh_vals k _).symm⟩, ⟨rfl, (sh_vals k _).symm⟩, ⟨rfl, (sh_vals k _).symm⟩, ⟨rfl, (sh_vals k _).symm⟩, ⟨rfl, (sh_vals k _).symm⟩, trivial⟩
 ·rw [List.map_append, sh_vals]; rfl
 ·simp [CV.sh, Nat.add_assoc]
theorem cpuU_ob (us : List Value) (n p : Nat) (M : MemP) : ObAll 7 (cpuU 0 us n p M) := by
 intro o ho
 simp only [memS, List.mem_cons, List.not_mem_nil, or_false] at ho
 rcases ho with rfl | rfl | rfl | rfl | rfl | rfl | rfl
 ·intro c hc
  rcases List.mem_append.1 hc with hc | hc
  ·exact ob_vals 7 _ c hc
  ·simp at hc; subst hc; rfl
 ·intro c hc
  simp only [List.mem_cons, List.not_mem_nil, or_false] at hc
  rcases hc with rfl | rfl | rfl | rfl | rfl | rfl <;> rfl
 ·exact ob_vals 7 _
 ·exact ob_vals 7 _
 ·exact ob_vals 7 _
 ·exact ob_vals 7 _
 ·exact ob_vals 7 _
abbrev u32V (x : Int) : Value := .int .u32 x
def stZ : List Value := [u32V 0, u32V 0, u32V 0, u32V 0, u32V 0, u32V 0, u32V 0, u32V 0, u32V 0, u32V 0, u32V 0, u32V 0, u32V 0, u32V 0, u32V 0, u32V 0, u32V 0, u32V 0, u32V 0, u32V 0, u32V 0, u32V 0, intV 0, intV 0]
set_option maxRecDepth 100000 in
theorem cpu_new (p : Nat) (w : World) (hp : 1 ≤ p ∧ p ≤ 64) :
  Calls Tryz.prog 34 #[intV (p : Int)] w fun e w' => ∃ g gs, e = .returned (ptrV g) ∧ NewObjs w w' (g :: gs) (cpuU 0 stZ (256 * p) p (MemP.zero p)) := by
 obtain ⟨n, hn⟩ : ∃ n, n = 256 * p := ⟨_, rfl⟩
 obtain ⟨M, hM⟩ : ∃ M, M = MemP.zero p := ⟨_, rfl⟩
 rw [← hn, ← hM]
 refine calls_satq [intV (p : Int)] Tryz.func34 Tryz.ntmps34 rfl (by simp) ?_
 refine satq_seqN ?_
 conv => whnf
 refine satq_seqN ?_
 conv => whnf
 refine call_newObjs (memS 0 n p M) (memS 0 n p M) rfl (by kernel_rfl) (memS_sh 0 n p M) (memS_ob n p M) (fun r w hR => by rw [hn, hM]; exact new_mem p w hp) ?_
 conv => whnf
 refine satq_as (f' := [(2, .p (.c (.ref 0 0)))]) (S' := cpuU 0 stZ n p M) (ent_ren [6, 0, 1, 2, 3, 4, 5] (aI rfl trivial) (aI ((Exists.intro _ (aI rfl sM))) (aI ((Exists.intro _ (aI rfl sM))) (aI ((Exists.intro _ (aI rfl (aI rfl (Or.inl (renL_vals _ _).symm))))) (aI ((Exists.intro _ (aI rfl (aI rfl (Or.inl (renL_vals _ _).symm))))) (aI ((Exists.intro _ (aI rfl (aI rfl (Or.inl (renL_vals _ _).symm))))) (aI ((Exists.intro _ (aI rfl (aI rfl (Or.inl (renL_vals _ _).symm))))) (aI ((Exists.intro _ (aI rfl (aI rfl (Or.inl (renL_vals _ _).symm))))) trivial))))))) rfl (by show sbnd 7 (cpuU 0 stZ n p M) = true; simp only [sbnd, Ow.bnd, bndL_vals, bndL, CV.bnd]; rfl) rfl rfl rfl) ?_
 refine satq_vcN ?_
 conv => whnf
 refine atq_ret ?_
 conv => whnf
 exact fin_newObjs 0 (cpuU 0 stZ n p M) (cpuU 0 stZ n p M) (by simp) (fun i _ => by rw [Nat.zero_add]) (cpuU_sh 0 stZ n p M) (cpuU_ob stZ n p M) fun w' g gs h => ⟨g, gs, rfl, h⟩
end Go.Proofs.YtnhdcclpjildjaaGreat
namespace Go.Proofs.YtnhdcclpjildjaaGreat
open Go.RowKit
theorem call_objsX {P : Program} {w0 : World} {G : Gs} {fid : FuncId} {S : List Ow} {K : AV → List Ow → Prop} {pre suf : List AV} {α : Type} (k : Nat) (U V : List Ow) (U' V' : α → List Ow) (X : α → Value) (post : α → Prop) (hpos : 0 < U.length) (hsh : ShAll k U V) (hob : ObAll U.length U) (hS : ∀ i, i < U.length → S[k + i]? = V[i]?)
  (hok : fnOk P fid = true) (hsh' : ∀ x, post x → ShAll k (U' x) (V' x)) (hob' : ∀ x, post x → ObAll U.length (U' x)) (hlen' : ∀ x, post x → (U' x).length = U.length)
  (h : ∀ r w g gs xs ys, Rel w0 G S r w → avdenL r pre xs → avdenL r suf ys → (∀ b, b ∈ g :: gs → ∃ i, i < U.length ∧ r.blk (k + i) = some b) → ObjsAt w (g :: gs) U → Calls P fid (xs ++ .pointer (some ⟨g, 0, none⟩) :: ys).toArray w fun e w' => ∃ x, post x ∧ e = .returned (X x) ∧ ObjsAt w' (g :: gs) (U' x) ∧ GrownBys w w' (g :: gs))
  (hK : ∀ x, post x → K (AV.of (X x)) (putS S k (V' x))) : CallS P w0 G fid (pre ++ .p (.c (.ref k 0)) :: suf) S K := by
 refine ⟨hok, fun r w vs hR hd => ?_⟩
 have hSlen : k + U.length ≤ S.length := by
  have h1 := hS (U.length - 1) (by omega)
  obtain ⟨o', h2, _⟩ := hsh.get (U.length - 1) (List.getElem?_eq_getElem (by omega) : U[U.length - 1]? = some U[U.length - 1])
  rw [h2] at h1
  rcases Nat.lt_or_ge (k + (U.length - 1)) S.length with h3 | h3
  ·omega
  ·rw [List.getElem?_eq_none h3] at h1; cases h1
 have hblk : ∀ i, i < U.length → ∃ b, r.blk (k + i) = some b := fun i hi => by
  obtain ⟨o', h2, h3⟩ := hsh.get i (List.getElem?_eq_getElem hi)
  have h4 := hR.own (k + i) o' (by rw [hS i hi, h2])
  have h5 := hob _ (List.getElem_mem hi)
  cases hu : U[i] with
  | cells t l =>
   rw [hu] at h3
   cases o' with
   | cells t' l' => obtain ⟨b, us, e1, _⟩ := h4; exact ⟨b, e1⟩
   | row => exact h3.elim
   | ext => exact h3.elim
   | view => exact h3.elim
   | gone => exact h3.elim
  | row => rw [hu] at h5; exact h5.elim
  | ext => rw [hu] at h5; exact h5.elim
  | view => rw [hu] at h5; exact h5.elim
  | gone => rw [hu] at h5; exact h5.elim
 obtain ⟨gs, hgl, hgs⟩ : ∃ gs : List Nat, gs.length = U.length ∧ ∀ i, i < U.length → gs[i]? = r.blk (k + i) := by
  refine ⟨(List.range U.length).map fun i => (r.blk (k + i)).getD 0, by simp, fun i hi => ?_⟩
  obtain ⟨b, hb⟩ := hblk i hi
  rw [List.getElem?_map, List.getElem?_range hi, hb]
  simp [hb]
 have hto : ∀ i b, i < U.length → r.blk (k + i) = some b → (envOf gs).blk i = some b := fun i b hi hb => by
  show gs[i]? = some b
  rw [hgs i hi]; exact hb
 have hfrom : ∀ i b, i < U.length → (envOf gs).blk i = some b → r.blk (k + i) = some b := fun i b hi hb => by
  have hb : gs[i]? = some b := hb
  rw [hgs i hi] at hb; exact hb
 have hin : ∀ (i b : Nat), gs[i]? = some b → i < U.length ∧ r.blk (k + i) = some b := fun i b hb => by
  have hi : i < U.length := by
   rcases Nat.lt_or_ge i U.length with h1 | h1
   ·exact h1
   ·rw [List.getElem?_eq_none (by omega)] at hb; cases hb
  exact ⟨hi, by rw [← hgs i hi]; exact hb⟩
 have hmem : ∀ b, b ∈ gs → ∃ i, i < U.length ∧ r.blk (k + i) = some b := fun b hb => by
  obtain ⟨i, hi⟩ := List.getElem?_of_mem hb
  exact ⟨i, hin i b hi⟩
 have hU : ObjsAt w gs U := by
  refine ⟨hgl.symm, fun i j b hi hj => ?_, fun g hg => ?_, fun i o ho => ?_⟩
  ·have := hR.inj _ _ b (hin i b hi).2 (hin j b hj).2
   omega
  ·obtain ⟨i, _, hi⟩ := hmem g hg
   exact (hR.new _ g hi).1
  ·have hi : i < U.length := by
    rcases Nat.lt_or_ge i U.length with h1 | h1
    ·exact h1
    ·rw [List.getElem?_eq_none h1] at ho; cases ho
   obtain ⟨o', h2, h3⟩ := hsh.get i ho
   have h4 := hR.own (k + i) o' (by rw [hS i hi, h2])
   have h5 := hob o (List.mem_of_getElem? ho)
   cases o with
   | cells t l =>
    cases o' with
    | cells t' l' =>
     obtain ⟨rfl, rfl⟩ := h3
     obtain ⟨b, us, e1, e2, e3⟩ := h4
     exact ⟨b, us, hto i b hi e1, e2, denL_sh (n := U.length) hto h5 e3⟩
    | row => exact h3.elim
    | ext => exact h3.elim
    | view => exact h3.elim
    | gone => exact h3.elim
   | row => exact h5.elim
   | ext => exact h5.elim
   | view => exact h5.elim
   | gone => exact h5.elim
 have hkeep : OldKeeps w0 G w gs := fun b hb hG => by
  refine ⟨Nat.lt_of_lt_of_le hb hR.size, fun hm => ?_, hR.old b hb hG⟩
  obtain ⟨i, _, hi⟩ := hmem b hm
  exact hG ((hR.new _ b hi).2 hb)
 cases gs with
 | nil => simp at hgl; omega
 | cons g gs =>
  obtain ⟨vs1, vs2, rfl, d1, d2⟩ := avden_append hd
  obtain ⟨u, vs3, rfl, d3, d4⟩ := d2
  obtain ⟨b, hb, rfl⟩ := den_ref d3
  have hbg : b = g := by
   have := hto 0 b hpos (by simpa using hb)
   have : g = b := by injection this
   exact this.symm
  subst hbg
  refine (h r w b gs _ _ hR d1 d4 hmem hU).mono fun e w' ⟨x, hp, he, hU', hg⟩ => ?_
  refine ⟨AV.of (X x), X x, _, r, he, AV.of_den r _, ?_, Env.le.refl r, hK x hp⟩
  have hVl : (V' x).length = U.length := by rw [← hlen' x hp, (hsh' x hp).length]
  have hnot : ∀ j b', r.blk j = some b' → ¬ (k ≤ j ∧ j < k + U.length) → b' ∉ (b :: gs) := fun j b' hj hno hm => by
   obtain ⟨i, hi, hbi⟩ := hmem b' hm
   have := hR.inj _ _ b' hj hbi
   omega
  refine ⟨hg.os.trans hR.os, hg.tape.trans hR.tape, hg.output.trans hR.output, Nat.le_trans hR.size hg.size, fun j hj hjG => ?_, fun j o hj => ?_, hR.inj, fun j b' hb' => ⟨Nat.lt_of_lt_of_le (hR.new j b' hb').1 hg.size, (hR.new j b' hb').2⟩,
   fun j hj => hR.outB j (by rwa [putS_length] at hj), fun j hj => hR.outV j (by rwa [putS_length] at hj), hR.first⟩
  ·obtain ⟨k1, k2, k3⟩ := hkeep j hj hjG
   rw [hg.block j k1 k2]; exact k3
  ·rw [putS_get _ _ _ _ (by rw [hVl]; exact hSlen), hVl] at hj
   by_cases hr : k ≤ j ∧ j < k + U.length
   ·rw [if_pos hr] at hj
    obtain ⟨o', h2, h3⟩ := (hsh' x hp).get' (j - k) hj
    have h4 := hU'.own (j - k) o' h2
    have h5 := hob' x hp o' (List.mem_of_getElem? h2)
    cases o' with
    | cells t l =>
     cases o with
     | cells t' l' =>
      obtain ⟨rfl, rfl⟩ := h3
      obtain ⟨c, us, e1, e2, e3⟩ := h4
      refine ⟨c, us, ?_, e2, sh_denL (n := U.length) hfrom h5 e3⟩
      have := hfrom (j - k) c (by omega) e1
      rwa [show k + (j - k) = j by omega] at this
     | row => exact h3.elim
     | ext => exact h3.elim
     | view => exact h3.elim
     | gone => exact h3.elim
    | row => exact h5.elim
    | ext => exact h5.elim
    | view => exact h5.elim
    | gone => exact h5.elim
   ·rw [if_neg hr] at hj
    refine Ow.holds_block (hR.own j o hj) (fun b' hb' => hg.block b' (hR.new j b' hb').1 (hnot j b' hb' hr)) hg.size fun b' hb' hno => hg.block b' hb' fun hm => ?_
    obtain ⟨i, _, hi⟩ := hmem b' hm
    exact hno _ hi
end Go.Proofs.YtnhdcclpjildjaaGreat
namespace Go.Proofs.YtnhdcclpjildjaaGreat
open Go.RowKit

section
variable {w0 : World} {G : Gs} {S : List Ow} {K : AV → List Ow → Prop}
theorem row_old {w : World} {r : Env} {g : Nat} {gs : List Nat} {k m : Nat} (hR : Rel w0 G S r w) (hgs : ∀ b, b ∈ g :: gs → ∃ i, i < m ∧ r.blk (k + i) = some b) {i n size : Nat} {e : TypeId} {xs : List Value} {u : Value} (hi : S[i]? = some (.row e size n xs)) (hn : i < k ∨ k + m ≤ i) (hu : r.val i = some u) : ∃ A c, u = .slice A n c ∧ SlOld w ⟨g :: gs, []⟩ A xs := by
 obtain ⟨v, f1, f2, f3⟩ := hR.own i _ hi
 rw [hu] at f1; injection f1 with f1; subst f1
 rcases f3.2 with ⟨rfl, h0⟩ | ⟨b, cap, cur, rfl, _, hh, hnc, hcap, hsz, htake⟩
 ·refine ⟨none, 0, by rw [h0], fun j u hj => ?_⟩
  have := f3.1
  rw [h0] at this
  have : xs = [] := List.eq_nil_of_length_eq_zero (by simpa using this)
  subst this
  simp at hj
 ·refine ⟨_, _, rfl, fun j u hj => ⟨b, 0, rfl, heap_lt hh, ?_, ?_⟩⟩
  ·rintro (hm | hm)
   ·obtain ⟨t, ht, hb⟩ := hgs b hm
    have hbi : r.blk i = some b := by rw [← f2]; rfl
    have := hR.inj _ _ b hb hbi
    omega
   ·cases hm
  ·simp only [World.cell?, hh, Nat.zero_add]
   rw [← htake, List.getElem?_take] at hj
   split at hj
   ·simpa using hj
   ·cases hj
theorem call_eval (k n p i1 i2 i3 : Nat) (b : Blk) (vs : List Int) (M : MemP) {x : AV} (hx : x.val = some (varsV vs)) (hS : ∀ i, i < 6 → S[k + i]? = (memS k n p M)[i]?) (hM : M.ok n p) (hb : b.ok) (hv : validB b = true) (hvs : VarsOk vs)
  (h1 : S[i1]? = some (.row 35 1 b.at_.length (b.at_.map (.int .u32)))) (h2 : S[i2]? = some (.row 3 1 b.pages.length (b.pages.map (.int .i64)))) (h3 : S[i3]? = some (.row 45 5 b.ops.length (b.ops.flatMap opC))) (hn : (i1 < k ∨ k + 6 ≤ i1) ∧ (i2 < k ∨ k + 6 ≤ i2) ∧ (i3 < k ∨ k + 6 ≤ i3))
  (hK : K (AV.of (outV (evalBlk b vs M).out)) (putS S k (memS k n p (evalBlk b vs M).mem))) : CallS Tryz.prog w0 G 29 [.p (.agg [.row i1, .row i2, .row i3]), x, .p (.c (.ref k 0))] S K := by
 refine call_objsX (α := Unit) (pre := [.p (.agg [.row i1, .row i2, .row i3]), x]) (suf := []) k (memS 0 n p M) (memS k n p M) (fun _ => memS 0 n p (evalBlk b vs M).mem) (fun _ => memS k n p (evalBlk b vs M).mem) (fun _ => outV (evalBlk b vs M).out) (fun _ => True) (by simp) (memS_sh k n p M) (memS_ob n p M) hS (by kernel_rfl) (fun _ _ => memS_sh k n p _) (fun _ _ => memS_ob n p _) (fun _ _ => rfl)
  (fun r w g gs xs ys hR hd hd2 hgs hU => ?_) (fun _ _ => hK)
 obtain ⟨u, l, rfl, d1, d2⟩ := hd
 obtain ⟨u2, l2, rfl, d3, d4⟩ := d2
 obtain rfl : l2 = [] := d4
 obtain rfl : ys = [] := hd2
 obtain rfl := AV.val_den hx d3
 obtain ⟨us, rfl, hl⟩ := den_agg d1
 simp only [denL, CV.den] at hl
 obtain ⟨u1, l1, rfl, k1, u2, l2, rfl, k2, u3, l3, rfl, k3, rfl⟩ := hl
 obtain ⟨A1, c1, e1, s1⟩ := row_old hR hgs h1 hn.1 k1
 obtain ⟨A2, c2, e2, s2⟩ := row_old hR hgs h2 hn.2.1 k2
 obtain ⟨A3, c3, e3, s3⟩ := row_old hR hgs h3 hn.2.2 k3
 subst e1; subst e2; subst e3
 exact (eval_walk b vs n p M A1 A2 A3 c1 c2 c3 w g gs hU hM hb hv hvs s1 s2 s3).mono fun e w' h => ⟨(), trivial, h⟩
theorem call_lifted (k n p : Nat) (M : MemP) (pc most : Int) (hS : ∀ i, i < 6 → S[k + i]? = (memS k n p M)[i]?) (hM : M.ok n p) (hp : 2 ≤ p ∧ p ≤ 1000) (hpc : word pc)
  (hK : K (.tup [.agg [.row S.length, .row (S.length + 1), .row (S.length + 2)], .c (.v (.bool true))]) (S ++ blkRows (liftM M pc most))) : CallS Tryz.prog w0 G 15 [one (.int .u32 pc), .p (.c (.ref k 0)), one (intV most)] S K := by
 refine call_blkT (liftM M pc most) (.bool true) (by kernel_rfl) (fun r w us hR hd => ?_) hK
 obtain ⟨u1, l1, rfl, d1, d2⟩ := hd
 obtain ⟨u2, l2, rfl, d3, d4⟩ := d2
 obtain ⟨u3, l3, rfl, d5, d6⟩ := d4
 obtain rfl : l3 = [] := d6
 obtain rfl := den_v d1
 obtain rfl := den_v d5
 obtain ⟨g, gs, hg, hU⟩ := hR.objsAt k (memS 0 n p M) (memS k n p M) (by simp) hS (memS_sh k n p M) (memS_ob n p M)
 obtain ⟨b, hb, rfl⟩ := den_ref d3
 rw [hg] at hb; injection hb with hb; subst hb
 exact lifted_walk hU hM hp pc most hpc
end
end Go.Proofs.YtnhdcclpjildjaaGreat
namespace Go.Proofs.YtnhdcclpjildjaaGreat
open Go.RowKit

abbrev sanI : List QI := [⟨16, 1, 0, 0, 5⟩, ⟨32, 1, 2, 0, 3⟩, ⟨50, 0, 0, 0, 0⟩]
abbrev sanW : List Int := [1077936133, 2152202243, 3355443200]
def sanS (j : Nat) : List Int := (sanW.take j).flatMap putL
def sanM : MemP := ((MemP.zero 2).codeTo 1 (sanS 3) 12).protect 1 4
abbrev sanB1 : Blk := ⟨[256, 260], [1], [⟨20, 0, 0, 0, 0⟩, ⟨1, 20, 0, 0, 5⟩, ⟨3, 1, 0, 20, 0⟩, ⟨20, 0, 0, 0, 1⟩, ⟨13, 20, 1, 2, 0⟩, ⟨23, 0, 20, 0, 272⟩, ⟨24, 0, 0, 0, 264⟩]⟩
abbrev sanB2 : Blk := ⟨[256], [1], [⟨20, 0, 0, 0, 0⟩, ⟨1, 20, 0, 0, 5⟩, ⟨3, 1, 0, 20, 0⟩, ⟨24, 0, 0, 0, 260⟩]⟩
abbrev sanB3 : Blk := ⟨[264], [1], [⟨20, 0, 0, 0, 0⟩, ⟨22, 0, 0, 0, 0⟩]⟩
theorem san_lift1 : liftM sanM 256 64 = sanB1 := by kernel_rfl
theorem san_lift2 : liftM sanM 256 1 = sanB2 := by kernel_rfl
theorem san_lift3 : liftM sanM 264 9 = sanB3 := by kernel_rfl
abbrev zeros28 : List Int := [0, 0, 0, 0, 0, 0, 0, 0, 0, 0, 0, 0, 0, 0, 0, 0, 0, 0, 0, 0, 0, 0, 0, 0, 0, 0, 0, 0]
abbrev sanV : List Int := [0, 5, 0, 0, 0, 0, 0, 0, 0, 0, 0, 0, 0, 0, 0, 0, 0, 0, 0, 0, 0, 0, 0, 0, 0, 0, 0, 0]
theorem san_eval1 : (evalBlk sanB1 zeros28 sanM).out = ⟨false, 0, 2, 264, sanV⟩ := by kernel_rfl
theorem san_eval2 : (evalBlk sanB2 zeros28 sanM).out = ⟨false, 0, 1, 260, sanV⟩ := by kernel_rfl
theorem san_eval3 : (evalBlk sanB3 zeros28 sanM).out = ⟨true, 0, 0, 264, zeros28⟩ := by kernel_rfl
theorem san_mem1 : (evalBlk sanB1 zeros28 sanM).mem = sanM := by kernel_rfl
theorem san_mem2 : (evalBlk sanB2 zeros28 sanM).mem = sanM := by kernel_rfl
theorem san_mem3 : (evalBlk sanB3 zeros28 sanM).mem = sanM := by kernel_rfl
theorem zeros_ok : VarsOk zeros28 := ⟨rfl, fun x hx => by
 have : ∀ y ∈ zeros28, y = 0 := by decide
 rw [this x hx]; unfold word; omega⟩
theorem san_ok : (MemP.zero 2).ok 512 2 := mem_zero_ok (by decide)
end Go.Proofs.YtnhdcclpjildjaaGreat
