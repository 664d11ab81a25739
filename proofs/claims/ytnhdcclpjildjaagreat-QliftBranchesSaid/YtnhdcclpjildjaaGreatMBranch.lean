/- For all operands, a lifted block that ends with a branch continues where the plain machine does and is not left: for every input, without any condition. -/
import Derived.Test.YtnhdcclpjildjaaGreatMBranchG
namespace Go.Proofs.YtnhdcclpjildjaaGreat
open Go.RowKit

theorem sinP_data (M : MemP) : ∀ j, (sinP M j).data = M.data ∧ (sinP M j).image = M.image
  | 0 => ⟨rfl, rfl⟩
  | j + 1 => sinP_data M j
theorem sinP_right {M : MemP} (hM : M.ok 1536 6) : ∀ j, j ≤ 6 → ∀ y, y < j → (sinP M j).rights[y]? = some (sinL y)
  | 0, _, y, hy => by omega
  | j + 1, hj, y, hy => by
    have ih := sinP_right hM j (by omega)
    show (List.set (sinP M j).rights j (sinL j))[y]? = _
    rw [List.getElem?_set]
    by_cases hc : j = y
    · rw [if_pos hc, if_pos (by rw [(sinP_ok hM j).lr]; omega), hc]
    · rw [if_neg hc]; exact ih y (by omega)
theorem sinM0_image (i : QI) {b : Nat} (hb : b < 4) : (sinM0 i).image[256 + b]? = some (byteAt (sinX i) b) := by
  have hl : (putL (sinX i)).length = 4 := by unfold putL; rw [putTo_length]
  have hk := pokeAt_ok zero_ok6 ((256 : Nat) : Int) (putTo_bytes (sinX i) 4) (putL (sinX i)).length (Nat.le_refl _)
  have hd := pokeAt_data zero_ok6 (by omega) 256 (putL (sinX i)) (putTo_bytes _ _) (by rw [hl]; omega) (putL (sinX i)).length (Nat.le_refl _) (256 + b)
  unfold sinM0
  have hk : ((MemP.zero 6).pokeAt ((256 : Nat) : Int) (putL (sinX i)) (putL (sinX i)).length).ok 1536 6 := hk
  have e256 : ((256 : Nat) : Int) = (256 : Int) := rfl
  rw [e256] at hk hd
  generalize hQ : (MemP.zero 6).pokeAt 256 (putL (sinX i)) (putL (sinX i)).length = Q at hk hd ⊢
  have e : Q.syncM 256 = Q.syncTo 256 256 := by
    unfold MemP.syncM
    rw [if_pos (by rw [hk.ld]; omega)]
    rfl
  rw [e, syncTo_image hk 256 256 (by omega) (256 + b), if_pos (by omega), hd, if_pos (by rw [hl]; omega), show 256 + b - 256 = b by omega]
  unfold putL putTo
  rw [List.getElem?_map, List.getElem?_range hb]
  rfl
theorem sin_fet (i : QI) (b : Nat) (hb : b < 4) : (sinM i).fet (256 + (b : Int)) = some (byteAt (sinX i) b) := by
  have hk : (sinM i).ok 1536 6 := sinM_ok
  have hr : (sinM i).right (256 + (b : Int)) 4 = true := by
    unfold MemP.right
    rw [show ((256 + (b : Int)) / 256).toNat = 1 by omega, hk.ld, show (sinM i).rights[1]? = some (sinL 1) from sinP_right sinM0_ok 6 (Nat.le_refl _) 1 (by omega)]
    simp [sinL]
    omega
  have hc : (sinM i).code (256 + (b : Int)) = byteAt (sinX i) b := by
    unfold MemP.code
    rw [show (256 + (b : Int)).toNat = 256 + b by omega, show (sinM i).image = (sinM0 i).image from (sinP_data _ 6).2, sinM0_image i hb]
    rfl
  unfold MemP.fet
  rw [if_pos hr, hc]
theorem sin_read {i : QI} (hi : word i.imm) : readQ (sinM i).fet 256 = decQ (sinX i) := by
  unfold readQ
  rw [if_pos (by decide), readN_four (sinX_word hi) fun b hb => sin_fet i b hb]
  rfl
theorem sin_valid {i : QI} (hi : word i.imm) (hv : validQ i = true) : readQ (sinM i).fet 256 = some i := by
  rw [sin_read hi]
  unfold sinX encQ
  rw [if_pos hv]
  exact (decQ_word hv hi).1
def brI (n0 n1 n2 n4 : Int) : QI := ⟨32 + n0 % 6, 1 + n1 % 15, 1 + n2 % 15, 0, sgnW (n4 % 4294967296) 18⟩
theorem brI_ok (n0 n1 n2 n4 : Int) : (brI n0 n1 n2 n4).ok := by
  refine ⟨?_, ?_, ?_, ?_, sgnW_word _ (by decide) (by decide)⟩ <;> (unfold brI; dsimp only; omega)
theorem brI_valid (n0 n1 n2 n4 : Int) : validQ (brI n0 n1 n2 n4) = true := by
  have hf : qForm (brI n0 n1 n2 n4).op = ⟨true, true, true, false, true, 18, 0⟩ := by
    show qForm (32 + n0 % 6) = _
    rcases (by omega : 32 + n0 % 6 = 32 ∨ 32 + n0 % 6 = 33 ∨ 32 + n0 % 6 = 34 ∨ 32 + n0 % 6 = 35 ∨ 32 + n0 % 6 = 36 ∨ 32 + n0 % 6 = 37) with h | h | h | h | h | h <;> (rw [h]; rfl)
  unfold validQ
  rw [hf]
  have r1 : regB (brI n0 n1 n2 n4).d true = true := by unfold regB brI; simp; omega
  have r2 : regB (brI n0 n1 n2 n4).a true = true := by unfold regB brI; simp; omega
  have r3 : regB (brI n0 n1 n2 n4).b false = true := rfl
  have r4 : immB ⟨true, true, true, false, true, 18, 0⟩ (brI n0 n1 n2 n4).imm = true := by
    unfold immB
    rw [if_neg (by decide), if_pos rfl]
    show decide (sgnW (sgnW (n4 % 4294967296) 18) 18 = sgnW (n4 % 4294967296) 18) = true
    rw [decide_eq_true_iff, sgn18, sgn18]
    split <;> split <;> omega
  rw [r1, r2, r3, r4]
  rfl
theorem br_run {M : MemP} {s : St} {i : QI} (hpc : s.pc = 256) (hi : readQ M.fet 256 = some i) (hop : 32 ≤ i.op ∧ i.op ≤ 37) (most : Int) : (runM M s most).leaves = false ∧ (runM M s most).done = 1 := by
  obtain ⟨l1, l2⟩ := limN_ok most
  obtain ⟨n, hn⟩ : ∃ n, n = limN most := ⟨_, rfl⟩
  unfold runM
  rw [← hn] at l1 l2 ⊢
  obtain ⟨m, rfl⟩ : ∃ m, n = m + 1 := ⟨n - 1, by omega⟩
  have ha : qAddr s.pc 0 = 256 := by rw [hpc]; decide
  have hq : qAt (readQ M.fet) 256 = i := by unfold qAt; rw [hi]; rfl
  have hc : qCode i.op = 0 := Decidable.byContradiction fun hc => by have := qCode_zero.1 hc; omega
  have hs : ∃ nx, stepQ i 256 s.R M = some (s.R, nx, M) := by
    unfold stepQ
    rw [if_neg (by omega), if_neg (by rw [hc]; simp), if_neg (by omega), if_neg (by omega), if_neg (by omega), if_neg (by omega), if_neg (by omega), if_neg (by omega), if_neg (by omega), if_pos hop]
    exact ⟨_, rfl⟩
  have ht : ∃ l, qTail i 256 = some l := by
    unfold qTail
    rw [if_neg (by rw [hc]; simp), if_neg (by omega), if_neg (by omega), if_neg (by omega), if_pos hop]
    exact ⟨_, rfl⟩
  obtain ⟨nx, hs⟩ := hs
  obtain ⟨l, ht⟩ := ht
  rw [runQ_succ, ha, hq, hs, ht]
  exact ⟨rfl, rfl⟩
end Go.Proofs.YtnhdcclpjildjaaGreat
namespace Go.Proofs.YtnhdcclpjildjaaGreat
open Go.RowKit

theorem cpu_getR {s : St} {X : List CV} {j : Int} (hX : X = stC s [] ++ [.ref 1 0]) (h0 : 0 ≤ j) (h1 : j < 16) : X[0 + 1 + j.toNat * 1]? = some (.v (u32V (s.R j))) := by
  rw [hX]
  rcases (by omega : j = 0 ∨ j = 1 ∨ j = 2 ∨ j = 3 ∨ j = 4 ∨ j = 5 ∨ j = 6 ∨ j = 7 ∨ j = 8 ∨ j = 9 ∨ j = 10 ∨ j = 11 ∨ j = 12 ∨ j = 13 ∨ j = 14 ∨ j = 15) with rfl | rfl | rfl | rfl | rfl | rfl | rfl | rfl | rfl | rfl | rfl | rfl | rfl | rfl | rfl | rfl <;> rfl
theorem cpu_set2 {s : St} {X : List CV} {j : Int} (x : Int) (hX : X = stC s [] ++ [.ref 1 0]) (h0 : 0 ≤ j) (h1 : j < 16) : setAll X (0 + 1 + j.toNat * 1) [.v (u32V x)] = stC { s with R := regU s.R j x } [] ++ [.ref 1 0] := by
  rw [hX]
  rcases (by omega : j = 0 ∨ j = 1 ∨ j = 2 ∨ j = 3 ∨ j = 4 ∨ j = 5 ∨ j = 6 ∨ j = 7 ∨ j = 8 ∨ j = 9 ∨ j = 10 ∨ j = 11 ∨ j = 12 ∨ j = 13 ∨ j = 14 ∨ j = 15) with rfl | rfl | rfl | rfl | rfl | rfl | rfl | rfl | rfl | rfl | rfl | rfl | rfl | rfl | rfl | rfl <;> rfl
theorem st_ok_set {s : St} (h : s.ok) {j x : Int} (hj : j ≠ 0) (hx : word x) : ({ s with R := regU s.R j x } : St).ok := by
  refine ⟨h.pc, fun k h0 h1 => ?_, ?_, h.fl, h.steps⟩
  · show word (if k = j then x else s.R k)
    split
    · exact hx
    · exact h.reg k h0 h1
  · show (if (0 : Int) = j then x else s.R 0) = 0
    rw [if_neg (by omega)]; exact h.zero
abbrev brU (us : List Value) (M : MemP) (q : QI) : List Ow := cpuU 0 us 1536 6 M ++ ([.cells qiT [.v (intV q.op), .v (intV q.d), .v (intV q.a), .v (intV q.b), .v (u32V q.imm)]] : List Ow)
theorem br_bnd (us : List Value) (M : MemP) (q : QI) : sbnd 8 (brU us M q) = true := by
  have h : bndL 8 (us.map .v ++ [.ref 1 0]) = true := by
    induction us with
    | nil => rfl
    | cons u us ih => simpa only [List.map_cons, List.cons_append, bndL, CV.bnd] using ih
  show sbnd 8 [_, _, _, _, _, _, _, _] = true
  simp only [sbnd, Ow.bnd, bndL_vals, bndL, CV.bnd, h]
  rfl
set_option maxRecDepth 100000 in
set_option maxHeartbeats 8000000 in
theorem branches_law (n0 n1 n2 n3 n4 a b : Int) (eq : Bool) (ha : word a) (hb : word b) (w : World) : Calls Tryz.prog 9 #[fiveV n0 n1 n2 n3 n4, .agg #[u32V a, u32V b], .bool eq] w fun e w' => e = .returned (.bool true) ∧ Below w.heap.size w w' := by
  refine calls_satq [fiveV n0 n1 n2 n3 n4, .agg #[u32V a, u32V b], .bool eq] Tryz.func9 Tryz.ntmps9 rfl (by simp) ?_
  refine satq_seqN ?_
  conv => whnf
  refine satq_in (satq_jumpG 0 rfl rfl rfl ?_)
  conv => whnf
  refine ⟨by kernel_rfl, fun r w1 us hR hd => ?_⟩
  obtain rfl := avals_den (xs := []) rfl hd
  have hB := hR.toBelow
  obtain ⟨b0, vs0, e1, e2, e3⟩ := hR.own 0 _ rfl
  obtain rfl := denL_vals_inv (us := [intV n0, intV n1, intV n2, intV n3, intV n4]) e3
  obtain ⟨b1, vs1, e4, e5, e6⟩ := hR.own 1 _ rfl
  obtain rfl := denL_vals_inv (us := [u32V a, u32V b]) e6
  refine (sanity14 w1).mono fun e w2 ⟨he, hB2⟩ => ?_
  have hq0 : w2.heap[b0]? = some (.cells #[intV n0, intV n1, intV n2, intV n3, intV n4] 58 (0, 0)) := (hB2.block b0 (heap_lt e2)).trans e2
  have hq1 : w2.heap[b1]? = some (.cells #[u32V a, u32V b] w2T (0, 0)) := (hB2.block b1 (heap_lt e5)).trans e5
  have hBB : Below w.heap.size w w2 := hB.trans (hB2.mono hB.size)
  refine ⟨_, one (.bool true), w2, Gs.nil, [(2, one (.bool eq)), (3, one (ptrV b0)), (4, one (ptrV b1))], [], Env.none, he, rel_none w2, fun a hf => frDen ⟨slot_same hf 2 rfl, slot_plain hf 3 rfl e1, slot_plain hf 4 rfl e4, trivial⟩, den_one _ _, ?_⟩
  conv => whnf
  refine atq_on ?_
  obtain ⟨q, hq⟩ : ∃ q, q = brI n0 n1 n2 n4 := ⟨_, rfl⟩
  have hqo : q.ok := hq ▸ brI_ok n0 n1 n2 n4
  have hqv : validQ q = true := hq ▸ brI_valid n0 n1 n2 n4
  have hqop : 32 ≤ q.op ∧ q.op ≤ 37 := by rw [hq]; unfold brI; dsimp only; omega
  have hqd : 1 ≤ q.d ∧ q.d ≤ 15 := by rw [hq]; unfold brI; dsimp only; omega
  have hqa : 1 ≤ q.a ∧ q.a ≤ 15 := by rw [hq]; unfold brI; dsimp only; omega
  obtain ⟨M, hM⟩ : ∃ M, M = sinM q := ⟨_, rfl⟩
  have hrd : readQ M.fet 256 = some q := hM ▸ sin_valid hqo.imm hqv
  refine satq_mid (α := Unit) (fun _ => [(2, one (.bool eq)), (4, one (ptrV b1)), (7, one (.bool true)), (8, .p (.c (.ref 0 0)))]) (fun _ => [.cells qiT [.v (intV (32 + n0 % 6)), .v (intV (1 + n1 % 15)), .v (intV (1 + n2 % 15)), .v (intV 0), .v (u32V (sgnW (n4 % 4294967296) 18))]]) ?_ fun _ => ?_
  · refine satq_vcN ?_
    conv => whnf
    refine sat_anyG (.q 0 (.q 1 (.q 4 (.q 5 (.q 8 (.q 9 (.q 12 (.q 13 (.q 14 (.alt 2 (.q 3 (.alt 6 (.q 7 (.alt 10 (.q 11 (.alt 15 (.q 16 (.alt 17 (.alt 18 .done .no) .no)) (.alt 17 (.alt 15 (.q 16 (.alt 18 .done .no)) .no) .no))) (.alt 17 (.alt 10 (.q 11 (.alt 15 (.q 16 (.alt 18 .done .no)) .no)) .no) .no))) (.alt 17 (.alt 6 (.q 7 (.alt 10 (.q 11 (.alt 15 (.q 16 (.alt 18 .done .no)) .no)) .no)) .no) .no))) (.alt 17 (.alt 2 (.q 3 (.alt 6 (.q 7 (.alt 10 (.q 11 (.alt 15 (.q 16 (.alt 18 .done .no)) .no)) .no)) .no)) .no) .no))))))))))) mixed (by kernel_rfl) (by kernel_rfl) ?_
    conv => whnf
    refine q_index_ptr (size := 1) b0 0 5 0 rfl rfl rfl rfl rfl rfl (by decide) (by decide) ?_
    conv => whnf
    refine ⟨intV n0, block_cells (off := 0) (us := [intV n0, intV n1, intV n2, intV n3, intV n4]) hq0 rfl, ?_⟩
    conv => whnf
    refine q_index_ptr (size := 1) b0 0 5 1 rfl rfl rfl rfl rfl rfl (by decide) (by decide) ?_
    conv => whnf
    refine ⟨intV n1, block_cells (off := 1) (us := [intV n0, intV n1, intV n2, intV n3, intV n4]) hq0 rfl, ?_⟩
    conv => whnf
    refine q_index_ptr (size := 1) b0 0 5 2 rfl rfl rfl rfl rfl rfl (by decide) (by decide) ?_
    conv => whnf
    refine ⟨intV n2, block_cells (off := 2) (us := [intV n0, intV n1, intV n2, intV n3, intV n4]) hq0 rfl, ?_⟩
    conv => whnf
    refine q_index_ptr (size := 1) b0 0 5 4 rfl rfl rfl rfl rfl rfl (by decide) (by decide) ?_
    conv => whnf
    refine ⟨intV n4, block_cells (off := 4) (us := [intV n0, intV n1, intV n2, intV n3, intV n4]) hq0 rfl, ?_⟩
    conv => whnf
    refine ⟨n4 % 4294967296, by rw [wr32], ?_⟩
    conv => whnf
    refine ⟨?_, ?_, trivial⟩
    · conv => whnf
      refine call_con (x := intV (n0 % 6)) rfl (by kernel_rfl) (fun r w' hR => mod_ref n0 6 w' (by decide)) ?_
      conv => whnf
      refine ⟨32 + n0 % 6, wr64 (by omega), ?_⟩
      conv => whnf
      refine ⟨?_, ?_, trivial⟩
      · conv => whnf
        refine call_con (x := intV (n1 % 15)) rfl (by kernel_rfl) (fun r w' hR => mod_ref n1 15 w' (by decide)) ?_
        conv => whnf
        refine ⟨1 + n1 % 15, wr64 (by omega), ?_⟩
        conv => whnf
        refine ⟨?_, ?_, trivial⟩
        · conv => whnf
          refine call_con (x := intV (n2 % 15)) rfl (by kernel_rfl) (fun r w' hR => mod_ref n2 15 w' (by decide)) ?_
          conv => whnf
          refine ⟨1 + n2 % 15, wr64 (by omega), ?_⟩
          conv => whnf
          refine ⟨?_, ?_, trivial⟩
          · conv => whnf
            refine call_con (x := u32V (sgnW (n4 % 4294967296) 18)) rfl (by kernel_rfl) (fun r w' hR => sign_ref (n4 % 4294967296) 18 w' (by unfold word; omega) (by unfold sbits; decide)) ?_
            conv => whnf
            refine ⟨?_, trivial⟩
            conv => whnf
            refine ⟨?_, trivial⟩
            conv => whnf
            exact atq_mid () (ent_same rfl (aI rfl (aI rfl (aI rfl (aI rfl trivial)))) (aI (aI rfl (Or.inl rfl)) trivial))
          · conv => whnf
            refine ⟨?_, trivial⟩
            conv => whnf
            refine call_con (x := u32V (sgnW (n4 % 4294967296) 18)) rfl (by kernel_rfl) (fun r w' hR => sign_ref (n4 % 4294967296) 18 w' (by unfold word; omega) (by unfold sbits; decide)) ?_
            conv => whnf
            refine ⟨?_, trivial⟩
            conv => whnf
            exact atq_mid () (ent_same rfl (aI rfl (aI rfl (aI rfl (aI rfl trivial)))) (aI (aI rfl (Or.inl rfl)) trivial))
        · conv => whnf
          refine ⟨?_, trivial⟩
          conv => whnf
          refine call_con (x := intV (n2 % 15)) rfl (by kernel_rfl) (fun r w' hR => mod_ref n2 15 w' (by decide)) ?_
          conv => whnf
          refine ⟨1 + n2 % 15, wr64 (by omega), ?_⟩
          conv => whnf
          refine ⟨?_, trivial⟩
          conv => whnf
          refine call_con (x := u32V (sgnW (n4 % 4294967296) 18)) rfl (by kernel_rfl) (fun r w' hR => sign_ref (n4 % 4294967296) 18 w' (by unfold word; omega) (by unfold sbits; decide)) ?_
          conv => whnf
          refine ⟨?_, trivial⟩
          conv => whnf
          exact atq_mid () (ent_same rfl (aI rfl (aI rfl (aI rfl (aI rfl trivial)))) (aI (aI rfl (Or.inl rfl)) trivial))
      · conv => whnf
        refine ⟨?_, trivial⟩
        conv => whnf
        refine call_con (x := intV (n1 % 15)) rfl (by kernel_rfl) (fun r w' hR => mod_ref n1 15 w' (by decide)) ?_
        conv => whnf
        refine ⟨1 + n1 % 15, wr64 (by omega), ?_⟩
        conv => whnf
        refine ⟨?_, trivial⟩
        conv => whnf
        refine call_con (x := intV (n2 % 15)) rfl (by kernel_rfl) (fun r w' hR => mod_ref n2 15 w' (by decide)) ?_
        conv => whnf
        refine ⟨1 + n2 % 15, wr64 (by omega), ?_⟩
        conv => whnf
        refine ⟨?_, trivial⟩
        conv => whnf
        refine call_con (x := u32V (sgnW (n4 % 4294967296) 18)) rfl (by kernel_rfl) (fun r w' hR => sign_ref (n4 % 4294967296) 18 w' (by unfold word; omega) (by unfold sbits; decide)) ?_
        conv => whnf
        refine ⟨?_, trivial⟩
        conv => whnf
        exact atq_mid () (ent_same rfl (aI rfl (aI rfl (aI rfl (aI rfl trivial)))) (aI (aI rfl (Or.inl rfl)) trivial))
    · conv => whnf
      refine ⟨?_, trivial⟩
      conv => whnf
      refine call_con (x := intV (n0 % 6)) rfl (by kernel_rfl) (fun r w' hR => mod_ref n0 6 w' (by decide)) ?_
      conv => whnf
      refine ⟨32 + n0 % 6, wr64 (by omega), ?_⟩
      conv => whnf
      refine ⟨?_, trivial⟩
      conv => whnf
      refine call_con (x := intV (n1 % 15)) rfl (by kernel_rfl) (fun r w' hR => mod_ref n1 15 w' (by decide)) ?_
      conv => whnf
      refine ⟨1 + n1 % 15, wr64 (by omega), ?_⟩
      conv => whnf
      refine ⟨?_, trivial⟩
      conv => whnf
      refine call_con (x := intV (n2 % 15)) rfl (by kernel_rfl) (fun r w' hR => mod_ref n2 15 w' (by decide)) ?_
      conv => whnf
      refine ⟨1 + n2 % 15, wr64 (by omega), ?_⟩
      conv => whnf
      refine ⟨?_, trivial⟩
      conv => whnf
      refine call_con (x := u32V (sgnW (n4 % 4294967296) 18)) rfl (by kernel_rfl) (fun r w' hR => sign_ref (n4 % 4294967296) 18 w' (by unfold word; omega) (by unfold sbits; decide)) ?_
      conv => whnf
      refine ⟨?_, trivial⟩
      conv => whnf
      exact atq_mid () (ent_same rfl (aI rfl (aI rfl (aI rfl (aI rfl trivial)))) (aI (aI rfl (Or.inl rfl)) trivial))
  have hqc : [CV.v (intV (32 + n0 % 6)), .v (intV (1 + n1 % 15)), .v (intV (1 + n2 % 15)), .v (intV 0), .v (u32V (sgnW (n4 % 4294967296) 18))] = [.v (intV q.op), .v (intV q.d), .v (intV q.a), .v (intV q.b), .v (u32V q.imm)] := by rw [hq]; rfl
  rw [hqc]
  have hsok : (sinS a b).ok := sin_ok
  refine satq_mid (α := Unit) (fun _ => [(2, one (.bool eq)), (7, one (.bool true)), (8, .p (.c (.ref 7 0))), (9, .p (.c (.ref 0 0)))]) (fun _ => brU (stL (sinS a b) []) M q) ?_ fun _ => ?_
  · refine satq_vcN ?_
    conv => whnf
    refine ⟨[u32V a, u32V b], block_all (us := [u32V a, u32V b]) hq1, rfl, ?_⟩
    conv => whnf
    refine call_single q hqo.op hqo.imm a b ha hb rfl ?_
    rw [← hM]
    conv => whnf
    refine atq_mid () (ent_ren [1, 2, 3, 4, 5, 6, 7, 0] (aI rfl (aI rfl (aI rfl (aI rfl trivial)))) ?_ rfl (br_bnd (stL (sinS a b) []) M q) rfl rfl rfl)
    exact (aI ((Exists.intro _ (aI rfl (aI rfl (Or.inl rfl))))) (aI ((Exists.intro _ (aI rfl (aI rfl (Or.inl rfl))))) (aI ((Exists.intro _ (aI rfl (aI rfl (Or.inl (renL_vals _ _).symm))))) (aI ((Exists.intro _ (aI rfl (aI rfl (Or.inl (renL_vals _ _).symm))))) (aI ((Exists.intro _ (aI rfl (aI rfl (Or.inl (renL_vals _ _).symm))))) (aI ((Exists.intro _ (aI rfl (aI rfl (Or.inl (renL_vals _ _).symm))))) (aI ((Exists.intro _ (aI rfl (aI rfl (Or.inl (renL_vals _ _).symm))))) (aI ((Exists.intro _ (aI rfl (aI rfl (Or.inl rfl))))) trivial))))))))
  have hMk : M.ok 1536 6 := hM ▸ sinM_ok
  refine satq_mid (α := { s : St // s.ok ∧ s.pc = 256 ∧ s.steps = 0 }) (fun _ => [(7, one (.bool true)), (9, .p (.c (.ref 0 0)))]) (fun x => cpuU 0 (stL x.1 []) 1536 6 M) ?_ fun x => ?_
  · refine satq_seqN ?_
    conv => whnf
    refine satq_cond rfl (fun _ => ?_) (fun _ => ?_)
    · obtain ⟨X, hX⟩ : ∃ X, X = stC (sinS a b) [] ++ [.ref 1 0] := ⟨_, rfl⟩
      have hXl : X.length = 25 := by rw [hX]; rfl
      refine satq_as (f' := [(7, one (.bool true)), (8, .p (.c (.ref 7 0))), (9, .p (.c (.ref 0 0)))]) (S' := .cells cpuT X :: (memS 1 1536 6 M ++ ([.cells qiT [.v (intV q.op), .v (intV q.d), .v (intV q.a), .v (intV q.b), .v (u32V q.imm)]] : List Ow))) (ent_same rfl (aI rfl (aI rfl (aI rfl trivial))) (aI ((aI rfl (Or.inl (by rw [hX])))) (aI (aI rfl (Or.inl rfl)) (aI (aI rfl (Or.inl rfl)) (aI (aI rfl (Or.inl rfl)) (aI (aI rfl (Or.inl rfl)) (aI (aI rfl (Or.inl rfl)) (aI (aI rfl (Or.inl rfl)) (aI (aI rfl (Or.inl rfl)) trivial))))))))) ?_
      refine satq_vcN ?_
      conv => whnf
      refine sat_tail 15 mixed (by kernel_rfl) ?_
      conv => whnf
      (refine ⟨⟨by omega, by omega⟩, ?_⟩; (conv=>whnf))
      erw [cpu_getR hX (j := q.d) (by omega) (by omega)]
      conv => whnf
      (refine ⟨⟨by omega, by omega⟩, ?_⟩; (conv=>whnf))
      erw [len_ble X hXl (m := 0 + 1 + q.a.toNat * 1 + 1) (by omega)]
      conv => whnf
      erw [len_big X hXl (by omega)]
      conv => whnf
      refine atq_mid ⟨_, st_ok_set hsok (j := q.a) (x := (sinS a b).R q.d) (by omega) (hsok.reg q.d (by omega) (by omega)), rfl, rfl⟩ (ent_drop (aI rfl (aI rfl trivial)) (aI ((aI rfl (Or.inl (cpu_set2 (j := q.a) _ hX (by omega) (by omega))))) (aI (aI rfl (Or.inl rfl)) (aI (aI rfl (Or.inl rfl)) (aI (aI rfl (Or.inl rfl)) (aI (aI rfl (Or.inl rfl)) (aI (aI rfl (Or.inl rfl)) (aI (aI rfl (Or.inl rfl)) trivial))))))) rfl (cpu_grp _ 1536 6 M))
    · refine satq_skip (atq_mid ⟨sinS a b, hsok, rfl, rfl⟩ (ent_drop (aI rfl (aI rfl trivial)) (aI (aI rfl (Or.inl rfl)) (aI (aI rfl (Or.inl rfl)) (aI (aI rfl (Or.inl rfl)) (aI (aI rfl (Or.inl rfl)) (aI (aI rfl (Or.inl rfl)) (aI (aI rfl (Or.inl rfl)) (aI (aI rfl (Or.inl rfl)) trivial))))))) rfl (cpu_grp (stL (sinS a b) []) 1536 6 M)))
  obtain ⟨s, hsk, hpc, hs0⟩ := x
  dsimp only
  have hst : s.steps < 1000000 := by rw [hs0]; decide
  obtain ⟨hr1, hr2⟩ := br_run hpc hrd hqop 5
  obtain ⟨L, hL⟩ : ∃ L, L = stL s [] := ⟨_, rfl⟩
  rw [← hL]
  have hmem : ∀ T : List Ow, ∀ i, i < 6 → (cpuU 0 L 1536 6 M ++ T)[1 + i]? = (memS 1 1536 6 M)[i]? := fun T => cpu_mem L 1536 6 M T
  obtain ⟨b1, hb1⟩ : ∃ b1, b1 = liftM M s.pc 5 := ⟨_, rfl⟩
  have hb2 := hb1
  rw [hpc] at hb2
  have hLl : L.length = 24 := by rw [hL]; rfl
  have hMat : ∀ X : List CV, (L.map CV.v ++ X)[24 + 0]? = X[0]? := fun X => cpu_at hLl X 0
  refine satq_seqN ?_
  conv => whnf
  erw [cpu_at hLl [.ref (0 + 1) 0] 0]
  conv => whnf
  refine call_lifted 1 1536 6 M 256 5 (fun i hi => by have := hmem [] i hi; rwa [List.append_nil] at this) hMk (by decide) (by unfold word; decide) ?_
  rw [← hb2]
  conv => whnf
  refine satq_seqN ?_
  conv => whnf
  (repeat ((first | refine ⟨fun _ => ?_, nT⟩ | refine ⟨fun _ => ?_, nF⟩ | refine ⟨nF, fun _ => ?_⟩ | refine ⟨nT, fun _ => ?_⟩ | refine ⟨fun _ => ?_, (fun h => absurd h (by decide))⟩ | refine ⟨(fun h => absurd h (by decide)), fun _ => ?_⟩); conv => whnf))
  obtain ⟨Lo, hLo⟩ : ∃ Lo, Lo = outL (outR (runM M s 5)) := ⟨_, rfl⟩
  have hLol : (Lo.map CV.v).length = 32 := by rw [hLo]; rfl
  refine satq_seqN ?_
  conv => whnf
  refine call_agrees 0 1536 6 7 8 9 s M 5 b1 L hb1 hL (fun i hi => ?_) hsk hst hMk (by omega) rfl rfl rfl (by omega) fun s' M' hs' hs'' hM' => ?_
  · rw [Nat.zero_add]
    rcases (by omega : i = 0 ∨ i = 1 ∨ i = 2 ∨ i = 3 ∨ i = 4 ∨ i = 5 ∨ i = 6) with rfl | rfl | rfl | rfl | rfl | rfl | rfl <;> rfl
  rw [← hLo]
  obtain ⟨L2, hL2⟩ : ∃ L2, L2 = stL s' [] := ⟨_, rfl⟩
  rw [← hL2]
  have hLo0 : (Lo.map CV.v)[0]? = some (.v (.bool false)) := by rw [hLo]; show some (CV.v (.bool (runM M s 5).leaves)) = _; rw [hr1]
  have hLo2 : (Lo.map CV.v)[2]? = some (.v (intV 1)) := by rw [hLo]; show some (CV.v (intV ((runM M s 5).done : Int))) = _; rw [hr2]; rfl
  have hLo1 : ∀ S, onesL S (Lo.map CV.v) = true := fun S => hLo ▸ onesL_out S _
  conv => whnf
  erw [beq_len hLol]
  conv => whnf
  erw [hLo1]
  conv => whnf
  erw [hLol]
  conv => whnf
  refine satq_vcN ?_
  conv => whnf
  (repeat ((first | refine ⟨fun _ => ?_, nT⟩ | refine ⟨fun _ => ?_, nF⟩ | refine ⟨nF, fun _ => ?_⟩ | refine ⟨nT, fun _ => ?_⟩ | refine ⟨fun _ => ?_, (fun h => absurd h (by decide))⟩ | refine ⟨(fun h => absurd h (by decide)), fun _ => ?_⟩); conv => whnf))
  erw [setAll_same (m := Lo.map CV.v) (by rw [hLol]; rfl)]
  erw [hLo0]
  conv => whnf
  (repeat ((first | refine ⟨fun _ => ?_, nT⟩ | refine ⟨fun _ => ?_, nF⟩ | refine ⟨nF, fun _ => ?_⟩ | refine ⟨nT, fun _ => ?_⟩ | refine ⟨fun _ => ?_, (fun h => absurd h (by decide))⟩ | refine ⟨(fun h => absurd h (by decide)), fun _ => ?_⟩); conv => whnf))
  erw [hLo2]
  conv => whnf
  (repeat ((first | refine ⟨fun _ => ?_, nT⟩ | refine ⟨fun _ => ?_, nF⟩ | refine ⟨nF, fun _ => ?_⟩ | refine ⟨nT, fun _ => ?_⟩ | refine ⟨fun _ => ?_, (fun h => absurd h (by decide))⟩ | refine ⟨(fun h => absurd h (by decide)), fun _ => ?_⟩); conv => whnf))
  refine atq_ret ?_
  conv => whnf
  exact fin_val rfl fun w3 hB => ⟨rfl, hBB.trans (hB.mono hBB.size)⟩
end Go.Proofs.YtnhdcclpjildjaaGreat
namespace Go.Proofs.YtnhdcclpjildjaaGreat
open Go.ChangeShapes Go.WideShapes Go.ChangeAt Go.RowKit

set_option maxRecDepth 100000 in
theorem qliftBranches_lifted (os : Os) (started : os.Started) (H : Type) (enc : TypeId × Value → H) :
    ReturnsInHanded {} Tryz.checked os 9 .any (Rows.qliftBranchesSpec.pre6 enc Tryz.prog Tryz.f9 Rows.qliftBranchesRow.domain false) (Rows.qliftBranchesSpec.post enc Tryz.prog Tryz.f9 false true false false) := by
  refine returnsInHanded_of_change (C := Tryz.checked) ownK started (by kernel_rfl) Tryz.func9
    (ChangeSpec.witness6 (enc := enc) (C := Tryz.checked) false ⟨#[], #[.agg #[.int .i64 0, .int .i64 0, .int .i64 0, .int .i64 0, .int .i64 0], .agg #[.int .u32 0, .int .u32 0], .bool false], []⟩ 8 (by kernel_rfl) (by kernel_rfl) (by kernel_rfl) (by kernel_rfl)) ?_
  intro W base args ds gs before hval0 hW hcnd _
  have hval : ∀ (j : Nat) t v, Tryz.f9.params[j]? = some t → args[j]? = some v → Value.okWide Tryz.prog W .any base t v := hval0
  have hW' := hW
  obtain ⟨p, q, hA0, hV, rfl, hfz, hnd⟩ := hW
  have hA : DataW.TrodAll enc Tryz.prog W 0 (fun _ => true) true Tryz.f9.params.toList args.toList ds p := hA0
  rw [Tryz.params9] at hA hval
  obtain ⟨v0, vs0, d0, ds0, p0, q0, hargs, rfl, rfl, h0, r0⟩ := trodAll_cons hA
  obtain ⟨v1, vs1, d1, ds1, p1, q1, rfl, rfl, rfl, h1, r1⟩ := trodAll_cons r0
  obtain ⟨v2, vs2, d2, ds2, p2, q2, rfl, rfl, rfl, h2, r2⟩ := trodAll_cons r1
  obtain ⟨rfl, rfl, rfl⟩ := trodAll_nil r2
  obtain rfl : args = #[v0, v1, v2] := by cases args; simp_all
  obtain ⟨rfl, rfl⟩ := trodVars_none hV
  obtain ⟨n0, n1, n2, n3, n4, rfl, _⟩ := open_five (hval 0 58 v0 rfl rfl) h0
  obtain ⟨x0, x1, rfl, hx0, hx1⟩ := open_w2 (hval 1 59 v1 rfl rfl) h1
  obtain ⟨x2, rfl⟩ := okWide_bool Tryz.underlying4 (hval 2 4 v2 rfl rfl)
  have k0 := h0
  have k1 := h1
  have k2 := h2
  have lt0 : ∀ x ∈ p0, x.block < W.heap.size := by obtain ⟨m, hm⟩ := k0; exact DataW.trod_lt m _ _ _ hm
  have lt1 : ∀ x ∈ p1, x.block < W.heap.size := by obtain ⟨m, hm⟩ := k1; exact DataW.trod_lt m _ _ _ hm
  have lt2 : ∀ x ∈ p2, x.block < W.heap.size := by obtain ⟨m, hm⟩ := k2; exact DataW.trod_lt m _ _ _ hm
  clear hA0 hval0
  refine (branches_law n0 n1 n2 n3 n4 x0 x1 x2 hx0 hx1 W).mono fun e W' ⟨he, bel⟩ => ?_
  subst he
  exact ⟨_, rfl, _, _, _, [], _, [], hW', trodAll_mk1 (shut_bool Tryz.underlying4 _), (trodAll_cons_mk (Below.trod laidOutP (by kernel_rfl) (of_decide_eq_true (by kernel_rfl)) k0 bel lt0) (trodAll_cons_mk (Below.trod laidOutP (by kernel_rfl) (of_decide_eq_true (by kernel_rfl)) k1 bel lt1) (trodAll_cons_mk (Below.trod laidOutP (by kernel_rfl) (of_decide_eq_true (by kernel_rfl)) k2 bel lt2) trodAll_mk0))), rfl, bel.frame _, fun h => by cases h⟩
theorem qliftBranches_holds : Rows.QliftBranchesSaid :=
  OpenClaim.holds_of_wide 9 Tryz.f9 rfl rfl rfl rfl rfl rfl rfl ⟨rfl, rfl, rfl, rfl, rfl⟩ rfl rfl rfl rfl rfl (by kernel_rfl) Tryz.func9 (by kernel_rfl)
    (of_decide_eq_true (by kernel_rfl)) (by unfold Func.isWrapper; first | (rw [if_pos (by decide +kernel)]; kernel_rfl) | (rw [if_neg (by decide +kernel)]; exact ⟨rfl, rfl⟩))
    (fun os started H enc _ => qliftBranches_lifted os started H enc)
end Go.Proofs.YtnhdcclpjildjaaGreat
#print axioms Go.Proofs.YtnhdcclpjildjaaGreat.qliftBranches_holds
