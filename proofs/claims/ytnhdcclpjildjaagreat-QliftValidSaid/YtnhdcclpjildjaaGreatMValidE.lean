/- The law's first check: sanity. -/
import Derived.Test.YtnhdcclpjildjaaGreatMValidD
namespace Go.Proofs.YtnhdcclpjildjaaGreat
open Go.RowKit

theorem cpu_grp (us : List Value) (n p : Nat) (M : MemP) : grpOk Gs.nil (cpuU 0 us n p M) = true := by
  show sbnd 7 (cpuU 0 us n p M) = true
  have h : bndL 7 (us.map .v ++ [.ref 1 0]) = true := by
    induction us with
    | nil => rfl
    | cons u us ih => simpa only [List.map_cons, List.cons_append, bndL, CV.bnd] using ih
  simp only [sbnd, Ow.bnd, bndL_vals, bndL, CV.bnd, h]
  rfl
theorem cpu_mem (us : List Value) (n p : Nat) (M : MemP) (T : List Ow) : ∀ i, i < 6 → (cpuU 0 us n p M ++ T)[1 + i]? = (memS 1 n p M)[i]? := fun i hi => by
  rcases (by omega : i = 0 ∨ i = 1 ∨ i = 2 ∨ i = 3 ∨ i = 4 ∨ i = 5) with rfl | rfl | rfl | rfl | rfl | rfl <;> rfl
set_option maxRecDepth 100000 in
set_option maxHeartbeats 8000000 in
theorem sanity14 (w : World) : Calls Tryz.prog 13 #[] w fun e w' => e = .returned (.bool true) ∧ Below w.heap.size w w' := by
  refine calls_satq [] Tryz.func13 Tryz.ntmps13 rfl (by simp) ?_
  refine satq_seqN ?_
  conv => whnf
  refine satq_seqN ?_
  conv => whnf
  refine call_newObjs (xs := [intV ((2 : Nat) : Int)]) (cpuU 0 stZ 512 2 (MemP.zero 2)) (cpuU 0 stZ 512 2 (MemP.zero 2)) rfl (by kernel_rfl) (cpuU_sh 0 stZ 512 2 _) (cpuU_ob stZ 512 2 _) (fun r w hR => cpu_new 2 w (by omega)) ?_
  conv => whnf
  refine satq_seqN ?_
  conv => whnf
  refine satq_seqN ?_
  conv => whnf
  have hz : (MemP.zero 2).ok 512 2 := san_ok
  obtain ⟨M0, hM0⟩ : ∃ M0, M0 = MemP.zero 2 := ⟨_, rfl⟩
  rw [← hM0] at hz ⊢
  refine satq_mid (α := Unit) (fun _ => [(0, one (.bool false)), (1, .p (.c (.ref 0 0))), (3, one (strV (sanS 3)))]) (fun _ => cpuU 0 stZ 512 2 M0) ?_ fun _ => ?_
  · refine satq_seqN ?_
    conv => whnf
    refine satq_block ?_
    refine satq_loop (α := { j : Nat // j ≤ 3 }) (fun x => [(0, one (.bool false)), (1, .p (.c (.ref 0 0))), (2, .p (.c (.sl 7 0 3 3))), (3, one (strV (sanS x.1))), (4, one (intV (x.1 : Int)))]) (fun _ => cpuU 0 stZ 512 2 M0 ++ [Ow.cells qiT ((sanI.flatMap qiL).map .v)]) (fun x => 3 - x.1)
      ⟨0, by omega⟩ (ent_same rfl (aI rfl (aI rfl (aI rfl (aI rfl (aI rfl trivial))))) (aI sM (aI sM (aI sM (aI sM (aI sM (aI sM (aI sM (aI sM trivial))))))))) fun x => ?_
    obtain ⟨j, hj⟩ := x
    dsimp only
    rcases (by omega : j = 0 ∨ j = 1 ∨ j = 2 ∨ j = 3) with rfl | rfl | rfl | rfl
    · refine satq_seqN ?_
      conv => whnf
      (repeat ((first | refine ⟨fun _ => ?_, nT⟩ | refine ⟨fun _ => ?_, nF⟩ | refine ⟨nF, fun _ => ?_⟩ | refine ⟨nT, fun _ => ?_⟩ | refine ⟨fun _ => ?_, (fun h => absurd h (by decide))⟩ | refine ⟨(fun h => absurd h (by decide)), fun _ => ?_⟩); conv => whnf))
      refine satq_in (satq_block ?_)
      refine satq_seqN ?_
      conv => whnf
      refine ⟨⟨by omega, by omega⟩, ?_⟩
      conv => whnf
      refine call_con (x := encV (some 1077936133)) rfl (by kernel_rfl) (fun r w' hR => encode_ref ⟨16, 1, 0, 0, 5⟩ w' ⟨by decide, by decide⟩ (by unfold word; decide)) ?_
      conv => whnf
      refine satq_vcN ?_
      conv => whnf
      refine call_con (x := strV (putL 1077936133)) rfl (by kernel_rfl) (fun r w' hR => put_walk 1077936133 w' (by unfold word; decide)) ?_
      conv => whnf
      refine q_cat_str (sanS 0) (putL 1077936133) rfl rfl rfl (by decide) ?_
      conv => whnf
      refine atq_block (atq_on ?_)
      refine satq_vcN ?_
      conv => whnf
      refine ⟨1, by rw [wr64] <;> decide, ?_⟩
      conv => whnf
      exact atq_next ⟨1, by omega⟩ (ent_same rfl (aI rfl (aI rfl (aI rfl (aI rfl (aI rfl trivial))))) (aI sM (aI sM (aI sM (aI sM (aI sM (aI sM (aI sM (aI sM trivial))))))))) (by dsimp only; decide)
    · refine satq_seqN ?_
      conv => whnf
      (repeat ((first | refine ⟨fun _ => ?_, nT⟩ | refine ⟨fun _ => ?_, nF⟩ | refine ⟨nF, fun _ => ?_⟩ | refine ⟨nT, fun _ => ?_⟩ | refine ⟨fun _ => ?_, (fun h => absurd h (by decide))⟩ | refine ⟨(fun h => absurd h (by decide)), fun _ => ?_⟩); conv => whnf))
      refine satq_in (satq_block ?_)
      refine satq_seqN ?_
      conv => whnf
      refine ⟨⟨by omega, by omega⟩, ?_⟩
      conv => whnf
      refine call_con (x := encV (some 2152202243)) rfl (by kernel_rfl) (fun r w' hR => encode_ref ⟨32, 1, 2, 0, 3⟩ w' ⟨by decide, by decide⟩ (by unfold word; decide)) ?_
      conv => whnf
      refine satq_vcN ?_
      conv => whnf
      refine call_con (x := strV (putL 2152202243)) rfl (by kernel_rfl) (fun r w' hR => put_walk 2152202243 w' (by unfold word; decide)) ?_
      conv => whnf
      refine q_cat_str (sanS 1) (putL 2152202243) rfl rfl rfl (by decide) ?_
      conv => whnf
      refine atq_block (atq_on ?_)
      refine satq_vcN ?_
      conv => whnf
      refine ⟨2, by rw [wr64] <;> decide, ?_⟩
      conv => whnf
      exact atq_next ⟨2, by omega⟩ (ent_same rfl (aI rfl (aI rfl (aI rfl (aI rfl (aI rfl trivial))))) (aI sM (aI sM (aI sM (aI sM (aI sM (aI sM (aI sM (aI sM trivial))))))))) (by dsimp only; decide)
    · refine satq_seqN ?_
      conv => whnf
      (repeat ((first | refine ⟨fun _ => ?_, nT⟩ | refine ⟨fun _ => ?_, nF⟩ | refine ⟨nF, fun _ => ?_⟩ | refine ⟨nT, fun _ => ?_⟩ | refine ⟨fun _ => ?_, (fun h => absurd h (by decide))⟩ | refine ⟨(fun h => absurd h (by decide)), fun _ => ?_⟩); conv => whnf))
      refine satq_in (satq_block ?_)
      refine satq_seqN ?_
      conv => whnf
      refine ⟨⟨by omega, by omega⟩, ?_⟩
      conv => whnf
      refine call_con (x := encV (some 3355443200)) rfl (by kernel_rfl) (fun r w' hR => encode_ref ⟨50, 0, 0, 0, 0⟩ w' ⟨by decide, by decide⟩ (by unfold word; decide)) ?_
      conv => whnf
      refine satq_vcN ?_
      conv => whnf
      refine call_con (x := strV (putL 3355443200)) rfl (by kernel_rfl) (fun r w' hR => put_walk 3355443200 w' (by unfold word; decide)) ?_
      conv => whnf
      refine q_cat_str (sanS 2) (putL 3355443200) rfl rfl rfl (by decide) ?_
      conv => whnf
      refine atq_block (atq_on ?_)
      refine satq_vcN ?_
      conv => whnf
      refine ⟨3, by rw [wr64] <;> decide, ?_⟩
      conv => whnf
      exact atq_next ⟨3, by omega⟩ (ent_same rfl (aI rfl (aI rfl (aI rfl (aI rfl (aI rfl trivial))))) (aI sM (aI sM (aI sM (aI sM (aI sM (aI sM (aI sM (aI sM trivial))))))))) (by dsimp only; decide)
    · refine satq_seqN ?_
      conv => whnf
      (repeat ((first | refine ⟨fun _ => ?_, nT⟩ | refine ⟨fun _ => ?_, nF⟩ | refine ⟨nF, fun _ => ?_⟩ | refine ⟨nT, fun _ => ?_⟩ | refine ⟨fun _ => ?_, (fun h => absurd h (by decide))⟩ | refine ⟨(fun h => absurd h (by decide)), fun _ => ?_⟩); conv => whnf))
      exact atq_out (atq_exit (atq_mid () (ent_drop (aI rfl (aI rfl (aI rfl trivial))) (aI sM (aI sM (aI sM (aI sM (aI sM (aI sM (aI sM trivial))))))) rfl (cpu_grp stZ 512 2 M0))))
  obtain ⟨M1, hM1⟩ : ∃ M1, M1 = M0.codeTo 1 (sanS 3) (min (sanS 3).length 256) := ⟨_, rfl⟩
  obtain ⟨M2, hM2⟩ : ∃ M2, M2 = M1.protect 1 4 := ⟨_, rfl⟩
  have hsb : ∀ x ∈ sanS 3, 0 ≤ x ∧ x < 256 := by decide
  have hk1 : M1.ok 512 2 := by rw [hM1]; exact codeTo_ok hz 1 hsb _
  have hk2 : M2.ok 512 2 := by rw [hM2]; exact protect_ok hk1 1 (by decide)
  have hsan : M2 = sanM := by rw [hM2, hM1, hM0]; kernel_rfl
  have hl1 : liftM M2 256 64 = sanB1 := by rw [hsan]; exact san_lift1
  have hl2 : liftM M2 256 1 = sanB2 := by rw [hsan]; exact san_lift2
  have hl3 : liftM M2 264 9 = sanB3 := by rw [hsan]; exact san_lift3
  refine satq_mid (α := Unit) (fun _ => [(0, one (.bool false)), (1, .p (.c (.ref 0 0)))]) (fun _ => cpuU 0 stZ 512 2 M1) ?_ fun _ => ?_
  · refine satq_vcN ?_
    conv => whnf
    refine call_memW (pre := []) (suf := [one (intV 1), one (strV (sanS 3))]) 1 512 2 M0 M1 (.tuple #[]) (fun i hi => by have := cpu_mem stZ 512 2 M0 [] i hi; rwa [List.append_nil] at this) rfl rfl (by kernel_rfl) (fun w g gs hk hU => by rw [hM1]; exact mem_setCode M0 512 2 1 (sanS 3) w g gs hU hz (by decide) hsb (by decide)) ?_
    conv => whnf
    exact atq_mid () (ent_same rfl (aI rfl (aI rfl trivial)) (aI sM (aI sM (aI sM (aI sM (aI sM (aI sM (aI sM trivial))))))))
  refine satq_mid (α := Unit) (fun _ => [(0, one (.bool false)), (1, .p (.c (.ref 0 0)))]) (fun _ => cpuU 0 stZ 512 2 M2) ?_ fun _ => ?_
  · refine satq_vcN ?_
    conv => whnf
    refine call_memW (pre := []) (suf := [one (intV 1), one (intV 4)]) 1 512 2 M1 M2 (.tuple #[]) (fun i hi => by have := cpu_mem stZ 512 2 M1 [] i hi; rwa [List.append_nil] at this) rfl rfl (by kernel_rfl) (fun w g gs hk hU => by rw [hM2]; exact mem_protect M1 512 2 1 4 w g gs hU hk1 (by decide) (by decide) (by decide)) ?_
    conv => whnf
    exact atq_mid () (ent_same rfl (aI rfl (aI rfl trivial)) (aI sM (aI sM (aI sM (aI sM (aI sM (aI sM (aI sM trivial))))))))
  refine satq_mid (α := Unit) (fun _ => [(0, one (.bool false)), (1, .p (.c (.ref 0 0)))]) (fun _ => cpuU 0 (u32V 256 :: stZ.tail) 512 2 M2) ?_ fun _ => ?_
  · refine satq_vcN ?_
    conv => whnf
    exact atq_mid () (ent_same rfl (aI rfl (aI rfl trivial)) (aI sM (aI sM (aI sM (aI sM (aI sM (aI sM (aI sM trivial))))))))
  refine satq_seqN ?_
  conv => whnf
  refine call_lifted 1 512 2 M2 256 64 (fun i hi => by have := cpu_mem (u32V 256 :: stZ.tail) 512 2 M2 [] i hi; rwa [List.append_nil] at this) hk2 (by decide) (by unfold word; decide) ?_
  rw [hl1]
  conv => whnf
  refine satq_seqN ?_
  conv => whnf
  refine call_lifted 1 512 2 M2 256 1 (cpu_mem (u32V 256 :: stZ.tail) 512 2 M2 _) hk2 (by decide) (by unfold word; decide) ?_
  rw [hl2]
  conv => whnf
  refine satq_seqN ?_
  conv => whnf
  refine call_lifted 1 512 2 M2 264 9 (cpu_mem (u32V 256 :: stZ.tail) 512 2 M2 _) hk2 (by decide) (by unfold word; decide) ?_
  rw [hl3]
  conv => whnf
  refine satq_seqN ?_
  conv => whnf
  (repeat ((first | refine ⟨fun _ => ?_, nT⟩ | refine ⟨fun _ => ?_, nF⟩ | refine ⟨nF, fun _ => ?_⟩ | refine ⟨nT, fun _ => ?_⟩ | refine ⟨fun _ => ?_, (fun h => absurd h (by decide))⟩ | refine ⟨(fun h => absurd h (by decide)), fun _ => ?_⟩); conv => whnf))
  have hb1 : sanB1.ok := hl1 ▸ (liftM_ok hk2 256 64).1
  have he1 : (evalBlk sanB1 zeros28 M2).out = ⟨false, 0, 2, 264, sanV⟩ := by rw [hsan]; exact san_eval1
  have hm1 : (evalBlk sanB1 zeros28 M2).mem = M2 := by rw [hsan]; exact san_mem1
  have hb2 : sanB2.ok := hl2 ▸ (liftM_ok hk2 256 1).1
  have he2 : (evalBlk sanB2 zeros28 M2).out = ⟨false, 0, 1, 260, sanV⟩ := by rw [hsan]; exact san_eval2
  have hm2 : (evalBlk sanB2 zeros28 M2).mem = M2 := by rw [hsan]; exact san_mem2
  have hb3 : sanB3.ok := hl3 ▸ (liftM_ok hk2 264 9).1
  have he3 : (evalBlk sanB3 zeros28 M2).out = ⟨true, 0, 0, 264, zeros28⟩ := by rw [hsan]; exact san_eval3
  have hm3 : (evalBlk sanB3 zeros28 M2).mem = M2 := by rw [hsan]; exact san_mem3
  clear hl1 hl2 hl3 hsan hM2 hM1 hM0 hsb hk1 hz
  refine satq_mid (α := Unit) (fun _ => [(0, one (.bool false)), (1, .p (.c (.ref 0 0))), (7, .p (.c (.ref 10 0))), (9, .p (.c (.ref 14 0))), (11, .p (.c (.ref 18 0))), (13, .p (.c (.ref 19 0)))]) (fun _ => cpuU 0 (u32V 256 :: stZ.tail) 512 2 M2 ++ blkRows sanB1 ++ [Ow.cells blT [.row 7, .row 8, .row 9]] ++ blkRows sanB2 ++ [Ow.cells blT [.row 11, .row 12, .row 13]] ++ blkRows sanB3 ++ [Ow.cells blT [.row 15, .row 16, .row 17]] ++ [Ow.cells 55 ((outL ⟨false, 0, 2, 264, sanV⟩).map .v)]) ?_ fun _ => ?_
  · refine satq_vcN ?_
    conv => whnf
    refine sat_anyG (.q 1 (.q 2 (.q 3 (.q 4 (.alt 0 (.alt 5 (.alt 6 (.alt 7 (.alt 8 .done .no) .no) (.alt 7 (.alt 6 (.alt 8 .done .no) .no) .no)) (.alt 7 (.alt 5 (.alt 6 (.alt 8 .done .no) .no) .no) .no)) (.alt 5 (.alt 0 (.alt 6 (.alt 7 (.alt 8 .done .no) .no) (.alt 7 (.alt 6 (.alt 8 .done .no) .no) .no)) (.alt 7 (.alt 0 (.alt 6 (.alt 8 .done .no) .no) .no) .no)) (.alt 7 (.alt 0 (.alt 5 (.alt 6 (.alt 8 .done .no) .no) .no) (.alt 5 (.alt 0 (.alt 6 (.alt 8 .done .no) .no) .no) .no)) .no))))))) mixed (by kernel_rfl) (by kernel_rfl) ?_
    conv => whnf
    repeat' (first
      | exact atq_mid () (ent_same rfl (aI rfl (aI rfl (aI rfl (aI rfl (aI rfl (aI rfl trivial)))))) (aI sM (aI sM (aI sM (aI sM (aI sM (aI sM (aI sM (aI ((aI rfl (aI rfl (aI rfl rfl)))) (aI ((aI rfl (aI rfl (aI rfl rfl)))) (aI ((aI rfl (aI rfl (aI rfl rfl)))) (aI sM (aI ((aI rfl (aI rfl (aI rfl rfl)))) (aI ((aI rfl (aI rfl (aI rfl rfl)))) (aI ((aI rfl (aI rfl (aI rfl rfl)))) (aI sM (aI ((aI rfl (aI rfl (aI rfl rfl)))) (aI ((aI rfl (aI rfl (aI rfl rfl)))) (aI ((aI rfl (aI rfl (aI rfl rfl)))) (aI sM (aI sM trivial)))))))))))))))))))))
      | (refine call_eval 1 512 2 7 8 9 sanB1 zeros28 M2 rfl (fun i hi => by rcases (by omega : i = 0 ∨ i = 1 ∨ i = 2 ∨ i = 3 ∨ i = 4 ∨ i = 5) with rfl | rfl | rfl | rfl | rfl | rfl <;> rfl) hk2 hb1 rfl zeros_ok rfl rfl rfl ⟨by decide, by decide, by decide⟩ ?_; rw [he1, hm1]; conv => whnf)
      | (refine ⟨?_, trivial⟩; conv => whnf)
      | (refine ⟨?_, ?_, trivial⟩ <;> conv => whnf)
      | (refine ⟨?_, ?_, ?_, trivial⟩ <;> conv => whnf))
  refine satq_mid (α := Unit) (fun _ => [(0, one (.bool false)), (1, .p (.c (.ref 0 0))), (7, .p (.c (.ref 10 0))), (9, .p (.c (.ref 14 0))), (11, .p (.c (.ref 18 0))), (13, .p (.c (.ref 19 0))), (14, .p (.c (.ref 20 0)))]) (fun _ => cpuU 0 (u32V 256 :: stZ.tail) 512 2 M2 ++ blkRows sanB1 ++ [Ow.cells blT [.row 7, .row 8, .row 9]] ++ blkRows sanB2 ++ [Ow.cells blT [.row 11, .row 12, .row 13]] ++ blkRows sanB3 ++ [Ow.cells blT [.row 15, .row 16, .row 17]] ++ [Ow.cells 55 ((outL ⟨false, 0, 2, 264, sanV⟩).map .v)] ++ [Ow.cells 55 ((outL ⟨false, 0, 1, 260, sanV⟩).map .v)]) ?_ fun _ => ?_
  · refine satq_vcN ?_
    conv => whnf
    refine sat_anyG (.q 1 (.q 2 (.q 3 (.q 4 (.alt 0 (.alt 5 (.alt 6 (.alt 7 (.alt 8 .done .no) .no) (.alt 7 (.alt 6 (.alt 8 .done .no) .no) .no)) (.alt 7 (.alt 5 (.alt 6 (.alt 8 .done .no) .no) .no) .no)) (.alt 5 (.alt 0 (.alt 6 (.alt 7 (.alt 8 .done .no) .no) (.alt 7 (.alt 6 (.alt 8 .done .no) .no) .no)) (.alt 7 (.alt 0 (.alt 6 (.alt 8 .done .no) .no) .no) .no)) (.alt 7 (.alt 0 (.alt 5 (.alt 6 (.alt 8 .done .no) .no) .no) (.alt 5 (.alt 0 (.alt 6 (.alt 8 .done .no) .no) .no) .no)) .no))))))) mixed (by kernel_rfl) (by kernel_rfl) ?_
    conv => whnf
    repeat' (first
      | exact atq_mid () (ent_same rfl (aI rfl (aI rfl (aI rfl (aI rfl (aI rfl (aI rfl (aI rfl trivial))))))) (aI sM (aI sM (aI sM (aI sM (aI sM (aI sM (aI sM (aI ((aI rfl (aI rfl (aI rfl rfl)))) (aI ((aI rfl (aI rfl (aI rfl rfl)))) (aI ((aI rfl (aI rfl (aI rfl rfl)))) (aI sM (aI ((aI rfl (aI rfl (aI rfl rfl)))) (aI ((aI rfl (aI rfl (aI rfl rfl)))) (aI ((aI rfl (aI rfl (aI rfl rfl)))) (aI sM (aI ((aI rfl (aI rfl (aI rfl rfl)))) (aI ((aI rfl (aI rfl (aI rfl rfl)))) (aI ((aI rfl (aI rfl (aI rfl rfl)))) (aI sM (aI sM (aI sM trivial))))))))))))))))))))))
      | (refine call_eval 1 512 2 11 12 13 sanB2 zeros28 M2 rfl (fun i hi => by rcases (by omega : i = 0 ∨ i = 1 ∨ i = 2 ∨ i = 3 ∨ i = 4 ∨ i = 5) with rfl | rfl | rfl | rfl | rfl | rfl <;> rfl) hk2 hb2 rfl zeros_ok rfl rfl rfl ⟨by decide, by decide, by decide⟩ ?_; rw [he2, hm2]; conv => whnf)
      | (refine ⟨?_, trivial⟩; conv => whnf)
      | (refine ⟨?_, ?_, trivial⟩ <;> conv => whnf)
      | (refine ⟨?_, ?_, ?_, trivial⟩ <;> conv => whnf))
  refine satq_mid (α := Unit) (fun _ => [(0, one (.bool false)), (1, .p (.c (.ref 0 0))), (7, .p (.c (.ref 10 0))), (9, .p (.c (.ref 14 0))), (11, .p (.c (.ref 18 0))), (13, .p (.c (.ref 19 0))), (14, .p (.c (.ref 20 0))), (15, .p (.c (.ref 21 0)))]) (fun _ => cpuU 0 (u32V 256 :: stZ.tail) 512 2 M2 ++ blkRows sanB1 ++ [Ow.cells blT [.row 7, .row 8, .row 9]] ++ blkRows sanB2 ++ [Ow.cells blT [.row 11, .row 12, .row 13]] ++ blkRows sanB3 ++ [Ow.cells blT [.row 15, .row 16, .row 17]] ++ [Ow.cells 55 ((outL ⟨false, 0, 2, 264, sanV⟩).map .v)] ++ [Ow.cells 55 ((outL ⟨false, 0, 1, 260, sanV⟩).map .v)] ++ [Ow.cells 55 ((outL ⟨true, 0, 0, 264, zeros28⟩).map .v)]) ?_ fun _ => ?_
  · refine satq_vcN ?_
    conv => whnf
    refine sat_anyG (.q 1 (.q 2 (.q 3 (.q 4 (.alt 0 (.alt 5 (.alt 6 (.alt 7 (.alt 8 .done .no) .no) (.alt 7 (.alt 6 (.alt 8 .done .no) .no) .no)) (.alt 7 (.alt 5 (.alt 6 (.alt 8 .done .no) .no) .no) .no)) (.alt 5 (.alt 0 (.alt 6 (.alt 7 (.alt 8 .done .no) .no) (.alt 7 (.alt 6 (.alt 8 .done .no) .no) .no)) (.alt 7 (.alt 0 (.alt 6 (.alt 8 .done .no) .no) .no) .no)) (.alt 7 (.alt 0 (.alt 5 (.alt 6 (.alt 8 .done .no) .no) .no) (.alt 5 (.alt 0 (.alt 6 (.alt 8 .done .no) .no) .no) .no)) .no))))))) mixed (by kernel_rfl) (by kernel_rfl) ?_
    conv => whnf
    repeat' (first
      | exact atq_mid () (ent_same rfl (aI rfl (aI rfl (aI rfl (aI rfl (aI rfl (aI rfl (aI rfl (aI rfl trivial)))))))) (aI sM (aI sM (aI sM (aI sM (aI sM (aI sM (aI sM (aI ((aI rfl (aI rfl (aI rfl rfl)))) (aI ((aI rfl (aI rfl (aI rfl rfl)))) (aI ((aI rfl (aI rfl (aI rfl rfl)))) (aI sM (aI ((aI rfl (aI rfl (aI rfl rfl)))) (aI ((aI rfl (aI rfl (aI rfl rfl)))) (aI ((aI rfl (aI rfl (aI rfl rfl)))) (aI sM (aI ((aI rfl (aI rfl (aI rfl rfl)))) (aI ((aI rfl (aI rfl (aI rfl rfl)))) (aI ((aI rfl (aI rfl (aI rfl rfl)))) (aI sM (aI sM (aI sM (aI sM trivial)))))))))))))))))))))))
      | (refine call_eval 1 512 2 15 16 17 sanB3 zeros28 M2 rfl (fun i hi => by rcases (by omega : i = 0 ∨ i = 1 ∨ i = 2 ∨ i = 3 ∨ i = 4 ∨ i = 5) with rfl | rfl | rfl | rfl | rfl | rfl <;> rfl) hk2 hb3 rfl zeros_ok rfl rfl rfl ⟨by decide, by decide, by decide⟩ ?_; rw [he3, hm3]; conv => whnf)
      | (refine ⟨?_, trivial⟩; conv => whnf)
      | (refine ⟨?_, ?_, trivial⟩ <;> conv => whnf)
      | (refine ⟨?_, ?_, ?_, trivial⟩ <;> conv => whnf))
  refine satq_vcN ?_
  conv => whnf
  (repeat ((first | refine ⟨fun _ => ?_, nT⟩ | refine ⟨fun _ => ?_, nF⟩ | refine ⟨nF, fun _ => ?_⟩ | refine ⟨nT, fun _ => ?_⟩ | refine ⟨fun _ => ?_, (fun h => absurd h (by decide))⟩ | refine ⟨(fun h => absurd h (by decide)), fun _ => ?_⟩); conv => whnf))
  refine ⟨by decide, ?_⟩
  conv => whnf
  (repeat ((first | refine ⟨fun _ => ?_, nT⟩ | refine ⟨fun _ => ?_, nF⟩ | refine ⟨nF, fun _ => ?_⟩ | refine ⟨nT, fun _ => ?_⟩ | refine ⟨fun _ => ?_, (fun h => absurd h (by decide))⟩ | refine ⟨(fun h => absurd h (by decide)), fun _ => ?_⟩); conv => whnf))
  refine atq_ret ?_
  conv => whnf
  exact fin_val rfl fun w2 hB => ⟨rfl, hB⟩
end Go.Proofs.YtnhdcclpjildjaaGreat
namespace Go.Proofs.YtnhdcclpjildjaaGreat
open Go.RowKit

theorem call_ex {P : Program} {w0 : World} {G : Gs} {fid : FuncId} {args : List AV} {xs : List Value} {S : List Ow} {K : AV → List Ow → Prop} (post : Value → Prop) (hx : avals args = some xs) (hok : fnOk P fid = true)
    (h : ∀ r w, Rel w0 G S r w → Calls P fid xs.toArray w fun e w' => ∃ v, e = .returned v ∧ post v ∧ Below w.heap.size w w') (hK : ∀ v, post v → K (AV.of v) S) : CallS P w0 G fid args S K := by
  refine ⟨hok, fun r w us hR hd => ?_⟩
  obtain rfl := avals_den hx hd
  exact (h r w hR).mono fun e w' ⟨v, he, hp, hB⟩ => ⟨_, v, S, r, he, AV.of_den r v, hR.below hB, Env.le.refl r, hK v hp⟩
end Go.Proofs.YtnhdcclpjildjaaGreat
namespace Go.Proofs.YtnhdcclpjildjaaGreat
open Go.RowKit

theorem ex_gen {p : Int → Prop} {a : Int} (h : ∀ m, a = m → p m) : ∃ m, a = m ∧ p m := ⟨a, rfl, h a rfl⟩
def QI.fair (i : QI) : Prop := (0 ≤ i.op ∧ i.op < 64) ∧ word i.imm
set_option maxRecDepth 100000 in
set_option maxHeartbeats 2000000 in
theorem tame_walk (i : QI) (k : Int) (w : World) (hi : i.fair) : Calls Tryz.prog 65 #[qiV i, intV k] w fun e w' => ∃ v, e = .returned v ∧ (∃ j : QI, v = qiV j ∧ j.fair) ∧ Below w.heap.size w w' := by
  have hw1 := hi.2
  unfold word at hw1
  obtain ⟨im, him, him2⟩ : ∃ im, i.imm.tmod 64 = im ∧ word im := ⟨i.imm % 64, Int.tmod_eq_emod_of_nonneg hw1.1, by unfold word; omega⟩
  refine calls_satq [qiV i, intV k] Tryz.func65 Tryz.ntmps65 rfl (by simp) ?_
  refine satq_seqN ?_
  conv => whnf
  refine satq_mid (α := { j : QI // j.fair }) (fun _ => [(2, .p (.c (.ref 0 0))), (4, .p (.c (.ref 1 0)))]) (fun x => [Ow.cells qiT ((qiL x.1).map .v), Ow.cells qiT ((qiL QI.zero).map .v)]) ?_ fun x => ?_
  · refine satq_vcN ?_
    conv => whnf
    have w32 : ∀ x, word (IntKind.u32.wrap x) := fun x => by rw [wr32]; unfold word; omega
    repeat' (first
      | exact atq_mid (⟨i, hi⟩ : { j : QI // j.fair }) (ent_same rfl (aI rfl (aI rfl trivial)) (aI sM (aI sM trivial)))
      | exact atq_mid ⟨⟨i.op, i.d, _, i.b, im⟩, hi.1, him2⟩ (ent_same rfl (aI rfl (aI rfl trivial)) (aI sM (aI sM trivial)))
      | (rename_i m hm; exact atq_mid ⟨⟨i.op, i.d, _, i.b, m⟩, hi.1, hm ▸ w32 _⟩ (ent_same rfl (aI rfl (aI rfl trivial)) (aI sM (aI sM trivial))))
      | (rename_i m hm; exact atq_mid (⟨⟨i.op, i.d, m, i.b, i.imm⟩, ⟨hi.1, hi.2⟩⟩ : { j : QI // j.fair }) (ent_same rfl (aI rfl (aI rfl trivial)) (aI sM (aI sM trivial))))
      | exact atq_mid (⟨⟨i.op, i.d, 4, i.b, i.imm⟩, ⟨hi.1, hi.2⟩⟩ : { j : QI // j.fair }) (ent_same rfl (aI rfl (aI rfl trivial)) (aI sM (aI sM trivial)))
      | (refine call_con rfl (by kernel_rfl) (fun r w' hR => mod_ref k _ w' (by decide)) ?_; conv => whnf)
      | (refine ⟨fun _ => ?_, nT⟩; (conv=>whnf)) | (refine ⟨fun _ => ?_, nF⟩; (conv=>whnf)) | (refine ⟨nF, fun _ => ?_⟩; (conv=>whnf)) | (refine ⟨nT, fun _ => ?_⟩; (conv=>whnf))
      | (refine ⟨fun hc => ?_, fun hc => ?_⟩ <;> conv => whnf)
      | (refine ex_gen fun m hm => ?_; conv => whnf)
      | (refine ⟨by decide, im, him, ?_⟩; conv => whnf))
  obtain ⟨j, hj⟩ := x
  dsimp only
  refine satq_vcN ?_
  conv => whnf
  refine atq_ret ?_
  conv => whnf
  exact fin_val rfl fun w2 hB => ⟨_, rfl, ⟨j, rfl, hj⟩, hB⟩
end Go.Proofs.YtnhdcclpjildjaaGreat
namespace Go.Proofs.YtnhdcclpjildjaaGreat
open Go.RowKit

set_option maxRecDepth 100000 in
set_option maxHeartbeats 2000000 in
theorem words_walk (w : World) (A : Option Addr) (n c : Nat) (_hn : n < 9223372036854775808) (hA : ProgAt w A n) : Calls Tryz.prog 37 #[.slice A n c] w fun e w' => ∃ v, e = .returned v ∧ (∃ l : List Int, v = strV l ∧ l.length ≤ 400 ∧ ∀ x ∈ l, 0 ≤ x ∧ x < 256) ∧ Below w.heap.size w w' := by
  refine calls_satq [.slice A n c] Tryz.func37 Tryz.ntmps37 rfl (by simp) ?_
  refine satq_seqN ?_
  conv => whnf
  refine satq_seqN ?_
  conv => whnf
  refine satq_mid (α := { l : List Int // l.length ≤ 400 ∧ ∀ x ∈ l, 0 ≤ x ∧ x < 256 }) (fun x => [(3, one (strV x.1))]) (fun _ => []) ?_ fun x => ?_
  · refine satq_seqN ?_
    conv => whnf
    refine satq_block ?_
    refine satq_loop (α := { x : Nat × List Int // x.1 ≤ 100 ∧ x.1 ≤ n ∧ x.2.length = 4 * x.1 ∧ ∀ y ∈ x.2, 0 ≤ y ∧ y < 256 }) (fun x => [(0, one (.slice A n c)), (3, one (strV x.1.2)), (4, one (intV (x.1.1 : Int)))]) (fun _ => []) (fun x => 100 - x.1.1)
      ⟨(0, []), by simp⟩ (ent_same rfl (aI rfl (aI rfl (aI rfl trivial))) trivial) fun x => ?_
    obtain ⟨⟨j, l⟩, hj, hjn, hl, hb⟩ := x
    dsimp only at hj hjn hl hb ⊢
    have hout : ¬ (j < n ∧ j < 100) → l.length ≤ 400 ∧ ∀ x ∈ l, 0 ≤ x ∧ x < 256 := fun _ => ⟨by omega, hb⟩
    refine satq_seqN ?_
    conv => whnf
    refine ⟨fun hc => ?_, fun hc => ?_⟩
    · have hlt : j < n := by simpa using hc
      conv => whnf
      (repeat ((first | refine ⟨fun _ => ?_, nT⟩ | refine ⟨fun _ => ?_, nF⟩ | refine ⟨nF, fun _ => ?_⟩ | refine ⟨nT, fun _ => ?_⟩ | refine ⟨fun _ => ?_, (fun h => absurd h (by decide))⟩ | refine ⟨(fun h => absurd h (by decide)), fun _ => ?_⟩); conv => whnf))
      refine ⟨fun hc => ?_, fun hc => ?_⟩
      · have hlt2 : j < 100 := by
          have : decide ((j : Int) < 100) = true := hc
          simp at this; omega
        conv => whnf
        obtain ⟨b, off, n0, n1, n2, n3, n4, rfl, hcell⟩ := hA j hlt
        refine satq_in (satq_block ?_)
        refine satq_mid (α := { y : Int // word y }) (fun y => [(0, one (.slice (some ⟨b, off, none⟩) n c)), (3, one (strV l)), (4, one (intV (j : Int))), (5, one (.int .u32 y.1))]) (fun _ => []) ?_ fun y => ?_
        · refine satq_vcN ?_
          refine sat_anyG (.q 0 (.q 1 (.q 2 (.q 3 (.q 5 (.q 6 (.q 7 (.q 8 (.q 9 (.alt 4 (.alt 10 (.alt 11 (.alt 12 (.alt 13 (.alt 14 (.alt 15 (.alt 16 .done .no) .no) (.alt 15 (.alt 14 (.alt 16 .done .no) .no) .no)) (.alt 14 (.alt 13 (.alt 15 (.alt 16 .done .no) .no) .no) .no)) .no) .no) .no) .no)))))))))) mixed (by kernel_rfl) (by kernel_rfl) ?_
          conv => whnf
          have hc4 : CellsAt w Gs.nil b (off + j * 5 + 4) [intV n4] := cells_one hcell.1 (by simp) (hcell.2.2 4 _ rfl)
          (refine ⟨⟨by omega, by omega⟩, ?_⟩; (conv=>whnf))
          refine ⟨[intV n0, intV n1, intV n2, intV n3, intV n4], hcell, rfl, ?_⟩
          conv => whnf
          (refine ⟨⟨by omega, by omega⟩, ?_⟩; (conv=>whnf))
          refine q_index_ptr (size := 1) b (off + j * 5) 5 4 rfl rfl rfl rfl rfl rfl (by decide) (by decide) ?_
          conv => whnf
          refine ⟨_, hc4, ?_⟩
          conv => whnf
          refine ⟨?_, trivial⟩
          conv => whnf
          refine call_con rfl (by kernel_rfl) (fun r w' hR => made_ref03 n0 n1 n2 n3 n4 w') ?_
          have hmk := madeQ_ok n0 n1 n2 n3 n4
          obtain ⟨i, hi⟩ : ∃ i, madeQ n0 n1 n2 n3 n4 = i := ⟨_, rfl⟩
          rw [hi] at hmk ⊢
          conv => whnf
          refine ⟨?_, trivial⟩
          conv => whnf
          refine call_ex (fun v => ∃ j : QI, v = qiV j ∧ j.fair) rfl (by kernel_rfl) (fun r w' hR => tame_walk i n4 w' ⟨⟨hmk.op.1, by have := hmk.op.2; omega⟩, hmk.imm⟩) fun v hv => ?_
          obtain ⟨i2, rfl, hf⟩ := hv
          conv => whnf
          refine ⟨?_, trivial⟩
          conv => whnf
          refine call_con rfl (by kernel_rfl) (fun r w' hR => encode_ref i2 w' hf.1 hf.2) ?_
          obtain ⟨y, hy⟩ : ∃ y, encQ i2 = y := ⟨_, rfl⟩
          have hyw : word (y.getD 0) := by
            rw [← hy]; unfold encQ
            split
            · rename_i hv; exact (decQ_word hv hf.2).2
            · unfold word; decide
          rw [hy]
          clear hy
          conv => whnf
          repeat' (first
            | exact atq_mid ⟨y.getD 0, hyw⟩ (ent_same rfl (aI rfl (aI rfl (aI rfl (aI rfl trivial)))) trivial)
            | (refine ⟨?_, trivial⟩; conv => whnf)
            | (refine ⟨?_, ?_, trivial⟩ <;> conv => whnf))
        obtain ⟨y, hyw⟩ := y
        dsimp only
        refine satq_vcN ?_
        conv => whnf
        refine call_con (x := strV (putL y)) rfl (by kernel_rfl) (fun r w' hR => put_walk y w' hyw) ?_
        conv => whnf
        refine q_cat_str l (putL y) rfl rfl rfl (by unfold putL; rw [putTo_length]; omega) ?_
        conv => whnf
        refine atq_block (atq_on ?_)
        refine satq_vcN ?_
        conv => whnf
        refine ⟨(j : Int) + 1, by rw [wr64] <;> omega, ?_⟩
        conv => whnf
        refine atq_next ⟨(j + 1, l ++ putL y), by omega, by omega, ?_, ?_⟩ (ent_same rfl (aI rfl (aI rfl (aI rfl trivial))) trivial) (by dsimp only; omega)
        · dsimp only; unfold putL; rw [List.length_append, putTo_length]; omega
        · intro x hx
          rcases List.mem_append.1 hx with hx | hx
          · exact hb x hx
          · exact putTo_bytes _ _ x hx
      · conv => whnf
        exact atq_out (atq_exit (atq_mid ⟨l, by omega, hb⟩ (ent_same rfl (aI rfl trivial) trivial)))
    · conv => whnf
      (repeat ((first | refine ⟨fun _ => ?_, nT⟩ | refine ⟨fun _ => ?_, nF⟩ | refine ⟨nF, fun _ => ?_⟩ | refine ⟨nT, fun _ => ?_⟩ | refine ⟨fun _ => ?_, (fun h => absurd h (by decide))⟩ | refine ⟨(fun h => absurd h (by decide)), fun _ => ?_⟩); conv => whnf))
      exact atq_out (atq_exit (atq_mid ⟨l, by omega, hb⟩ (ent_same rfl (aI rfl trivial) trivial)))
  obtain ⟨l, hl, hb⟩ := x
  dsimp only
  refine satq_vcN ?_
  conv => whnf
  refine atq_ret ?_
  conv => whnf
  exact fin_val rfl fun w2 hB => ⟨_, rfl, ⟨l, rfl, hl, hb⟩, hB⟩
end Go.Proofs.YtnhdcclpjildjaaGreat
namespace Go.Proofs.YtnhdcclpjildjaaGreat
open Go.ChangeShapes Go.WideShapes Go.ChangeAt Go.RowKit

set_option maxRecDepth 100000 in
theorem open_prog {H : Type} {enc : TypeId × Value → H} {W : World} {a : Option Addr} {len cap : Nat} {d : DataW H} {p : List MemPlace} (h : DataW.Trod enc Tryz.prog W 0 (fun _ => true) true 22 (.slice a len cap) d p) :
    ProgAt W a len ∧ len < 9223372036854775808 := by
  obtain ⟨fuel, hf⟩ := h
  have hc5 : Tryz.prog.cellsOf 58 = 5 := by kernel_rfl
  rcases DataW.trod_slice Tryz.underlying22 hf with ⟨hcs, _⟩ | ⟨x, l, c, elems, rest, n, _, hcs, _, _, hl, hm, hlen, hel, _, _⟩
  · simp [Value.cells] at hcs
    obtain ⟨rfl, rfl, rfl⟩ := hcs
    exact ⟨fun j hj => by omega, by omega⟩
  · simp [Value.cells] at hcs
    obtain ⟨rfl, rfl, rfl⟩ := hcs
    refine ⟨fun j hj => ?_, by unfold maxLen at hm; omega⟩
    have h1 := hel j hj
    rw [List.getElem?_eq_getElem (by omega), hc5, Option.bind_eq_some_iff] at h1
    obtain ⟨cs, h2, h3⟩ := h1
    obtain ⟨zs, rfl, hz, _⟩ := open_ints_arr (k := .i64) Tryz.underlying58 Tryz.underlying3 (by kernel_rfl) (by kernel_rfl) h3
    obtain ⟨_, _, h4⟩ := World.cells?_some h2
    obtain ⟨b, off, spot⟩ := x
    have hs : spot = none := by
      have k1 := hel 0 (by omega)
      rw [List.getElem?_eq_getElem (by omega), hc5, Option.bind_eq_some_iff] at k1
      obtain ⟨cs0, k2, k3⟩ := k1
      obtain ⟨ys, rfl, hy, _⟩ := open_ints_arr (k := .i64) Tryz.underlying58 Tryz.underlying3 (by kernel_rfl) (by kernel_rfl) k3
      obtain ⟨_, _, k4⟩ := World.cells?_some k2
      have h0 := k4 0 (by omega)
      rw [List.getElem?_map, List.getElem?_eq_getElem (by omega)] at h0
      exact World.cell?_spot h0
    subst hs
    match zs, hz with
    | [z0, z1, z2, z3, z4], _ =>
      have h6 : ∀ i u, [intV z0, intV z1, intV z2, intV z3, intV z4][i]? = some u → W.cell? ⟨b, off + j * 5 + i, none⟩ = some u := fun i u hi => by
        have hi5 : i < 5 := by
          rcases Nat.lt_or_ge i 5 with h7 | h7
          · exact h7
          · rw [List.getElem?_eq_none (by simpa using h7)] at hi; cases hi
        have h7 := h4 i hi5
        rw [addr_add, addr_add] at h7
        rw [h7]; exact hi
      exact ⟨b, off, z0, z1, z2, z3, z4, rfl, cells_lt (h6 0 _ rfl), by simp, h6⟩
set_option maxRecDepth 100000 in
theorem open_n4 {H : Type} {enc : TypeId × Value → H} {W : World} {r : Reach} {b0 : Nat} {v : Value} {d : DataW H} {p : List MemPlace} (hv : Value.okWide Tryz.prog W r b0 23 v) (h : DataW.Trod enc Tryz.prog W 0 (fun _ => true) true 23 v d p) :
    ∃ a b c e : Int, v = .agg #[intV a, intV b, intV c, intV e] ∧ (-9223372036854775808 ≤ a ∧ a < 9223372036854775808) ∧ (-9223372036854775808 ≤ b ∧ b < 9223372036854775808) ∧ (-9223372036854775808 ≤ c ∧ c < 9223372036854775808) ∧ (-9223372036854775808 ≤ e ∧ e < 9223372036854775808) := by
  simp only [Value.okWide, Tryz.underlying23] at hv
  obtain ⟨cs, rfl, hsz, _⟩ := hv
  obtain ⟨fuel, hf⟩ := h
  obtain ⟨zs, e, l, w⟩ := open_ints_arr (k := .i64) Tryz.underlying23 Tryz.underlying3 (by kernel_rfl) (by kernel_rfl) hf
  have e : cs.toList = zs.map (Value.int .i64) := e
  match zs, l with
  | [z0, z1, z2, z3], _ =>
    refine ⟨z0, z1, z2, z3, ?_, int_wf (w _ (by simp)), int_wf (w _ (by simp)), int_wf (w _ (by simp)), int_wf (w _ (by simp))⟩
    show Value.agg cs = Value.agg ([z0, z1, z2, z3].map (Value.int .i64)).toArray
    rw [← e]
set_option maxRecDepth 100000 in
theorem open_q2 {H : Type} {enc : TypeId × Value → H} {W : World} {r : Reach} {b0 : Nat} {v : Value} {d : DataW H} {p : List MemPlace} (hv : Value.okWide Tryz.prog W r b0 24 v) (h : DataW.Trod enc Tryz.prog W 0 (fun _ => true) true 24 v d p) :
    ∃ a b : Int, v = .agg #[intV a, intV b] ∧ (-9223372036854775808 ≤ a ∧ a < 9223372036854775808) ∧ (-9223372036854775808 ≤ b ∧ b < 9223372036854775808) := by
  simp only [Value.okWide, Tryz.underlying24] at hv
  obtain ⟨cs, rfl, hsz, _⟩ := hv
  obtain ⟨fuel, hf⟩ := h
  obtain ⟨zs, e, l, w⟩ := open_ints_arr (k := .i64) Tryz.underlying24 Tryz.underlying3 (by kernel_rfl) (by kernel_rfl) hf
  have e : cs.toList = zs.map (Value.int .i64) := e
  match zs, l with
  | [z0, z1], _ =>
    refine ⟨z0, z1, ?_, int_wf (w _ (by simp)), int_wf (w _ (by simp))⟩
    show Value.agg cs = Value.agg ([z0, z1].map (Value.int .i64)).toArray
    rw [← e]
end Go.Proofs.YtnhdcclpjildjaaGreat
namespace Go.Proofs.YtnhdcclpjildjaaGreat
open Go.RowKit

abbrev stL (s : St) (T : List Value) : List Value := u32V s.pc :: u32V (s.R 0) :: u32V (s.R 1) :: u32V (s.R 2) :: u32V (s.R 3) :: u32V (s.R 4) :: u32V (s.R 5) :: u32V (s.R 6) :: u32V (s.R 7) :: u32V (s.R 8) :: u32V (s.R 9) :: u32V (s.R 10) :: u32V (s.R 11) :: u32V (s.R 12) :: u32V (s.R 13) :: u32V (s.R 14) :: u32V (s.R 15) :: u32V s.f :: u32V s.c0 :: u32V s.c1 :: u32V s.c2 :: u32V s.c3 :: intV s.steps :: intV s.due :: T
abbrev stV (s : St) : Value := .agg (stL s []).toArray
abbrev stT : TypeId := 39
end Go.Proofs.YtnhdcclpjildjaaGreat
namespace Go.Proofs.YtnhdcclpjildjaaGreat
open Go.RowKit

theorem stC_of (s : St) : StC (stL s []) := ⟨rfl, fun _ => rfl⟩
theorem StC.clen {L : List Value} (h : StC L) : (L.map CV.v).length = 24 := by rw [List.length_map]; exact h.len
end Go.Proofs.YtnhdcclpjildjaaGreat
namespace Go.Proofs.YtnhdcclpjildjaaGreat
open Go.RowKit

abbrev regU (R : Int → Int) (d x : Int) : Int → Int := fun j => if j = d then x else R j
theorem st_setR (s : St) (T : List Value) {j : Int} (x : Int) (h0 : 0 ≤ j) (h1 : j < 16) : setAll ((stL s T).map CV.v) (0 + 1 + j.toNat * 1) [.v (u32V x)] = (stL { s with R := regU s.R j x } T).map .v := by
  rcases (by omega : j = 0 ∨ j = 1 ∨ j = 2 ∨ j = 3 ∨ j = 4 ∨ j = 5 ∨ j = 6 ∨ j = 7 ∨ j = 8 ∨ j = 9 ∨ j = 10 ∨ j = 11 ∨ j = 12 ∨ j = 13 ∨ j = 14 ∨ j = 15) with rfl | rfl | rfl | rfl | rfl | rfl | rfl | rfl | rfl | rfl | rfl | rfl | rfl | rfl | rfl | rfl <;> rfl
theorem len_ble (l : List CV) {n m : Nat} (hl : l.length = n) (h : m ≤ n) : Nat.ble m l.length = true := Nat.ble_eq_true_of_le (by omega)
theorem len_big (l : List CV) {n : Nat} (hl : l.length = n) (h : 8 < n) : Nat.ble l.length 8 = false := by rw [hl]; exact ble_no h
end Go.Proofs.YtnhdcclpjildjaaGreat
namespace Go.Proofs.YtnhdcclpjildjaaGreat
open Go.RowKit

abbrev stC (s : St) (T : List Value) : List CV := (stL s T).map CV.v
theorem stC_set {s : St} {R : Int → Int} {X : List CV} {j : Int} (x : Int) (hX : X = stC { s with R := R } []) (h0 : 0 ≤ j) (h1 : j < 16) : setAll X (0 + 1 + j.toNat * 1) [.v (u32V x)] = stC { s with R := regU R j x } [] := by
  rw [hX]; exact st_setR { s with R := R } [] x h0 h1
end Go.Proofs.YtnhdcclpjildjaaGreat
namespace Go.Proofs.YtnhdcclpjildjaaGreat
open Go.RowKit

theorem cpu_put {L L' : List Value} (h : L.length = 24) (h' : L'.length = 24) (X : List CV) : setAll (L.map CV.v ++ X) 0 (L'.map .v) = L'.map .v ++ X := by
  have hl : (L.map CV.v).length = 24 := by rw [List.length_map]; exact h
  have hl' : (L'.map CV.v).length = 24 := by rw [List.length_map]; exact h'
  rw [setAll_take (L'.map .v) (L.map .v) 0 (by omega) 24 (by omega) X, setAll_same (by omega)]
theorem avals_1st (L : List Value) : avals [.p (.agg (L.map .v))] = some [.agg L.toArray] := by
  simp only [avals, AV.val, Pc.val, valL_vals]
end Go.Proofs.YtnhdcclpjildjaaGreat
namespace Go.Proofs.YtnhdcclpjildjaaGreat
open Go.RowKit

theorem seven_blocks {w : World} {gs : List Nat} {n p : Nat} {us : List Value} {M : MemP} (h : ObjsAt w gs (cpuU 0 us n p M)) : ∃ g0 g1 g2 g3 g4 g5 g6, gs = [g0, g1, g2, g3, g4, g5, g6] := by
  have := h.len
  match gs, this with
  | [g0, g1, g2, g3, g4, g5, g6], _ => exact ⟨g0, g1, g2, g3, g4, g5, g6, rfl⟩
end Go.Proofs.YtnhdcclpjildjaaGreat
namespace Go.Proofs.YtnhdcclpjildjaaGreat
open Go.RowKit

theorem bytesA_drop (l : List Int) (k : Nat) : (bytesA l).extract k (bytesA l).size = bytesA (l.drop k) := by
  have h : ((bytesA l).extract k (bytesA l).size).data = (bytesA (l.drop k)).data := by
    apply Array.ext'
    rw [bytesA_list, ByteArray.data_extract, Array.toList_extract, List.extract_eq_take_drop, bytesA_list, ← List.map_drop]
    exact List.take_of_length_le (by rw [List.length_map, List.length_drop, bytesA_size]; omega)
  exact ByteArray.ext h
theorem q_slice_str {P : Program} {w0 : World} {G : Gs} {S : List Ow} {f : Fr} {o : Oper} {K : AV → Prop} {t : TypeId} {x y : Operand} {q : IntKind} (l : List Int) (k : Nat) (hop : o.op = .slice t x (some y) none none) (ht : P.underlying t = some .string) (hx : f.ev x = one (strV l)) (hy : f.ev y = one (.int q (k : Int))) (hk : k ≤ l.length) (hK : K (one (strV (l.drop k)))) : QRun P w0 G S f o K := by
  refine ⟨_, hK, fun r a hf => ?_⟩
  have h1 := hf.ev x
  have h2 := hf.ev y
  rw [hx] at h1
  rw [hy] at h2
  refine ⟨_, rfl, fun w hR => ?_⟩
  have hs : (bytesA l).size = l.length := bytesA_size l
  simp [execOp, hop, den_v h1, den_v h2, Instr.sliceAt, Instr.slice, underlying, ht, strV, Instr.sliceBounds, Instr.sliceBound, asIntOf, hs, hk, ← bytesA_drop]
theorem cpu_grpG (g g1 g2 g3 g4 g5 g6 : Nat) (us : List Value) (n p : Nat) (M : MemP) : grpOk ⟨[g, g1, g2, g3, g4, g5, g6], []⟩ (cpuU 0 us n p M) = true := by
  show sbnd 7 (cpuU 0 us n p M) = true
  have h : bndL 7 (us.map .v ++ [.ref 1 0]) = true := by
    induction us with
    | nil => rfl
    | cons u us ih => simpa only [List.map_cons, List.cons_append, bndL, CV.bnd] using ih
  simp only [sbnd, Ow.bnd, bndL_vals, bndL, CV.bnd, h]
  rfl
set_option maxRecDepth 100000 in
set_option maxHeartbeats 2000000 in
theorem set_cpu (s : St) (h0 : 0 ≤ s.steps) (hd : s.due = 0) (us : List Value) (hus : us.length = 24) (M : MemP) (n p : Nat) (w : World) (g : Nat) (gs : List Nat) (hU : ObjsAt w (g :: gs) (cpuU 0 us n p M)) :
    Calls Tryz.prog 38 #[.pointer (some ⟨g, 0, none⟩), stV s] w fun e w' => e = .returned (.tuple #[]) ∧ ObjsAt w' (g :: gs) (cpuU 0 (stL { s with R := regU s.R 0 0, f := 0 } []) n p M) ∧ GrownBys w w' (g :: gs) := by
  obtain ⟨g0, g1, g2, g3, g4, g5, g6, hg⟩ := seven_blocks hU
  injection hg with hg0 hgs
  subst hgs; subst hg0
  obtain ⟨L, hL⟩ : ∃ L, L = stL s [] := ⟨_, rfl⟩
  have hLS : StC L := by rw [hL]; exact stC_of s
  rw [show stV s = .agg L.toArray by rw [hL]]
  refine calls_objs_satq [.p (.c (.ref 0 0)), .p (.agg (L.map .v))] [.pointer (some ⟨g, 0, none⟩), .agg L.toArray] Tryz.func38 Tryz.ntmps38 rfl (by simp) hU ⟨_, _, rfl, den_mk_ref rfl, _, _, rfl, AV.of_den _ (.agg L.toArray), rfl⟩ ?_
  have hLl : (L.map CV.v).length = 24 := hLS.clen
  have hX0 : L.map CV.v = stC s [] := by rw [hL]
  refine satq_seqN ?_
  conv => whnf
  refine satq_mid (α := { X : List CV // X = stC { s with R := regU s.R 0 0 } [] }) (fun _ => [(0, .p (.c (.ref 0 0))), (3, .p (.c (.ref 7 0)))]) (fun x => cpuU 0 us n p M ++ ([.cells stT x.1] : List Ow)) ?_ fun x => ?_
  · refine satq_vcN ?_
    conv => whnf
    (refine ⟨⟨by omega, by omega⟩, ?_⟩; (conv=>whnf))
    erw [len_ble _ hLl (m := 0 + 1 + (0 : Int).toNat * 1 + 1) (by omega)]
    conv => whnf
    erw [len_big _ hLl (by omega)]
    conv => whnf
    exact atq_mid ⟨_, rfl⟩ (ent_same rfl (aI rfl (aI rfl trivial)) (aI sM (aI sM (aI sM (aI sM (aI sM (aI sM (aI sM (aI ((aI rfl (Or.inl (stC_set (j := 0) 0 hX0 (by omega) (by omega))))) trivial)))))))))
  obtain ⟨X, hX⟩ := x
  dsimp only
  have hXl : X.length = 24 := by rw [hX]; rfl
  refine satq_mid (α := { X : List CV // X = stC { s with R := regU s.R 0 0, f := 0 } [] }) (fun _ => [(0, .p (.c (.ref 0 0))), (3, .p (.c (.ref 7 0)))]) (fun x => cpuU 0 us n p M ++ ([.cells stT x.1] : List Ow)) ?_ fun x => ?_
  · refine satq_vcN ?_
    conv => whnf
    erw [len_ble _ hXl (m := 0 + 17 + 1) (by omega)]
    conv => whnf
    erw [len_big _ hXl (by omega)]
    conv => whnf
    exact atq_mid ⟨_, rfl⟩ (ent_same rfl (aI rfl (aI rfl trivial)) (aI sM (aI sM (aI sM (aI sM (aI sM (aI sM (aI sM (aI ((aI rfl (Or.inl (by rw [hX]; rfl)))) trivial)))))))))
  clear hX hXl X
  obtain ⟨X, hX⟩ := x
  dsimp only
  have hXl : X.length = 24 := by rw [hX]; rfl
  have h22 : X[0 + 22]? = some (.v (intV s.steps)) := by rw [hX]; rfl
  have h23 : X[0 + 23]? = some (.v (intV s.due)) := by rw [hX]; rfl
  refine satq_mid (α := Unit) (fun _ => [(0, .p (.c (.ref 0 0))), (3, .p (.c (.ref 7 0)))]) (fun _ => cpuU 0 us n p M ++ ([.cells stT X] : List Ow)) ?_ fun _ => ?_
  · refine satq_vcN ?_
    conv => whnf
    erw [h22]
    conv => whnf
    refine op_max rfl rfl rfl rfl ?_
    rw [if_neg (by omega)]
    conv => whnf
    erw [len_ble _ hXl (m := 0 + 22 + 1) (by omega)]
    conv => whnf
    erw [len_big _ hXl (by omega)]
    conv => whnf
    exact atq_mid () (ent_same rfl (aI rfl (aI rfl trivial)) (aI sM (aI sM (aI sM (aI sM (aI sM (aI sM (aI sM (aI ((aI rfl (Or.inl (by rw [hX]; rfl)))) trivial)))))))))
  refine satq_mid (α := Unit) (fun _ => [(0, .p (.c (.ref 0 0))), (3, .p (.c (.ref 7 0)))]) (fun _ => cpuU 0 us n p M ++ ([.cells stT X] : List Ow)) ?_ fun _ => ?_
  · refine satq_vcN ?_
    conv => whnf
    erw [h23]
    conv => whnf
    refine op_max rfl rfl rfl rfl ?_
    rw [if_neg (by omega)]
    conv => whnf
    erw [len_ble _ hXl (m := 0 + 23 + 1) (by omega)]
    conv => whnf
    erw [len_big _ hXl (by omega)]
    conv => whnf
    exact atq_mid () (ent_same rfl (aI rfl (aI rfl trivial)) (aI sM (aI sM (aI sM (aI sM (aI sM (aI sM (aI sM (aI ((aI rfl (Or.inl (by rw [hX]; rfl)))) trivial)))))))))
  obtain ⟨sf, hsf⟩ : ∃ sf : St, sf = { s with R := regU s.R 0 0, f := 0 } := ⟨_, rfl⟩
  obtain ⟨Lf, hLf⟩ : ∃ Lf, Lf = stL sf [] := ⟨_, rfl⟩
  have hLfS : StC Lf := by rw [hLf]; exact stC_of sf
  have hXf : X = Lf.map .v := by rw [hX, hLf, hsf]
  have hCl : (us.map CV.v ++ [CV.ref 1 0]).length = 25 := by rw [List.length_append, List.length_map, hus]; rfl
  clear hX hXl h22 h23
  subst hXf
  rw [← hsf, ← hLf]
  refine satq_vcN ?_
  conv => whnf
  erw [cut_all hLfS.clen]
  conv => whnf
  erw [beq_len hLfS.clen]
  conv => whnf
  erw [hLfS.one]
  conv => whnf
  erw [len_ble _ hCl (m := 0 + (Lf.map CV.v).length) (by rw [hLfS.clen]; omega)]
  conv => whnf
  erw [len_big _ hCl (by omega)]
  conv => whnf
  refine atq_as (f' := []) (S' := cpuU 0 Lf n p M) (ent_drop trivial (aI ((aI rfl (Or.inl (cpu_put (by rw [hus]) hLfS.len _)))) (aI sM (aI sM (aI sM (aI sM (aI sM (aI sM trivial))))))) rfl (cpu_grpG g g1 g2 g3 g4 g5 g6 Lf n p M)) (atq_end ?_)
  conv => whnf
  exact fin_objs rfl rfl (fun i o h => h) (cpuU_ob Lf n p M) fun w' h1 h2 => ⟨rfl, h1, h2⟩
end Go.Proofs.YtnhdcclpjildjaaGreat
