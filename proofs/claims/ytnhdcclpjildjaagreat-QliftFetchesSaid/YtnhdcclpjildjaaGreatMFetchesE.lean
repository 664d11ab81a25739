/- The law's first check: sanity. -/
import Derived.Test.YtnhdcclpjildjaaGreatMFetchesD
namespace Go.Proofs.YtnhdcclpjildjaaGreat
open Go.RowKit

theorem cpu_grp (us : List Value) (n p : Nat) (M : MemP) : grpOk Gs.nil (cpuU 0 us n p M) = true := by
 show sbnd 7 (cpuU 0 us n p M) = true
 have h : bndL 7 (us.map .v ++ [.ref 1 0]) = true := by
  induction us with
  | nil => rfl
  | cons u us ih => simpa only [List.map_cons, List.cons_append, bndL, CV.bnd] using ih
 simp only [sbnd, Ow.bnd, bndL_vals, bndL, CV.bnd, h]
 rfl
theorem cpu_mem (us : List Value) (n p : Nat) (M : MemP) (T : List Ow) : ∀ i, i < 6 → (cpuU 0 us n p M ++ T)[1 + i]? = (memS 1 n p M)[i]? := fun i hi => by
 rcases (by omega : i = 0 ∨ i = 1 ∨ i = 2 ∨ i = 3 ∨ i = 4 ∨ i = 5) with rfl | rfl | rfl | rfl | rfl | rfl <;> rfl
set_option maxRecDepth 100000 in
set_option maxHeartbeats 8000000 in
theorem sanity14 (w : World) : Calls Tryz.prog 13 #[] w fun e w' => e = .returned (.bool true) ∧ Below w.heap.size w w' := by
 refine calls_satq [] Tryz.func13 Tryz.ntmps13 rfl (by simp) ?_
 refine satq_seqN ?_
 conv => whnf
 refine satq_seqN ?_
 conv => whnf
 refine call_newObjs (xs := [intV ((2 : Nat) : Int)]) (cpuU 0 stZ 512 2 (MemP.zero 2)) (cpuU 0 stZ 512 2 (MemP.zero 2)) rfl (by kernel_rfl) (cpuU_sh 0 stZ 512 2 _) (cpuU_ob stZ 512 2 _) (fun r w hR => cpu_new 2 w (by omega)) ?_
 conv => whnf
 refine satq_seqN ?_
 conv => whnf
 refine satq_seqN ?_
 conv => whnf
 have hz : (MemP.zero 2).ok 512 2 := san_ok
 obtain ⟨M0, hM0⟩ : ∃ M0, M0 = MemP.zero 2 := ⟨_, rfl⟩
 rw [← hM0] at hz ⊢
 refine satq_mid (α := Unit) (fun _ => [(0, one (.bool false)), (1, .p (.c (.ref 0 0))), (3, one (strV (sanS 3)))]) (fun _ => cpuU 0 stZ 512 2 M0) ?_ fun _ => ?_
 ·refine satq_seqN ?_
  conv => whnf
  refine satq_block ?_
  refine satq_loop (α := { j : Nat // j ≤ 3 }) (fun x => [(0, one (.bool false)), (1, .p (.c (.ref 0 0))), (2, .p (.c (.sl 7 0 3 3))), (3, one (strV (sanS x.1))), (4, one (intV (x.1 : Int)))]) (fun _ => cpuU 0 stZ 512 2 M0 ++ [Ow.cells qiT ((sanI.flatMap qiL).map .v)]) (fun x => 3 - x.1)
   ⟨0, by omega⟩ (ent_same rfl (aI rfl (aI rfl (aI rfl (aI rfl (aI rfl trivial))))) (aI sM (aI sM (aI sM (aI sM (aI sM (aI sM (aI sM (aI sM trivial))))))))) fun x => ?_
  obtain ⟨j, hj⟩ := x
  dsimp only
  rcases (by omega : j = 0 ∨ j = 1 ∨ j = 2 ∨ j = 3) with rfl | rfl | rfl | rfl
  ·refine satq_seqN ?_
   conv => whnf
   (repeat ((first | apply k1 | apply k2 | apply k3 | apply k4 | refine k5 (by decide) ?_ | refine k6 (by decide) ?_); conv => whnf))
   refine satq_in (satq_block ?_)
   refine satq_seqN ?_
   conv => whnf
   refine ⟨⟨by omega, by omega⟩, ?_⟩
   conv => whnf
   refine call_con (x := encV (some 1077936133)) rfl (by kernel_rfl) (fun r w' hR => encode_ref ⟨16, 1, 0, 0, 5⟩ w' ⟨by decide, by decide⟩ (by unfold word; decide)) ?_
   conv => whnf
   refine satq_vcN ?_
   conv => whnf
   refine call_con (x := strV (putL 1077936133)) rfl (by kernel_rfl) (fun r w' hR => put_walk 1077936133 w' (by unfold word; decide)) ?_
   conv => whnf
   refine q_cat_str (sanS 0) (putL 1077936133) rfl rfl rfl (by decide) ?_
   conv => whnf
   refine atq_block (atq_on ?_)
   refine satq_vcN ?_
   conv => whnf
   refine ⟨1, by rw [wr64] <;> decide, ?_⟩
   conv => whnf
   exact atq_next ⟨1, by omega⟩ (ent_same rfl (aI rfl (aI rfl (aI rfl (aI rfl (aI rfl trivial))))) (aI sM (aI sM (aI sM (aI sM (aI sM (aI sM (aI sM (aI sM trivial))))))))) (by dsimp only; decide)
  ·refine satq_seqN ?_
   conv => whnf
   (repeat ((first | apply k1 | apply k2 | apply k3 | apply k4 | refine k5 (by decide) ?_ | refine k6 (by decide) ?_); conv => whnf))
   refine satq_in (satq_block ?_)
   refine satq_seqN ?_
   conv => whnf
   refine ⟨⟨by omega, by omega⟩, ?_⟩
   conv => whnf
   refine call_con (x := encV (some 2152202243)) rfl (by kernel_rfl) (fun r w' hR => encode_ref ⟨32, 1, 2, 0, 3⟩ w' ⟨by decide, by decide⟩ (by unfold word; decide)) ?_
   conv => whnf
   refine satq_vcN ?_
   conv => whnf
   refine call_con (x := strV (putL 2152202243)) rfl (by kernel_rfl) (fun r w' hR => put_walk 2152202243 w' (by unfold word; decide)) ?_
   conv => whnf
   refine q_cat_str (sanS 1) (putL 2152202243) rfl rfl rfl (by decide) ?_
   conv => whnf
   refine atq_block (atq_on ?_)
   refine satq_vcN ?_
   conv => whnf
   refine ⟨2, by rw [wr64] <;> decide, ?_⟩
   conv => whnf
   exact atq_next ⟨2, by omega⟩ (ent_same rfl (aI rfl (aI rfl (aI rfl (aI rfl (aI rfl trivial))))) (aI sM (aI sM (aI sM (aI sM (aI sM (aI sM (aI sM (aI sM trivial))))))))) (by dsimp only; decide)
  ·refine satq_seqN ?_
   conv => whnf
   (repeat ((first | apply k1 | apply k2 | apply k3 | apply k4 | refine k5 (by decide) ?_ | refine k6 (by decide) ?_); conv => whnf))
   refine satq_in (satq_block ?_)
   refine satq_seqN ?_
   conv => whnf
   refine ⟨⟨by omega, by omega⟩, ?_⟩
   conv => whnf
   refine call_con (x := encV (some 3355443200)) rfl (by kernel_rfl) (fun r w' hR => encode_ref ⟨50, 0, 0, 0, 0⟩ w' ⟨by decide, by decide⟩ (by unfold word; decide)) ?_
   conv => whnf
   refine satq_vcN ?_
   conv => whnf
   refine call_con (x := strV (putL 3355443200)) rfl (by kernel_rfl) (fun r w' hR => put_walk 3355443200 w' (by unfold word; decide)) ?_
   conv => whnf
   refine q_cat_str (sanS 2) (putL 3355443200) rfl rfl rfl (by decide) ?_
   conv => whnf
   refine atq_block (atq_on ?_)
   refine satq_vcN ?_
   conv => whnf
   refine ⟨3, by rw [wr64] <;> decide, ?_⟩
   conv => whnf
   exact atq_next ⟨3, by omega⟩ (ent_same rfl (aI rfl (aI rfl (aI rfl (aI rfl (aI rfl trivial))))) (aI sM (aI sM (aI sM (aI sM (aI sM (aI sM (aI sM (aI sM trivial))))))))) (by dsimp only; decide)
  ·refine satq_seqN ?_
   conv => whnf
   (repeat ((first | apply k1 | apply k2 | apply k3 | apply k4 | refine k5 (by decide) ?_ | refine k6 (by decide) ?_); conv => whnf))
   exact atq_out (atq_exit (atq_mid () (ent_drop (aI rfl (aI rfl (aI rfl trivial))) (aI sM (aI sM (aI sM (aI sM (aI sM (aI sM (aI sM trivial))))))) rfl (cpu_grp stZ 512 2 M0))))
 obtain ⟨M1, hM1⟩ : ∃ M1, M1 = M0.codeTo 1 (sanS 3) (min (sanS 3).length 256) := ⟨_, rfl⟩
 obtain ⟨M2, hM2⟩ : ∃ M2, M2 = M1.protect 1 4 := ⟨_, rfl⟩
 have hsb : ∀ x ∈ sanS 3, 0 ≤ x ∧ x < 256 := by decide
 have hk1 : M1.ok 512 2 := by rw [hM1]; exact codeTo_ok hz 1 hsb _
 have hk2 : M2.ok 512 2 := by rw [hM2]; exact protect_ok hk1 1 (by decide)
 have hsan : M2 = sanM := by rw [hM2, hM1, hM0]; kernel_rfl
 have hl1 : liftM M2 256 64 = sanB1 := by rw [hsan]; exact san_lift1
 have hl2 : liftM M2 256 1 = sanB2 := by rw [hsan]; exact san_lift2
 have hl3 : liftM M2 264 9 = sanB3 := by rw [hsan]; exact san_lift3
 refine satq_mid (α := Unit) (fun _ => [(0, one (.bool false)), (1, .p (.c (.ref 0 0)))]) (fun _ => cpuU 0 stZ 512 2 M1) ?_ fun _ => ?_
 ·refine satq_vcN ?_
  conv => whnf
  refine call_memW (pre := []) (suf := [one (intV 1), one (strV (sanS 3))]) 1 512 2 M0 M1 (.tuple #[]) (fun i hi => by have := cpu_mem stZ 512 2 M0 [] i hi; rwa [List.append_nil] at this) rfl rfl (by kernel_rfl) (fun w g gs hk hU => by rw [hM1]; exact mem_setCode M0 512 2 1 (sanS 3) w g gs hU hz (by decide) hsb (by decide)) ?_
  conv => whnf
  exact atq_mid () (ent_same rfl (aI rfl (aI rfl trivial)) (aI sM (aI sM (aI sM (aI sM (aI sM (aI sM (aI sM trivial))))))))
 refine satq_mid (α := Unit) (fun _ => [(0, one (.bool false)), (1, .p (.c (.ref 0 0)))]) (fun _ => cpuU 0 stZ 512 2 M2) ?_ fun _ => ?_
 ·refine satq_vcN ?_
  conv => whnf
  refine call_memW (pre := []) (suf := [one (intV 1), one (intV 4)]) 1 512 2 M1 M2 (.tuple #[]) (fun i hi => by have := cpu_mem stZ 512 2 M1 [] i hi; rwa [List.append_nil] at this) rfl rfl (by kernel_rfl) (fun w g gs hk hU => by rw [hM2]; exact mem_protect M1 512 2 1 4 w g gs hU hk1 (by decide) (by decide) (by decide)) ?_
  conv => whnf
  exact atq_mid () (ent_same rfl (aI rfl (aI rfl trivial)) (aI sM (aI sM (aI sM (aI sM (aI sM (aI sM (aI sM trivial))))))))
 refine satq_mid (α := Unit) (fun _ => [(0, one (.bool false)), (1, .p (.c (.ref 0 0)))]) (fun _ => cpuU 0 (u32V 256 :: stZ.tail) 512 2 M2) ?_ fun _ => ?_
 ·refine satq_vcN ?_
  conv => whnf
  exact atq_mid () (ent_same rfl (aI rfl (aI rfl trivial)) (aI sM (aI sM (aI sM (aI sM (aI sM (aI sM (aI sM trivial))))))))
 refine satq_seqN ?_
 conv => whnf
 refine call_lifted 1 512 2 M2 256 64 (fun i hi => by have := cpu_mem (u32V 256 :: stZ.tail) 512 2 M2 [] i hi; rwa [List.append_nil] at this) hk2 (by decide) (by unfold word; decide) ?_
 rw [hl1]
 conv => whnf
 refine satq_seqN ?_
 conv => whnf
 refine call_lifted 1 512 2 M2 256 1 (cpu_mem (u32V 256 :: stZ.tail) 512 2 M2 _) hk2 (by decide) (by unfold word; decide) ?_
 rw [hl2]
 conv => whnf
 refine satq_seqN ?_
 conv => whnf
 refine call_lifted 1 512 2 M2 264 9 (cpu_mem (u32V 256 :: stZ.tail) 512 2 M2 _) hk2 (by decide) (by unfold word; decide) ?_
 rw [hl3]
 conv => whnf
 refine satq_seqN ?_
 conv => whnf
 (repeat ((first | apply k1 | apply k2 | apply k3 | apply k4 | refine k5 (by decide) ?_ | refine k6 (by decide) ?_); conv => whnf))
 have hb1 : sanB1.ok := hl1 ▸ (liftM_ok hk2 256 64).1
 have he1 : (evalBlk sanB1 zeros28 M2).out = ⟨false, 0, 2, 264, sanV⟩ := by rw [hsan]; exact san_eval1
 have hm1 : (evalBlk sanB1 zeros28 M2).mem = M2 := by rw [hsan]; exact san_mem1
 have hb2 : sanB2.ok := hl2 ▸ (liftM_ok hk2 256 1).1
 have he2 : (evalBlk sanB2 zeros28 M2).out = ⟨false, 0, 1, 260, sanV⟩ := by rw [hsan]; exact san_eval2
 have hm2 : (evalBlk sanB2 zeros28 M2).mem = M2 := by rw [hsan]; exact san_mem2
 have hb3 : sanB3.ok := hl3 ▸ (liftM_ok hk2 264 9).1
 have he3 : (evalBlk sanB3 zeros28 M2).out = ⟨true, 0, 0, 264, zeros28⟩ := by rw [hsan]; exact san_eval3
 have hm3 : (evalBlk sanB3 zeros28 M2).mem = M2 := by rw [hsan]; exact san_mem3
 clear hl1 hl2 hl3 hsan hM2 hM1 hM0 hsb hk1 hz
 refine satq_mid (α := Unit) (fun _ => [(0, one (.bool false)), (1, .p (.c (.ref 0 0))), (7, .p (.c (.ref 10 0))), (9, .p (.c (.ref 14 0))), (11, .p (.c (.ref 18 0))), (13, .p (.c (.ref 19 0)))]) (fun _ => cpuU 0 (u32V 256 :: stZ.tail) 512 2 M2 ++ blkRows sanB1 ++ [Ow.cells blT [.row 7, .row 8, .row 9]] ++ blkRows sanB2 ++ [Ow.cells blT [.row 11, .row 12, .row 13]] ++ blkRows sanB3 ++ [Ow.cells blT [.row 15, .row 16, .row 17]] ++ [Ow.cells 55 ((outL ⟨false, 0, 2, 264, sanV⟩).map .v)]) ?_ fun _ => ?_
 ·refine satq_vcN ?_
  conv => whnf
  refine sat_anyG (.q 1 (.q 2 (.q 3 (.q 4 (.alt 0 (.alt 5 (.alt 6 (.alt 7 (.alt 8 .done .no) .no) (.alt 7 (.alt 6 (.alt 8 .done .no) .no) .no)) (.alt 7 (.alt 5 (.alt 6 (.alt 8 .done .no) .no) .no) .no)) (.alt 5 (.alt 0 (.alt 6 (.alt 7 (.alt 8 .done .no) .no) (.alt 7 (.alt 6 (.alt 8 .done .no) .no) .no)) (.alt 7 (.alt 0 (.alt 6 (.alt 8 .done .no) .no) .no) .no)) (.alt 7 (.alt 0 (.alt 5 (.alt 6 (.alt 8 .done .no) .no) .no) (.alt 5 (.alt 0 (.alt 6 (.alt 8 .done .no) .no) .no) .no)) .no))))))) mixed (by kernel_rfl) (by kernel_rfl) ?_
  conv => whnf
  repeat' (first
   | exact atq_mid () (ent_same rfl (aI rfl (aI rfl (aI rfl (aI rfl (aI rfl (aI rfl trivial)))))) (aI sM (aI sM (aI sM (aI sM (aI sM (aI sM (aI sM (aI ((aI rfl (aI rfl (aI rfl rfl)))) (aI ((aI rfl (aI rfl (aI rfl rfl)))) (aI ((aI rfl (aI rfl (aI rfl rfl)))) (aI sM (aI ((aI rfl (aI rfl (aI rfl rfl)))) (aI ((aI rfl (aI rfl (aI rfl rfl)))) (aI ((aI rfl (aI rfl (aI rfl rfl)))) (aI sM (aI ((aI rfl (aI rfl (aI rfl rfl)))) (aI ((aI rfl (aI rfl (aI rfl rfl)))) (aI ((aI rfl (aI rfl (aI rfl rfl)))) (aI sM (aI sM trivial)))))))))))))))))))))
   | (refine call_eval 1 512 2 7 8 9 sanB1 zeros28 M2 rfl (fun i hi => by rcases (by omega : i = 0 ∨ i = 1 ∨ i = 2 ∨ i = 3 ∨ i = 4 ∨ i = 5) with rfl | rfl | rfl | rfl | rfl | rfl <;> rfl) hk2 hb1 rfl zeros_ok rfl rfl rfl ⟨by decide, by decide, by decide⟩ ?_; rw [he1, hm1]; conv => whnf)
   | (refine ⟨?_, trivial⟩; conv => whnf)
   | (refine ⟨?_, ?_, trivial⟩ <;> conv => whnf)
   | (refine ⟨?_, ?_, ?_, trivial⟩ <;> conv => whnf))
 refine satq_mid (α := Unit) (fun _ => [(0, one (.bool false)), (1, .p (.c (.ref 0 0))), (7, .p (.c (.ref 10 0))), (9, .p (.c (.ref 14 0))), (11, .p (.c (.ref 18 0))), (13, .p (.c (.ref 19 0))), (14, .p (.c (.ref 20 0)))]) (fun _ => cpuU 0 (u32V 256 :: stZ.tail) 512 2 M2 ++ blkRows sanB1 ++ [Ow.cells blT [.row 7, .row 8, .row 9]] ++ blkRows sanB2 ++ [Ow.cells blT [.row 11, .row 12, .row 13]] ++ blkRows sanB3 ++ [Ow.cells blT [.row 15, .row 16, .row 17]] ++ [Ow.cells 55 ((outL ⟨false, 0, 2, 264, sanV⟩).map .v)] ++ [Ow.cells 55 ((outL ⟨false, 0, 1, 260, sanV⟩).map .v)]) ?_ fun _ => ?_
 ·refine satq_vcN ?_
  conv => whnf
  refine sat_anyG (.q 1 (.q 2 (.q 3 (.q 4 (.alt 0 (.alt 5 (.alt 6 (.alt 7 (.alt 8 .done .no) .no) (.alt 7 (.alt 6 (.alt 8 .done .no) .no) .no)) (.alt 7 (.alt 5 (.alt 6 (.alt 8 .done .no) .no) .no) .no)) (.alt 5 (.alt 0 (.alt 6 (.alt 7 (.alt 8 .done .no) .no) (.alt 7 (.alt 6 (.alt 8 .done .no) .no) .no)) (.alt 7 (.alt 0 (.alt 6 (.alt 8 .done .no) .no) .no) .no)) (.alt 7 (.alt 0 (.alt 5 (.alt 6 (.alt 8 .done .no) .no) .no) (.alt 5 (.alt 0 (.alt 6 (.alt 8 .done .no) .no) .no) .no)) .no))))))) mixed (by kernel_rfl) (by kernel_rfl) ?_
  conv => whnf
  repeat' (first
   | exact atq_mid () (ent_same rfl (aI rfl (aI rfl (aI rfl (aI rfl (aI rfl (aI rfl (aI rfl trivial))))))) (aI sM (aI sM (aI sM (aI sM (aI sM (aI sM (aI sM (aI ((aI rfl (aI rfl (aI rfl rfl)))) (aI ((aI rfl (aI rfl (aI rfl rfl)))) (aI ((aI rfl (aI rfl (aI rfl rfl)))) (aI sM (aI ((aI rfl (aI rfl (aI rfl rfl)))) (aI ((aI rfl (aI rfl (aI rfl rfl)))) (aI ((aI rfl (aI rfl (aI rfl rfl)))) (aI sM (aI ((aI rfl (aI rfl (aI rfl rfl)))) (aI ((aI rfl (aI rfl (aI rfl rfl)))) (aI ((aI rfl (aI rfl (aI rfl rfl)))) (aI sM (aI sM (aI sM trivial))))))))))))))))))))))
   | (refine call_eval 1 512 2 11 12 13 sanB2 zeros28 M2 rfl (fun i hi => by rcases (by omega : i = 0 ∨ i = 1 ∨ i = 2 ∨ i = 3 ∨ i = 4 ∨ i = 5) with rfl | rfl | rfl | rfl | rfl | rfl <;> rfl) hk2 hb2 rfl zeros_ok rfl rfl rfl ⟨by decide, by decide, by decide⟩ ?_; rw [he2, hm2]; conv => whnf)
   | (refine ⟨?_, trivial⟩; conv => whnf)
   | (refine ⟨?_, ?_, trivial⟩ <;> conv => whnf)
   | (refine ⟨?_, ?_, ?_, trivial⟩ <;> conv => whnf))
 refine satq_mid (α := Unit) (fun _ => [(0, one (.bool false)), (1, .p (.c (.ref 0 0))), (7, .p (.c (.ref 10 0))), (9, .p (.c (.ref 14 0))), (11, .p (.c (.ref 18 0))), (13, .p (.c (.ref 19 0))), (14, .p (.c (.ref 20 0))), (15, .p (.c (.ref 21 0)))]) (fun _ => cpuU 0 (u32V 256 :: stZ.tail) 512 2 M2 ++ blkRows sanB1 ++ [Ow.cells blT [.row 7, .row 8, .row 9]] ++ blkRows sanB2 ++ [Ow.cells blT [.row 11, .row 12, .row 13]] ++ blkRows sanB3 ++ [Ow.cells blT [.row 15, .row 16, .row 17]] ++ [Ow.cells 55 ((outL ⟨false, 0, 2, 264, sanV⟩).map .v)] ++ [Ow.cells 55 ((outL ⟨false, 0, 1, 260, sanV⟩).map .v)] ++ [Ow.cells 55 ((outL ⟨true, 0, 0, 264, zeros28⟩).map .v)]) ?_ fun _ => ?_
 ·refine satq_vcN ?_
  conv => whnf
  refine sat_anyG (.q 1 (.q 2 (.q 3 (.q 4 (.alt 0 (.alt 5 (.alt 6 (.alt 7 (.alt 8 .done .no) .no) (.alt 7 (.alt 6 (.alt 8 .done .no) .no) .no)) (.alt 7 (.alt 5 (.alt 6 (.alt 8 .done .no) .no) .no) .no)) (.alt 5 (.alt 0 (.alt 6 (.alt 7 (.alt 8 .done .no) .no) (.alt 7 (.alt 6 (.alt 8 .done .no) .no) .no)) (.alt 7 (.alt 0 (.alt 6 (.alt 8 .done .no) .no) .no) .no)) (.alt 7 (.alt 0 (.alt 5 (.alt 6 (.alt 8 .done .no) .no) .no) (.alt 5 (.alt 0 (.alt 6 (.alt 8 .done .no) .no) .no) .no)) .no))))))) mixed (by kernel_rfl) (by kernel_rfl) ?_
  conv => whnf
  repeat' (first
   | exact atq_mid () (ent_same rfl (aI rfl (aI rfl (aI rfl (aI rfl (aI rfl (aI rfl (aI rfl (aI rfl trivial)))))))) (aI sM (aI sM (aI sM (aI sM (aI sM (aI sM (aI sM (aI ((aI rfl (aI rfl (aI rfl rfl)))) (aI ((aI rfl (aI rfl (aI rfl rfl)))) (aI ((aI rfl (aI rfl (aI rfl rfl)))) (aI sM (aI ((aI rfl (aI rfl (aI rfl rfl)))) (aI ((aI rfl (aI rfl (aI rfl rfl)))) (aI ((aI rfl (aI rfl (aI rfl rfl)))) (aI sM (aI ((aI rfl (aI rfl (aI rfl rfl)))) (aI ((aI rfl (aI rfl (aI rfl rfl)))) (aI ((aI rfl (aI rfl (aI rfl rfl)))) (aI sM (aI sM (aI sM (aI sM trivial)))))))))))))))))))))))
   | (refine call_eval 1 512 2 15 16 17 sanB3 zeros28 M2 rfl (fun i hi => by rcases (by omega : i = 0 ∨ i = 1 ∨ i = 2 ∨ i = 3 ∨ i = 4 ∨ i = 5) with rfl | rfl | rfl | rfl | rfl | rfl <;> rfl) hk2 hb3 rfl zeros_ok rfl rfl rfl ⟨by decide, by decide, by decide⟩ ?_; rw [he3, hm3]; conv => whnf)
   | (refine ⟨?_, trivial⟩; conv => whnf)
   | (refine ⟨?_, ?_, trivial⟩ <;> conv => whnf)
   | (refine ⟨?_, ?_, ?_, trivial⟩ <;> conv => whnf))
 refine satq_vcN ?_
 conv => whnf
 (repeat ((first | apply k1 | apply k2 | apply k3 | apply k4 | refine k5 (by decide) ?_ | refine k6 (by decide) ?_); conv => whnf))
 refine ⟨by decide, ?_⟩
 conv => whnf
 (repeat ((first | apply k1 | apply k2 | apply k3 | apply k4 | refine k5 (by decide) ?_ | refine k6 (by decide) ?_); conv => whnf))
 refine atq_ret ?_
 conv => whnf
 exact fin_val rfl fun w2 hB => ⟨rfl, hB⟩
end Go.Proofs.YtnhdcclpjildjaaGreat
namespace Go.Proofs.YtnhdcclpjildjaaGreat
open Go.RowKit

theorem call_ex {P : Program} {w0 : World} {G : Gs} {fid : FuncId} {args : List AV} {xs : List Value} {S : List Ow} {K : AV → List Ow → Prop} (post : Value → Prop) (hx : avals args = some xs) (hok : fnOk P fid = true)
  (h : ∀ r w, Rel w0 G S r w → Calls P fid xs.toArray w fun e w' => ∃ v, e = .returned v ∧ post v ∧ Below w.heap.size w w') (hK : ∀ v, post v → K (AV.of v) S) : CallS P w0 G fid args S K := by
 refine ⟨hok, fun r w us hR hd => ?_⟩
 obtain rfl := avals_den hx hd
 exact (h r w hR).mono fun e w' ⟨v, he, hp, hB⟩ => ⟨_, v, S, r, he, AV.of_den r v, hR.below hB, Env.le.refl r, hK v hp⟩
end Go.Proofs.YtnhdcclpjildjaaGreat
namespace Go.Proofs.YtnhdcclpjildjaaGreat
open Go.RowKit

theorem ex_gen {p : Int → Prop} {a : Int} (h : ∀ m, a = m → p m) : ∃ m, a = m ∧ p m := ⟨a, rfl, h a rfl⟩
def QI.fair (i : QI) : Prop := (0 ≤ i.op ∧ i.op < 64) ∧ word i.imm
set_option maxRecDepth 100000 in
set_option maxHeartbeats 2000000 in
theorem tame_walk (i : QI) (k : Int) (w : World) (hi : i.fair) : Calls Tryz.prog 65 #[qiV i, intV k] w fun e w' => ∃ v, e = .returned v ∧ (∃ j : QI, v = qiV j ∧ j.fair) ∧ Below w.heap.size w w' := by
 have hw1 := hi.2
 unfold word at hw1
 obtain ⟨im, him, him2⟩ : ∃ im, i.imm.tmod 64 = im ∧ word im := ⟨i.imm % 64, Int.tmod_eq_emod_of_nonneg hw1.1, by unfold word; omega⟩
 refine calls_satq [qiV i, intV k] Tryz.func65 Tryz.ntmps65 rfl (by simp) ?_
 refine satq_seqN ?_
 conv => whnf
 refine satq_mid (α := { j : QI // j.fair }) (fun _ => [(2, .p (.c (.ref 0 0))), (4, .p (.c (.ref 1 0)))]) (fun x => [Ow.cells qiT ((qiL x.1).map .v), Ow.cells qiT ((qiL QI.zero).map .v)]) ?_ fun x => ?_
 ·refine satq_vcN ?_
  conv => whnf
  have w32 : ∀ x, word (IntKind.u32.wrap x) := fun x => by rw [wr32]; unfold word; omega
  repeat' (first
   | exact atq_mid (⟨i, hi⟩ : { j : QI // j.fair }) (ent_same rfl (aI rfl (aI rfl trivial)) (aI sM (aI sM trivial)))
   | exact atq_mid ⟨⟨i.op, i.d, _, i.b, im⟩, hi.1, him2⟩ (ent_same rfl (aI rfl (aI rfl trivial)) (aI sM (aI sM trivial)))
   | (rename_i m hm; exact atq_mid ⟨⟨i.op, i.d, _, i.b, m⟩, hi.1, hm ▸ w32 _⟩ (ent_same rfl (aI rfl (aI rfl trivial)) (aI sM (aI sM trivial))))
   | (rename_i m hm; exact atq_mid (⟨⟨i.op, i.d, m, i.b, i.imm⟩, ⟨hi.1, hi.2⟩⟩ : { j : QI // j.fair }) (ent_same rfl (aI rfl (aI rfl trivial)) (aI sM (aI sM trivial))))
   | exact atq_mid (⟨⟨i.op, i.d, 4, i.b, i.imm⟩, ⟨hi.1, hi.2⟩⟩ : { j : QI // j.fair }) (ent_same rfl (aI rfl (aI rfl trivial)) (aI sM (aI sM trivial)))
   | (refine call_con rfl (by kernel_rfl) (fun r w' hR => mod_ref k _ w' (by decide)) ?_; conv => whnf)
   | (refine ⟨fun _ => ?_, nT⟩; (conv=>whnf)) | (refine ⟨fun _ => ?_, nF⟩; (conv=>whnf)) | (refine ⟨nF, fun _ => ?_⟩; (conv=>whnf)) | (refine ⟨nT, fun _ => ?_⟩; (conv=>whnf))
   | (refine ⟨fun hc => ?_, fun hc => ?_⟩ <;> conv => whnf)
   | (refine ex_gen fun m hm => ?_; conv => whnf)
   | (refine ⟨by decide, im, him, ?_⟩; conv => whnf))
 obtain ⟨j, hj⟩ := x
 dsimp only
 refine satq_vcN ?_
 conv => whnf
 refine atq_ret ?_
 conv => whnf
 exact fin_val rfl fun w2 hB => ⟨_, rfl, ⟨j, rfl, hj⟩, hB⟩
end Go.Proofs.YtnhdcclpjildjaaGreat
namespace Go.Proofs.YtnhdcclpjildjaaGreat
open Go.RowKit

set_option maxRecDepth 100000 in
set_option maxHeartbeats 2000000 in
theorem words_walk (w : World) (A : Option Addr) (n c : Nat) (_hn : n < 9223372036854775808) (hA : ProgAt w A n) : Calls Tryz.prog 37 #[.slice A n c] w fun e w' => ∃ v, e = .returned v ∧ (∃ l : List Int, v = strV l ∧ l.length ≤ 400 ∧ ∀ x ∈ l, 0 ≤ x ∧ x < 256) ∧ Below w.heap.size w w' := by
 refine calls_satq [.slice A n c] Tryz.func37 Tryz.ntmps37 rfl (by simp) ?_
 refine satq_seqN ?_
 conv => whnf
 refine satq_seqN ?_
 conv => whnf
 refine satq_mid (α := { l : List Int // l.length ≤ 400 ∧ ∀ x ∈ l, 0 ≤ x ∧ x < 256 }) (fun x => [(3, one (strV x.1))]) (fun _ => []) ?_ fun x => ?_
 ·refine satq_seqN ?_
  conv => whnf
  refine satq_block ?_
  refine satq_loop (α := { x : Nat × List Int // x.1 ≤ 100 ∧ x.1 ≤ n ∧ x.2.length = 4 * x.1 ∧ ∀ y ∈ x.2, 0 ≤ y ∧ y < 256 }) (fun x => [(0, one (.slice A n c)), (3, one (strV x.1.2)), (4, one (intV (x.1.1 : Int)))]) (fun _ => []) (fun x => 100 - x.1.1)
   ⟨(0, []), by simp⟩ (ent_same rfl (aI rfl (aI rfl (aI rfl trivial))) trivial) fun x => ?_
  obtain ⟨⟨j, l⟩, hj, hjn, hl, hb⟩ := x
  dsimp only at hj hjn hl hb ⊢
  have hout : ¬ (j < n ∧ j < 100) → l.length ≤ 400 ∧ ∀ x ∈ l, 0 ≤ x ∧ x < 256 := fun _ => ⟨by omega, hb⟩
  refine satq_seqN ?_
  conv => whnf
  refine ⟨fun hc => ?_, fun hc => ?_⟩
  ·have hlt : j < n := by simpa using hc
   conv => whnf
   (repeat ((first | apply k1 | apply k2 | apply k3 | apply k4 | refine k5 (by decide) ?_ | refine k6 (by decide) ?_); conv => whnf))
   refine ⟨fun hc => ?_, fun hc => ?_⟩
   ·have hlt2 : j < 100 := by
     have : decide ((j : Int) < 100) = true := hc
     simp at this; omega
    conv => whnf
    obtain ⟨b, off, n0, n1, n2, n3, n4, rfl, hcell⟩ := hA j hlt
    refine satq_in (satq_block ?_)
    refine satq_mid (α := { y : Int // word y }) (fun y => [(0, one (.slice (some ⟨b, off, none⟩) n c)), (3, one (strV l)), (4, one (intV (j : Int))), (5, one (.int .u32 y.1))]) (fun _ => []) ?_ fun y => ?_
    ·refine satq_vcN ?_
     refine sat_anyG (.q 0 (.q 1 (.q 2 (.q 3 (.q 5 (.q 6 (.q 7 (.q 8 (.q 9 (.alt 4 (.alt 10 (.alt 11 (.alt 12 (.alt 13 (.alt 14 (.alt 15 (.alt 16 .done .no) .no) (.alt 15 (.alt 14 (.alt 16 .done .no) .no) .no)) (.alt 14 (.alt 13 (.alt 15 (.alt 16 .done .no) .no) .no) .no)) .no) .no) .no) .no)))))))))) mixed (by kernel_rfl) (by kernel_rfl) ?_
     conv => whnf
     have hc4 : CellsAt w Gs.nil b (off + j * 5 + 4) [intV n4] := cells_one hcell.1 (by simp) (hcell.2.2 4 _ rfl)
     (refine ⟨⟨by omega, by omega⟩, ?_⟩; (conv=>whnf))
     refine ⟨[intV n0, intV n1, intV n2, intV n3, intV n4], hcell, rfl, ?_⟩
     conv => whnf
     (refine ⟨⟨by omega, by omega⟩, ?_⟩; (conv=>whnf))
     refine q_index_ptr (size := 1) b (off + j * 5) 5 4 rfl rfl rfl rfl rfl rfl (by decide) (by decide) ?_
     conv => whnf
     refine ⟨_, hc4, ?_⟩
     conv => whnf
     refine ⟨?_, trivial⟩
     conv => whnf
     refine call_con rfl (by kernel_rfl) (fun r w' hR => made_ref03 n0 n1 n2 n3 n4 w') ?_
     have hmk := madeQ_ok n0 n1 n2 n3 n4
     obtain ⟨i, hi⟩ : ∃ i, madeQ n0 n1 n2 n3 n4 = i := ⟨_, rfl⟩
     rw [hi] at hmk ⊢
     conv => whnf
     refine ⟨?_, trivial⟩
     conv => whnf
     refine call_ex (fun v => ∃ j : QI, v = qiV j ∧ j.fair) rfl (by kernel_rfl) (fun r w' hR => tame_walk i n4 w' ⟨⟨hmk.op.1, by have := hmk.op.2; omega⟩, hmk.imm⟩) fun v hv => ?_
     obtain ⟨i2, rfl, hf⟩ := hv
     conv => whnf
     refine ⟨?_, trivial⟩
     conv => whnf
     refine call_con rfl (by kernel_rfl) (fun r w' hR => encode_ref i2 w' hf.1 hf.2) ?_
     obtain ⟨y, hy⟩ : ∃ y, encQ i2 = y := ⟨_, rfl⟩
     have hyw : word (y.getD 0) := by
      rw [← hy]; unfold encQ
      split
      ·rename_i hv; exact (decQ_word hv hf.2).2
      ·unfold word; decide
     rw [hy]
     clear hy
     conv => whnf
     repeat' (first
      | exact atq_mid ⟨y.getD 0, hyw⟩ (ent_same rfl (aI rfl (aI rfl (aI rfl (aI rfl trivial)))) trivial)
      | (refine ⟨?_, trivial⟩; conv => whnf)
      | (refine ⟨?_, ?_, trivial⟩ <;> conv => whnf))
    obtain ⟨y, hyw⟩ := y
    dsimp only
    refine satq_vcN ?_
    conv => whnf
    refine call_con (x := strV (putL y)) rfl (by kernel_rfl) (fun r w' hR => put_walk y w' hyw) ?_
    conv => whnf
    refine q_cat_str l (putL y) rfl rfl rfl (by unfold putL; rw [putTo_length]; omega) ?_
    conv => whnf
    refine atq_block (atq_on ?_)
    refine satq_vcN ?_
    conv => whnf
    refine ⟨(j : Int) + 1, by rw [wr64] <;> omega, ?_⟩
    conv => whnf
    refine atq_next ⟨(j + 1, l ++ putL y), by omega, by omega, ?_, ?_⟩ (ent_same rfl (aI rfl (aI rfl (aI rfl trivial))) trivial) (by dsimp only; omega)
    ·dsimp only; unfold putL; rw [List.length_append, putTo_length]; omega
    ·intro x hx
     rcases List.mem_append.1 hx with hx | hx
     ·exact hb x hx
     ·exact putTo_bytes _ _ x hx
   ·conv => whnf
    exact atq_out (atq_exit (atq_mid ⟨l, by omega, hb⟩ (ent_same rfl (aI rfl trivial) trivial)))
  ·conv => whnf
   (repeat ((first | apply k1 | apply k2 | apply k3 | apply k4 | refine k5 (by decide) ?_ | refine k6 (by decide) ?_); conv => whnf))
   exact atq_out (atq_exit (atq_mid ⟨l, by omega, hb⟩ (ent_same rfl (aI rfl trivial) trivial)))
 obtain ⟨l, hl, hb⟩ := x
 dsimp only
 refine satq_vcN ?_
 conv => whnf
 refine atq_ret ?_
 conv => whnf
 exact fin_val rfl fun w2 hB => ⟨_, rfl, ⟨l, rfl, hl, hb⟩, hB⟩
end Go.Proofs.YtnhdcclpjildjaaGreat
namespace Go.Proofs.YtnhdcclpjildjaaGreat
open Go.ChangeShapes Go.WideShapes Go.ChangeAt Go.RowKit

set_option maxRecDepth 100000 in
theorem open_prog {H : Type} {enc : TypeId × Value → H} {W : World} {a : Option Addr} {len cap : Nat} {d : DataW H} {p : List MemPlace} (h : DataW.Trod enc Tryz.prog W 0 (fun _ => true) true 22 (.slice a len cap) d p) :
  ProgAt W a len ∧ len < 9223372036854775808 := by
 obtain ⟨fuel, hf⟩ := h
 have hc5 : Tryz.prog.cellsOf 58 = 5 := by kernel_rfl
 rcases DataW.trod_slice Tryz.underlying22 hf with ⟨hcs, _⟩ | ⟨x, l, c, elems, rest, n, _, hcs, _, _, hl, hm, hlen, hel, _, _⟩
 ·simp [Value.cells] at hcs
  obtain ⟨rfl, rfl, rfl⟩ := hcs
  exact ⟨fun j hj => by omega, by omega⟩
 ·simp [Value.cells] at hcs
  obtain ⟨rfl, rfl, rfl⟩ := hcs
  refine ⟨fun j hj => ?_, by unfold maxLen at hm; omega⟩
  have h1 := hel j hj
  rw [List.getElem?_eq_getElem (by omega), hc5, Option.bind_eq_some_iff] at h1
  obtain ⟨cs, h2, h3⟩ := h1
  obtain ⟨zs, rfl, hz, _⟩ := open_ints_arr (k := .i64) Tryz.underlying58 Tryz.underlying3 (by kernel_rfl) (by kernel_rfl) h3
  obtain ⟨_, _, h4⟩ := World.cells?_some h2
  obtain ⟨b, off, spot⟩ := x
  have hs : spot = none := by
   have k1 := hel 0 (by omega)
   rw [List.getElem?_eq_getElem (by omega), hc5, Option.bind_eq_some_iff] at k1
   obtain ⟨cs0, k2, k3⟩ := k1
   obtain ⟨ys, rfl, hy, _⟩ := open_ints_arr (k := .i64) Tryz.underlying58 Tryz.underlying3 (by kernel_rfl) (by kernel_rfl) k3
   obtain ⟨_, _, k4⟩ := World.cells?_some k2
   have h0 := k4 0 (by omega)
   rw [List.getElem?_map, List.getElem?_eq_getElem (by omega)] at h0
   exact World.cell?_spot h0
  subst hs
  match zs, hz with
  | [z0, z1, z2, z3, z4], _ =>
   have h6 : ∀ i u, [intV z0, intV z1, intV z2, intV z3, intV z4][i]? = some u → W.cell? ⟨b, off + j * 5 + i, none⟩ = some u := fun i u hi => by
    have hi5 : i < 5 := by
     rcases Nat.lt_or_ge i 5 with h7 | h7
     ·exact h7
     ·rw [List.getElem?_eq_none (by simpa using h7)] at hi; cases hi
    have h7 := h4 i hi5
    rw [addr_add, addr_add] at h7
    rw [h7]; exact hi
   exact ⟨b, off, z0, z1, z2, z3, z4, rfl, cells_lt (h6 0 _ rfl), by simp, h6⟩
set_option maxRecDepth 100000 in
theorem open_n4 {H : Type} {enc : TypeId × Value → H} {W : World} {r : Reach} {b0 : Nat} {v : Value} {d : DataW H} {p : List MemPlace} (hv : Value.okWide Tryz.prog W r b0 23 v) (h : DataW.Trod enc Tryz.prog W 0 (fun _ => true) true 23 v d p) :
  ∃ a b c e : Int, v = .agg #[intV a, intV b, intV c, intV e] ∧ (-9223372036854775808 ≤ a ∧ a < 9223372036854775808) ∧ (-9223372036854775808 ≤ b ∧ b < 9223372036854775808) ∧ (-9223372036854775808 ≤ c ∧ c < 9223372036854775808) ∧ (-9223372036854775808 ≤ e ∧ e < 9223372036854775808) := by
 simp only [Value.okWide, Tryz.underlying23] at hv
 obtain ⟨cs, rfl, hsz, _⟩ := hv
 obtain ⟨fuel, hf⟩ := h
 obtain ⟨zs, e, l, w⟩ := open_ints_arr (k := .i64) Tryz.underlying23 Tryz.underlying3 (by kernel_rfl) (by kernel_rfl) hf
 have e : cs.toList = zs.map (Value.int .i64) := e
 match zs, l with
 | [z0, z1, z2, z3], _ =>
  refine ⟨z0, z1, z2, z3, ?_, int_wf (w _ (by simp)), int_wf (w _ (by simp)), int_wf (w _ (by simp)), int_wf (w _ (by simp))⟩
  show Value.agg cs = Value.agg ([z0, z1, z2, z3].map (Value.int .i64)).toArray
  rw [← e]
set_option maxRecDepth 100000 in
theorem open_q2 {H : Type} {enc : TypeId × Value → H} {W : World} {r : Reach} {b0 : Nat} {v : Value} {d : DataW H} {p : List MemPlace} (hv : Value.okWide Tryz.prog W r b0 24 v) (h : DataW.Trod enc Tryz.prog W 0 (fun _ => true) true 24 v d p) :
  ∃ a b : Int, v = .agg #[intV a, intV b] ∧ (-9223372036854775808 ≤ a ∧ a < 9223372036854775808) ∧ (-9223372036854775808 ≤ b ∧ b < 9223372036854775808) := by
 simp only [Value.okWide, Tryz.underlying24] at hv
 obtain ⟨cs, rfl, hsz, _⟩ := hv
 obtain ⟨fuel, hf⟩ := h
 obtain ⟨zs, e, l, w⟩ := open_ints_arr (k := .i64) Tryz.underlying24 Tryz.underlying3 (by kernel_rfl) (by kernel_rfl) hf
 have e : cs.toList = zs.map (Value.int .i64) := e
 match zs, l with
 | [z0, z1], _ =>
  refine ⟨z0, z1, ?_, int_wf (w _ (by simp)), int_wf (w _ (by simp))⟩
  show Value.agg cs = Value.agg ([z0, z1].map (Value.int .i64)).toArray
  rw [← e]
end Go.Proofs.YtnhdcclpjildjaaGreat
namespace Go.Proofs.YtnhdcclpjildjaaGreat
open Go.RowKit

abbrev stL (s : St) (T : List Value) : List Value := u32V s.pc :: u32V (s.R 0) :: u32V (s.R 1) :: u32V (s.R 2) :: u32V (s.R 3) :: u32V (s.R 4) :: u32V (s.R 5) :: u32V (s.R 6) :: u32V (s.R 7) :: u32V (s.R 8) :: u32V (s.R 9) :: u32V (s.R 10) :: u32V (s.R 11) :: u32V (s.R 12) :: u32V (s.R 13) :: u32V (s.R 14) :: u32V (s.R 15) :: u32V s.f :: u32V s.c0 :: u32V s.c1 :: u32V s.c2 :: u32V s.c3 :: intV s.steps :: intV s.due :: T
abbrev stV (s : St) : Value := .agg (stL s []).toArray
abbrev stT : TypeId := 39
end Go.Proofs.YtnhdcclpjildjaaGreat
namespace Go.Proofs.YtnhdcclpjildjaaGreat
open Go.RowKit

theorem stC_of (s : St) : StC (stL s []) := ⟨rfl, fun _ => rfl⟩
theorem StC.clen {L : List Value} (h : StC L) : (L.map CV.v).length = 24 := by rw [List.length_map]; exact h.len
end Go.Proofs.YtnhdcclpjildjaaGreat
namespace Go.Proofs.YtnhdcclpjildjaaGreat
open Go.RowKit

abbrev regU (R : Int → Int) (d x : Int) : Int → Int := fun j => if j = d then x else R j
theorem st_setR (s : St) (T : List Value) {j : Int} (x : Int) (h0 : 0 ≤ j) (h1 : j < 16) : setAll ((stL s T).map CV.v) (0 + 1 + j.toNat * 1) [.v (u32V x)] = (stL { s with R := regU s.R j x } T).map .v := by
 rcases (by omega : j = 0 ∨ j = 1 ∨ j = 2 ∨ j = 3 ∨ j = 4 ∨ j = 5 ∨ j = 6 ∨ j = 7 ∨ j = 8 ∨ j = 9 ∨ j = 10 ∨ j = 11 ∨ j = 12 ∨ j = 13 ∨ j = 14 ∨ j = 15) with rfl | rfl | rfl | rfl | rfl | rfl | rfl | rfl | rfl | rfl | rfl | rfl | rfl | rfl | rfl | rfl <;> rfl
theorem len_ble (l : List CV) {n m : Nat} (hl : l.length = n) (h : m ≤ n) : Nat.ble m l.length = true := Nat.ble_eq_true_of_le (by omega)
theorem len_big (l : List CV) {n : Nat} (hl : l.length = n) (h : 8 < n) : Nat.ble l.length 8 = false := by rw [hl]; exact ble_no h
end Go.Proofs.YtnhdcclpjildjaaGreat
namespace Go.Proofs.YtnhdcclpjildjaaGreat
open Go.RowKit

abbrev stC (s : St) (T : List Value) : List CV := (stL s T).map CV.v
theorem stC_set {s : St} {R : Int → Int} {X : List CV} {j : Int} (x : Int) (hX : X = stC { s with R := R } []) (h0 : 0 ≤ j) (h1 : j < 16) : setAll X (0 + 1 + j.toNat * 1) [.v (u32V x)] = stC { s with R := regU R j x } [] := by
 rw [hX]; exact st_setR { s with R := R } [] x h0 h1
end Go.Proofs.YtnhdcclpjildjaaGreat
namespace Go.Proofs.YtnhdcclpjildjaaGreat
open Go.RowKit

theorem tl_ok {M : MemP} {n p : Nat} (hM : M.ok n p) (t : Tl) : (M.tl t).ok n p := ⟨hM.ld, hM.li, hM.lr, hM.lod, hM.loi, hM.np, hM.pmax, hM.db, hM.ib, hM.rb⟩
end Go.Proofs.YtnhdcclpjildjaaGreat
namespace Go.Proofs.YtnhdcclpjildjaaGreat
open Go.RowKit

theorem call_newObjsX {P : Program} {w0 : World} {G : Gs} {fid : FuncId} {args : List AV} {S : List Ow} {K : AV → List Ow → Prop} {α : Type} (U V : α → List Ow) (post : α → Prop) (hok : fnOk P fid = true) (hsh : ∀ x, post x → ShAll S.length (U x) (V x)) (hob : ∀ x, post x → ObAll (U x).length (U x))
  (h : ∀ r w xs, Rel w0 G S r w → avdenL r args xs → Calls P fid xs.toArray w fun e w' => ∃ g gs x, e = .returned (.pointer (some ⟨g, 0, none⟩)) ∧ post x ∧ NewObjs w w' (g :: gs) (U x)) (hK : ∀ x, post x → K (.p (.c (.ref S.length 0))) (S ++ V x)) : CallS P w0 G fid args S K := by
 refine ⟨hok, fun r w us hR hd => ?_⟩
 refine (h r w us hR hd).mono fun e w' ⟨g, gs, x, he, hp, hn⟩ => ?_
 obtain ⟨h1, h2⟩ := hR.newObjs hn (hsh x hp) (hob x hp)
 refine ⟨_, _, _, _, he, den_mk_ref ?_, h1, h2, hK x hp⟩
 show (if S.length < S.length then r.blk S.length else (g :: gs)[S.length - S.length]?) = some g
 rw [if_neg (by omega), Nat.sub_self]; rfl
end Go.Proofs.YtnhdcclpjildjaaGreat
namespace Go.Proofs.YtnhdcclpjildjaaGreat
open Go.RowKit

def chainOk (ops : Array Oper) : List Nat → Array Bool → Bool
 | [], _ => true
 | i :: qs, listed => Region.free .any ops listed i && (Region.ready .any ops listed).contains i && chainOk ops qs (listed.setIfInBounds i true)
def chainL : List Nat → Array Bool → Array Bool
 | [], listed => listed
 | i :: qs, listed => chainL qs (listed.setIfInBounds i true)
section
variable (P : Program) (W : World) (G : Gs) (N : Nd)
def chK (ops : Array Oper) (l : List Oper) : List Nat → Fr → List Ow → (Fr → List Ow → Prop) → Prop
 | [], f, T, K => K f T
 | i :: qs, f, T, K => (match l[i]? with
  | none => False
  | some o => (match dstOk N.n o.dst with
   | false => False
   | true => (match guardOf ops f o with
    | some true => firstG P W G f T o fun v => f.putK o.dst v fun f' => chK ops l qs f' T K
    | _ => False)))
end
section
variable {P : Program} {W : World} {G : Gs} {N : Nd} {ops : Array Oper} {l : List Oper} {α : Type}
theorem chK_sound (hl : ∀ i : Nat, l[i]? = ops[i]?) (hns : Region.noSelect ops = true) {K : Fr → List Ow → Prop} {Q : Exit → Act → World → Prop} (hQ0 : ∀ c a w, ¬ Q (.panic c) a w) {m : Nat} :
  ∀ (qs : List Nat) (listed : Array Bool) (f : Fr) (T : List Ow), chainOk ops qs listed = true → chK P W G N ops l qs f T K → (∀ f' a w, K f' T → Good W G N f' T a w → wpAnyH P .any ops Q (Held W G) m (chainL qs listed) a w) →
   ∀ a w, Good W G N f T a w → wpAnyH P .any ops Q (Held W G) (qs.length + m) listed a w
 | [], listed, f, T, _, h, hK, a, w, hg => by
  rw [List.length_nil, Nat.zero_add]
  exact hK f a w h hg
 | i :: qs, listed, f, T, hB, h, hK, a, w, hg => by
  simp only [chainOk, Bool.and_eq_true] at hB
  obtain ⟨⟨hB1, hB2⟩, hB3⟩ := hB
  rw [List.length_cons, show qs.length + 1 + m = (qs.length + m) + 1 by omega]
  unfold chK at h
  split at h
  ·exact h.elim
  ·rename_i o ho
   rw [hl] at ho
   split at h
   ·exact h.elim
   ·rename_i hdst
    obtain ⟨r, hR, hf, hN, hd⟩ := hg
    split at h
    ·rename_i hgd
     have hw := guard_wanted hf hgd
     obtain ⟨v, u, hK1, hden, hrun⟩ := firstG_sound h hR hf
     have hK1 := putK_iff.1 hK1
     refine wpAnyH_take (v := u) ho hns hB1 hB2 (fun c a w h => absurd h (hQ0 c _ w)) (.inl ⟨hw, hrun⟩) hR.held ?_
     exact chK_sound hl hns hQ0 qs _ _ T hB3 hK1 hK _ w ⟨r, hR, hf.put hden (by rw [hN]; exact hdst), (put_size a _ _).trans hN, (put_defers a _ _).trans hd⟩
    ·exact h.elim
theorem sat_mixG {id : Nat} {f : Fr} {S : List Ow} {K : Exit → Fr → List Ow → Prop} (qs : List Nat) (listed : α → Array Bool) (nx : α → Nx α) (left : α → Nat) (T : α → Fr) (U : α → List Ow) (x0 : α) (hm : P.follows .mixedOrders = true) (hns : Region.noSelect l.toArray = true)
  (h0 : (chainOk l.toArray qs (Array.replicate l.toArray.size false) && eqBools (listed x0).toList (chainL qs (Array.replicate l.toArray.size false)).toList && Nat.ble (qs.length + left x0) l.length) = true) (hB : ∀ x, dagB l.toArray listed nx left x = true)
  (h : chK P W G N l.toArray l qs f S fun f' S' => Ent W G N f' S' (T x0) (U x0)) (hnode : ∀ x, nodeK P W G N l.toArray l T U (K .normal) x (nx x)) : Sat none P W G N (.region id l.toArray true) f S K := by
 refine ⟨fun n a w ⟨r, hR, hf, hN, hd⟩ => wpIn_wide.2 ?_⟩
 simp only [Bool.and_eq_true] at h0
 obtain ⟨⟨h1, h2⟩, h3⟩ := h0
 have h3 := Nat.le_of_ble_eq_true h3
 refine Code.wp_mono (Q := fun e a w => match e with | .normal => PostK W G N K .normal a w | _ => False) (fun e a w h => by cases e <;> first | exact h | exact h.elim) (wp_region_held (S := Held W G) hm ?_)
 have := chK_sound (P := P) (W := W) (N := N) (Q := fun e a w => match e with | .normal => PostK W G N K .normal a w | _ => False) (m := l.length - qs.length) (fun i => by simp) hns (fun c a w h => h) qs (Array.replicate l.toArray.size false) f S h1 h (fun f' a' w' hK hg => by
  have := dag_sound (P := P) (W := W) (N := N) (ops := l.toArray) (l := l) (Q := fun e a w => match e with | .normal => PostK W G N K .normal a w | _ => False) (fun i => by simp) hns (fun c a w h => h) (fun f T a w hk hg => ⟨f, T, hk, hg⟩) hB hnode (l.length - qs.length) x0 a' w' (by omega) (hK.out a' w' hg)
  rwa [show listed x0 = chainL qs (Array.replicate l.toArray.size false) from Array.ext' (eqBools_eq h2)] at this) a w.drew ⟨r, hR.drew, hf, hN, hd⟩
 rw [show qs.length + (l.length - qs.length) = l.length by omega] at this
 simpa using this
theorem node_nil {T : α → Fr} {U : α → List Ow} {K : Fr → List Ow → Prop} {x : α} : nodeK P W G N ops l T U K x (.alts []) := fun p hp => by cases hp
theorem node_cons {T : α → Fr} {U : α → List Ow} {K : Fr → List Ow → Prop} {x : α} {i : Nat} {y : α} {m : List (Nat × α)} (h : altK P W G N ops l T U x i y) (hm : nodeK P W G N ops l T U K x (.alts m)) : nodeK P W G N ops l T U K x (.alts ((i, y) :: m)) := fun p hp => by
 rcases List.mem_cons.1 hp with rfl | hp
 ·exact h
 ·exact hm p hp
end
def rowsOnly (S : List Ow) : Bool := S.all fun o => match o with | .row .. => true | .gone => true | _ => false
theorem ent_newrow {w0 : World} {N : Nd} {f : Fr} {A : List Ow} (d : Nat) (e : TypeId) (size : Nat) (hf : f.bnd A.length = true) (hA : rowsOnly A = true) :
  Ent w0 Gs.nil N ((d, .p (.c (.sl A.length 0 0 0))) :: f) (A ++ [.cells e []]) ((d, .p (.c (.row A.length))) :: f) (A ++ [.row e size 0 []]) := ⟨fun a w ⟨r, hR, hd, hN, hdf⟩ => by
 have h1 := hd d
 rw [get_cons_self] at h1
 obtain ⟨b, hb, hu⟩ := den_sl h1
 obtain ⟨b', us, e1, e2, e3⟩ := hR.own A.length (.cells e []) (by simp)
 rw [hb] at e1; injection e1 with e1; subst e1
 obtain rfl : us = [] := e3
 obtain ⟨v, hv⟩ : ∃ v : Value, v = .slice (some ⟨b, 0, none⟩) 0 0 := ⟨_, rfl⟩
 have hlen : (A ++ [Ow.cells e []]).length = A.length + 1 := by simp
 refine ⟨⟨r.blk, fun i => if i = A.length then some v else r.val i⟩, ⟨hR.os, hR.tape, hR.output, hR.size, hR.old, fun i o ho => ?_, hR.inj, hR.new, fun i hi => hR.outB i (by simp at hi ⊢; omega), fun i hi => ?_, hR.first⟩, fun k => ?_, hN, hdf⟩
 ·rcases get_snoc ho with ⟨hi, ho⟩ | ⟨rfl, rfl⟩
  ·have h2 := hR.own i o (by rw [List.getElem?_append_left hi]; exact ho)
   have h3 := List.all_eq_true.1 hA o (List.mem_of_getElem? ho)
   cases o with
   | row e' s' n' xs' =>
    obtain ⟨v', f1, f2, f3⟩ := h2
    exact ⟨v', by show (if i = A.length then some v else r.val i) = some v'; rw [if_neg (by omega)]; exact f1, f2, f3⟩
   | gone => trivial
   | cells => cases h3
   | ext => cases h3
   | view => cases h3
  ·refine ⟨v, by show (if A.length = A.length then some v else _) = some v; rw [if_pos rfl], by rw [hv]; exact hb.symm, by simp, .inr ⟨b, 0, #[], hv, Nat.zero_le _, e2, Nat.le_refl _, Nat.zero_le _, by simp, by simp⟩⟩
 ·show (if i = A.length then some v else r.val i) = none
  have : A.length + 1 ≤ i := by simpa using hi
  rw [if_neg (by omega)]
  exact hR.outV i (by rw [hlen]; exact this)
 ·have hag : r.agree A.length ⟨r.blk, fun i => if i = A.length then some v else r.val i⟩ := fun i hi => ⟨rfl, by show r.val i = (if i = A.length then some v else r.val i); rw [if_neg (by omega)]⟩
  have h4 := hd k
  simp only [Fr.get] at h4 ⊢
  split
  ·rename_i hk
   have hk : d = k := Nat.eq_of_beq_eq_true hk
   subst hk
   show (if A.length = A.length then some v else _) = some _
   rw [if_pos rfl, hv, hu]
  ·rename_i hk
   rw [hk] at h4
   exact AV.den_agree hag _ _ (Fr.bnd_get k hf) h4⟩
end Go.Proofs.YtnhdcclpjildjaaGreat
