/- For all limits, the lifted block has at most as many instructions, at least one, and at most 64: for every input, without any condition. -/
import Derived.Test.YtnhdcclpjildjaaGreatL1
import Derived.Test.YtnhdcclpjildjaaGreatL10
import Derived.Test.YtnhdcclpjildjaaGreatL11
import Derived.Test.YtnhdcclpjildjaaGreatL12
import Derived.Test.YtnhdcclpjildjaaGreatL13
import Derived.Test.YtnhdcclpjildjaaGreatL14
import Derived.Test.YtnhdcclpjildjaaGreatL15
import Derived.Test.YtnhdcclpjildjaaGreatL3
import Derived.Test.YtnhdcclpjildjaaGreatL4
import Derived.Test.YtnhdcclpjildjaaGreatL5
import Derived.Test.YtnhdcclpjildjaaGreatL6
import Derived.Test.YtnhdcclpjildjaaGreatL7
import Derived.Test.YtnhdcclpjildjaaGreatL8
import Derived.Test.YtnhdcclpjildjaaGreatL9
import Derived.Test.YtnhdcclpjildjaaGreatMLimitsA
import Derived.Test.YtnhdcclpjildjaaGreatMLimitsB
import Derived.Test.YtnhdcclpjildjaaGreatMLimitsC
import Derived.Test.YtnhdcclpjildjaaGreatMLimitsD
import Derived.Test.YtnhdcclpjildjaaGreatMLimitsG
import Derived.Test.YtnhdcclpjildjaaGreatMLimitsH
namespace Go.Proofs.YtnhdcclpjildjaaGreat
open Go.RowKit

theorem cpu_grp (us : List Value) (n p : Nat) (M : MemP) : grpOk Gs.nil (cpuU 0 us n p M) = true := by
  show sbnd 7 (cpuU 0 us n p M) = true
  have h : bndL 7 (us.map .v ++ [.ref 1 0]) = true := by
    induction us with
    | nil => rfl
    | cons u us ih => simpa only [List.map_cons, List.cons_append, bndL, CV.bnd] using ih
  simp only [sbnd, Ow.bnd, bndL_vals, bndL, CV.bnd, h]
  rfl
theorem cpu_mem (us : List Value) (n p : Nat) (M : MemP) (T : List Ow) : ∀ i, i < 6 → (cpuU 0 us n p M ++ T)[1 + i]? = (memS 1 n p M)[i]? := fun i hi => by
  rcases (by omega : i = 0 ∨ i = 1 ∨ i = 2 ∨ i = 3 ∨ i = 4 ∨ i = 5) with rfl | rfl | rfl | rfl | rfl | rfl <;> rfl
set_option maxRecDepth 100000 in
set_option maxHeartbeats 8000000 in
theorem sanity14 (w : World) : Calls Tryz.prog 13 #[] w fun e w' => e = .returned (.bool true) ∧ Below w.heap.size w w' := by
  refine calls_satq [] Tryz.func13 Tryz.ntmps13 rfl (by simp) ?_
  refine satq_seqN ?_
  conv => whnf
  refine satq_seqN ?_
  conv => whnf
  refine call_newObjs (xs := [intV ((2 : Nat) : Int)]) (cpuU 0 stZ 512 2 (MemP.zero 2)) (cpuU 0 stZ 512 2 (MemP.zero 2)) rfl (by kernel_rfl) (cpuU_sh 0 stZ 512 2 _) (cpuU_ob stZ 512 2 _) (fun r w hR => cpu_new 2 w (by omega)) ?_
  conv => whnf
  refine satq_seqN ?_
  conv => whnf
  refine satq_seqN ?_
  conv => whnf
  have hz : (MemP.zero 2).ok 512 2 := san_ok
  obtain ⟨M0, hM0⟩ : ∃ M0, M0 = MemP.zero 2 := ⟨_, rfl⟩
  rw [← hM0] at hz ⊢
  refine satq_mid (α := Unit) (fun _ => [(0, one (.bool false)), (1, .p (.c (.ref 0 0))), (3, one (strV (sanS 3)))]) (fun _ => cpuU 0 stZ 512 2 M0) ?_ fun _ => ?_
  · refine satq_seqN ?_
    conv => whnf
    refine satq_block ?_
    refine satq_loop (α := { j : Nat // j ≤ 3 }) (fun x => [(0, one (.bool false)), (1, .p (.c (.ref 0 0))), (2, .p (.c (.sl 7 0 3 3))), (3, one (strV (sanS x.1))), (4, one (intV (x.1 : Int)))]) (fun _ => cpuU 0 stZ 512 2 M0 ++ [Ow.cells qiT ((sanI.flatMap qiL).map .v)]) (fun x => 3 - x.1)
      ⟨0, by omega⟩ (ent_same rfl (aI rfl (aI rfl (aI rfl (aI rfl (aI rfl trivial))))) (aI ((aI rfl (Or.inl rfl))) (aI ((aI rfl (Or.inl rfl))) (aI ((aI rfl (Or.inl rfl))) (aI ((aI rfl (Or.inl rfl))) (aI ((aI rfl (Or.inl rfl))) (aI ((aI rfl (Or.inl rfl))) (aI ((aI rfl (Or.inl rfl))) (aI ((aI rfl (Or.inl rfl))) trivial))))))))) fun x => ?_
    obtain ⟨j, hj⟩ := x
    dsimp only
    rcases (by omega : j = 0 ∨ j = 1 ∨ j = 2 ∨ j = 3) with rfl | rfl | rfl | rfl
    · refine satq_seqN ?_
      conv => whnf
      (repeat (first | (refine ⟨fun _ => ?_, (fun h => Bool.noConfusion (show true = false from h))⟩; (conv => whnf)) | (refine ⟨fun _ => ?_, (fun h => Bool.noConfusion (show false = true from h))⟩; (conv => whnf)) | (refine ⟨(fun h => Bool.noConfusion (show false = true from h)), fun _ => ?_⟩; (conv => whnf)) | (refine ⟨(fun h => Bool.noConfusion (show true = false from h)), fun _ => ?_⟩; (conv => whnf)) | (refine ⟨fun _ => ?_, (fun h => absurd h (by decide))⟩; (conv => whnf)) | (refine ⟨(fun h => absurd h (by decide)), fun _ => ?_⟩; (conv => whnf))))
      refine satq_in (satq_block ?_)
      refine satq_seqN ?_
      conv => whnf
      refine ⟨⟨by omega, by omega⟩, ?_⟩
      conv => whnf
      refine call_con (x := encV (some 1077936133)) rfl (by kernel_rfl) (fun r w' hR => encode_ref ⟨16, 1, 0, 0, 5⟩ w' ⟨by decide, by decide⟩ (by unfold word; decide)) ?_
      conv => whnf
      refine satq_vcN ?_
      conv => whnf
      refine call_con (x := strV (putL 1077936133)) rfl (by kernel_rfl) (fun r w' hR => put_walk 1077936133 w' (by unfold word; decide)) ?_
      conv => whnf
      refine q_cat_str (sanS 0) (putL 1077936133) rfl rfl rfl (by decide) ?_
      conv => whnf
      refine atq_block (atq_on ?_)
      refine satq_vcN ?_
      conv => whnf
      refine ⟨1, by rw [wr64] <;> decide, ?_⟩
      conv => whnf
      exact atq_next ⟨1, by omega⟩ (ent_same rfl (aI rfl (aI rfl (aI rfl (aI rfl (aI rfl trivial))))) (aI ((aI rfl (Or.inl rfl))) (aI ((aI rfl (Or.inl rfl))) (aI ((aI rfl (Or.inl rfl))) (aI ((aI rfl (Or.inl rfl))) (aI ((aI rfl (Or.inl rfl))) (aI ((aI rfl (Or.inl rfl))) (aI ((aI rfl (Or.inl rfl))) (aI ((aI rfl (Or.inl rfl))) trivial))))))))) (by dsimp only; decide)
    · refine satq_seqN ?_
      conv => whnf
      (repeat (first | (refine ⟨fun _ => ?_, (fun h => Bool.noConfusion (show true = false from h))⟩; (conv => whnf)) | (refine ⟨fun _ => ?_, (fun h => Bool.noConfusion (show false = true from h))⟩; (conv => whnf)) | (refine ⟨(fun h => Bool.noConfusion (show false = true from h)), fun _ => ?_⟩; (conv => whnf)) | (refine ⟨(fun h => Bool.noConfusion (show true = false from h)), fun _ => ?_⟩; (conv => whnf)) | (refine ⟨fun _ => ?_, (fun h => absurd h (by decide))⟩; (conv => whnf)) | (refine ⟨(fun h => absurd h (by decide)), fun _ => ?_⟩; (conv => whnf))))
      refine satq_in (satq_block ?_)
      refine satq_seqN ?_
      conv => whnf
      refine ⟨⟨by omega, by omega⟩, ?_⟩
      conv => whnf
      refine call_con (x := encV (some 2152202243)) rfl (by kernel_rfl) (fun r w' hR => encode_ref ⟨32, 1, 2, 0, 3⟩ w' ⟨by decide, by decide⟩ (by unfold word; decide)) ?_
      conv => whnf
      refine satq_vcN ?_
      conv => whnf
      refine call_con (x := strV (putL 2152202243)) rfl (by kernel_rfl) (fun r w' hR => put_walk 2152202243 w' (by unfold word; decide)) ?_
      conv => whnf
      refine q_cat_str (sanS 1) (putL 2152202243) rfl rfl rfl (by decide) ?_
      conv => whnf
      refine atq_block (atq_on ?_)
      refine satq_vcN ?_
      conv => whnf
      refine ⟨2, by rw [wr64] <;> decide, ?_⟩
      conv => whnf
      exact atq_next ⟨2, by omega⟩ (ent_same rfl (aI rfl (aI rfl (aI rfl (aI rfl (aI rfl trivial))))) (aI ((aI rfl (Or.inl rfl))) (aI ((aI rfl (Or.inl rfl))) (aI ((aI rfl (Or.inl rfl))) (aI ((aI rfl (Or.inl rfl))) (aI ((aI rfl (Or.inl rfl))) (aI ((aI rfl (Or.inl rfl))) (aI ((aI rfl (Or.inl rfl))) (aI ((aI rfl (Or.inl rfl))) trivial))))))))) (by dsimp only; decide)
    · refine satq_seqN ?_
      conv => whnf
      (repeat (first | (refine ⟨fun _ => ?_, (fun h => Bool.noConfusion (show true = false from h))⟩; (conv => whnf)) | (refine ⟨fun _ => ?_, (fun h => Bool.noConfusion (show false = true from h))⟩; (conv => whnf)) | (refine ⟨(fun h => Bool.noConfusion (show false = true from h)), fun _ => ?_⟩; (conv => whnf)) | (refine ⟨(fun h => Bool.noConfusion (show true = false from h)), fun _ => ?_⟩; (conv => whnf)) | (refine ⟨fun _ => ?_, (fun h => absurd h (by decide))⟩; (conv => whnf)) | (refine ⟨(fun h => absurd h (by decide)), fun _ => ?_⟩; (conv => whnf))))
      refine satq_in (satq_block ?_)
      refine satq_seqN ?_
      conv => whnf
      refine ⟨⟨by omega, by omega⟩, ?_⟩
      conv => whnf
      refine call_con (x := encV (some 3355443200)) rfl (by kernel_rfl) (fun r w' hR => encode_ref ⟨50, 0, 0, 0, 0⟩ w' ⟨by decide, by decide⟩ (by unfold word; decide)) ?_
      conv => whnf
      refine satq_vcN ?_
      conv => whnf
      refine call_con (x := strV (putL 3355443200)) rfl (by kernel_rfl) (fun r w' hR => put_walk 3355443200 w' (by unfold word; decide)) ?_
      conv => whnf
      refine q_cat_str (sanS 2) (putL 3355443200) rfl rfl rfl (by decide) ?_
      conv => whnf
      refine atq_block (atq_on ?_)
      refine satq_vcN ?_
      conv => whnf
      refine ⟨3, by rw [wr64] <;> decide, ?_⟩
      conv => whnf
      exact atq_next ⟨3, by omega⟩ (ent_same rfl (aI rfl (aI rfl (aI rfl (aI rfl (aI rfl trivial))))) (aI ((aI rfl (Or.inl rfl))) (aI ((aI rfl (Or.inl rfl))) (aI ((aI rfl (Or.inl rfl))) (aI ((aI rfl (Or.inl rfl))) (aI ((aI rfl (Or.inl rfl))) (aI ((aI rfl (Or.inl rfl))) (aI ((aI rfl (Or.inl rfl))) (aI ((aI rfl (Or.inl rfl))) trivial))))))))) (by dsimp only; decide)
    · refine satq_seqN ?_
      conv => whnf
      (repeat (first | (refine ⟨fun _ => ?_, (fun h => Bool.noConfusion (show true = false from h))⟩; (conv => whnf)) | (refine ⟨fun _ => ?_, (fun h => Bool.noConfusion (show false = true from h))⟩; (conv => whnf)) | (refine ⟨(fun h => Bool.noConfusion (show false = true from h)), fun _ => ?_⟩; (conv => whnf)) | (refine ⟨(fun h => Bool.noConfusion (show true = false from h)), fun _ => ?_⟩; (conv => whnf)) | (refine ⟨fun _ => ?_, (fun h => absurd h (by decide))⟩; (conv => whnf)) | (refine ⟨(fun h => absurd h (by decide)), fun _ => ?_⟩; (conv => whnf))))
      exact atq_out (atq_exit (atq_mid () (ent_drop (aI rfl (aI rfl (aI rfl trivial))) (aI ((aI rfl (Or.inl rfl))) (aI ((aI rfl (Or.inl rfl))) (aI ((aI rfl (Or.inl rfl))) (aI ((aI rfl (Or.inl rfl))) (aI ((aI rfl (Or.inl rfl))) (aI ((aI rfl (Or.inl rfl))) (aI ((aI rfl (Or.inl rfl))) trivial))))))) rfl (cpu_grp stZ 512 2 M0))))
  obtain ⟨M1, hM1⟩ : ∃ M1, M1 = M0.codeTo 1 (sanS 3) (min (sanS 3).length 256) := ⟨_, rfl⟩
  obtain ⟨M2, hM2⟩ : ∃ M2, M2 = M1.protect 1 4 := ⟨_, rfl⟩
  have hsb : ∀ x ∈ sanS 3, 0 ≤ x ∧ x < 256 := by decide
  have hk1 : M1.ok 512 2 := by rw [hM1]; exact codeTo_ok hz 1 hsb _
  have hk2 : M2.ok 512 2 := by rw [hM2]; exact protect_ok hk1 1 (by decide)
  have hsan : M2 = sanM := by rw [hM2, hM1, hM0]; kernel_rfl
  have hl1 : liftM M2 256 64 = sanB1 := by rw [hsan]; exact san_lift1
  have hl2 : liftM M2 256 1 = sanB2 := by rw [hsan]; exact san_lift2
  have hl3 : liftM M2 264 9 = sanB3 := by rw [hsan]; exact san_lift3
  refine satq_mid (α := Unit) (fun _ => [(0, one (.bool false)), (1, .p (.c (.ref 0 0)))]) (fun _ => cpuU 0 stZ 512 2 M1) ?_ fun _ => ?_
  · refine satq_vcN ?_
    conv => whnf
    refine call_memW (pre := []) (suf := [one (intV 1), one (strV (sanS 3))]) 1 512 2 M0 M1 (.tuple #[]) (fun i hi => by have := cpu_mem stZ 512 2 M0 [] i hi; rwa [List.append_nil] at this) rfl rfl (by kernel_rfl) (fun w g gs hk hU => by rw [hM1]; exact mem_setCode M0 512 2 1 (sanS 3) w g gs hU hz (by decide) hsb (by decide)) ?_
    conv => whnf
    exact atq_mid () (ent_same rfl (aI rfl (aI rfl trivial)) (aI ((aI rfl (Or.inl rfl))) (aI ((aI rfl (Or.inl rfl))) (aI ((aI rfl (Or.inl rfl))) (aI ((aI rfl (Or.inl rfl))) (aI ((aI rfl (Or.inl rfl))) (aI ((aI rfl (Or.inl rfl))) (aI ((aI rfl (Or.inl rfl))) trivial))))))))
  refine satq_mid (α := Unit) (fun _ => [(0, one (.bool false)), (1, .p (.c (.ref 0 0)))]) (fun _ => cpuU 0 stZ 512 2 M2) ?_ fun _ => ?_
  · refine satq_vcN ?_
    conv => whnf
    refine call_memW (pre := []) (suf := [one (intV 1), one (intV 4)]) 1 512 2 M1 M2 (.tuple #[]) (fun i hi => by have := cpu_mem stZ 512 2 M1 [] i hi; rwa [List.append_nil] at this) rfl rfl (by kernel_rfl) (fun w g gs hk hU => by rw [hM2]; exact mem_protect M1 512 2 1 4 w g gs hU hk1 (by decide) (by decide) (by decide)) ?_
    conv => whnf
    exact atq_mid () (ent_same rfl (aI rfl (aI rfl trivial)) (aI ((aI rfl (Or.inl rfl))) (aI ((aI rfl (Or.inl rfl))) (aI ((aI rfl (Or.inl rfl))) (aI ((aI rfl (Or.inl rfl))) (aI ((aI rfl (Or.inl rfl))) (aI ((aI rfl (Or.inl rfl))) (aI ((aI rfl (Or.inl rfl))) trivial))))))))
  refine satq_mid (α := Unit) (fun _ => [(0, one (.bool false)), (1, .p (.c (.ref 0 0)))]) (fun _ => cpuU 0 (u32V 256 :: stZ.tail) 512 2 M2) ?_ fun _ => ?_
  · refine satq_vcN ?_
    conv => whnf
    exact atq_mid () (ent_same rfl (aI rfl (aI rfl trivial)) (aI ((aI rfl (Or.inl rfl))) (aI ((aI rfl (Or.inl rfl))) (aI ((aI rfl (Or.inl rfl))) (aI ((aI rfl (Or.inl rfl))) (aI ((aI rfl (Or.inl rfl))) (aI ((aI rfl (Or.inl rfl))) (aI ((aI rfl (Or.inl rfl))) trivial))))))))
  refine satq_seqN ?_
  conv => whnf
  refine call_lifted 1 512 2 M2 256 64 (fun i hi => by have := cpu_mem (u32V 256 :: stZ.tail) 512 2 M2 [] i hi; rwa [List.append_nil] at this) hk2 (by decide) (by unfold word; decide) ?_
  rw [hl1]
  conv => whnf
  refine satq_seqN ?_
  conv => whnf
  refine call_lifted 1 512 2 M2 256 1 (cpu_mem (u32V 256 :: stZ.tail) 512 2 M2 _) hk2 (by decide) (by unfold word; decide) ?_
  rw [hl2]
  conv => whnf
  refine satq_seqN ?_
  conv => whnf
  refine call_lifted 1 512 2 M2 264 9 (cpu_mem (u32V 256 :: stZ.tail) 512 2 M2 _) hk2 (by decide) (by unfold word; decide) ?_
  rw [hl3]
  conv => whnf
  refine satq_seqN ?_
  conv => whnf
  (repeat (first | (refine ⟨fun _ => ?_, (fun h => Bool.noConfusion (show true = false from h))⟩; (conv => whnf)) | (refine ⟨fun _ => ?_, (fun h => Bool.noConfusion (show false = true from h))⟩; (conv => whnf)) | (refine ⟨(fun h => Bool.noConfusion (show false = true from h)), fun _ => ?_⟩; (conv => whnf)) | (refine ⟨(fun h => Bool.noConfusion (show true = false from h)), fun _ => ?_⟩; (conv => whnf)) | (refine ⟨fun _ => ?_, (fun h => absurd h (by decide))⟩; (conv => whnf)) | (refine ⟨(fun h => absurd h (by decide)), fun _ => ?_⟩; (conv => whnf))))
  have hb1 : sanB1.ok := hl1 ▸ (liftM_ok hk2 256 64).1
  have he1 : (evalBlk sanB1 zeros28 M2).out = ⟨false, 0, 2, 264, sanV⟩ := by rw [hsan]; exact san_eval1
  have hm1 : (evalBlk sanB1 zeros28 M2).mem = M2 := by rw [hsan]; exact san_mem1
  have hb2 : sanB2.ok := hl2 ▸ (liftM_ok hk2 256 1).1
  have he2 : (evalBlk sanB2 zeros28 M2).out = ⟨false, 0, 1, 260, sanV⟩ := by rw [hsan]; exact san_eval2
  have hm2 : (evalBlk sanB2 zeros28 M2).mem = M2 := by rw [hsan]; exact san_mem2
  have hb3 : sanB3.ok := hl3 ▸ (liftM_ok hk2 264 9).1
  have he3 : (evalBlk sanB3 zeros28 M2).out = ⟨true, 0, 0, 264, zeros28⟩ := by rw [hsan]; exact san_eval3
  have hm3 : (evalBlk sanB3 zeros28 M2).mem = M2 := by rw [hsan]; exact san_mem3
  clear hl1 hl2 hl3 hsan hM2 hM1 hM0 hsb hk1 hz
  refine satq_mid (α := Unit) (fun _ => [(0, one (.bool false)), (1, .p (.c (.ref 0 0))), (7, .p (.c (.ref 10 0))), (9, .p (.c (.ref 14 0))), (11, .p (.c (.ref 18 0))), (13, .p (.c (.ref 19 0)))]) (fun _ => cpuU 0 (u32V 256 :: stZ.tail) 512 2 M2 ++ blkRows sanB1 ++ [Ow.cells blT [.row 7, .row 8, .row 9]] ++ blkRows sanB2 ++ [Ow.cells blT [.row 11, .row 12, .row 13]] ++ blkRows sanB3 ++ [Ow.cells blT [.row 15, .row 16, .row 17]] ++ [Ow.cells 55 ((outL ⟨false, 0, 2, 264, sanV⟩).map .v)]) ?_ fun _ => ?_
  · refine satq_vcN ?_
    conv => whnf
    refine sat_anyG (.q 1 (.q 2 (.q 3 (.q 4 (.alt 0 (.alt 5 (.alt 6 (.alt 7 (.alt 8 .done .no) .no) (.alt 7 (.alt 6 (.alt 8 .done .no) .no) .no)) (.alt 7 (.alt 5 (.alt 6 (.alt 8 .done .no) .no) .no) .no)) (.alt 5 (.alt 0 (.alt 6 (.alt 7 (.alt 8 .done .no) .no) (.alt 7 (.alt 6 (.alt 8 .done .no) .no) .no)) (.alt 7 (.alt 0 (.alt 6 (.alt 8 .done .no) .no) .no) .no)) (.alt 7 (.alt 0 (.alt 5 (.alt 6 (.alt 8 .done .no) .no) .no) (.alt 5 (.alt 0 (.alt 6 (.alt 8 .done .no) .no) .no) .no)) .no))))))) mixed (by kernel_rfl) (by kernel_rfl) ?_
    conv => whnf
    repeat' (first
      | exact atq_mid () (ent_same rfl (aI rfl (aI rfl (aI rfl (aI rfl (aI rfl (aI rfl trivial)))))) (aI ((aI rfl (Or.inl rfl))) (aI ((aI rfl (Or.inl rfl))) (aI ((aI rfl (Or.inl rfl))) (aI ((aI rfl (Or.inl rfl))) (aI ((aI rfl (Or.inl rfl))) (aI ((aI rfl (Or.inl rfl))) (aI ((aI rfl (Or.inl rfl))) (aI ((aI rfl (aI rfl (aI rfl rfl)))) (aI ((aI rfl (aI rfl (aI rfl rfl)))) (aI ((aI rfl (aI rfl (aI rfl rfl)))) (aI ((aI rfl (Or.inl rfl))) (aI ((aI rfl (aI rfl (aI rfl rfl)))) (aI ((aI rfl (aI rfl (aI rfl rfl)))) (aI ((aI rfl (aI rfl (aI rfl rfl)))) (aI ((aI rfl (Or.inl rfl))) (aI ((aI rfl (aI rfl (aI rfl rfl)))) (aI ((aI rfl (aI rfl (aI rfl rfl)))) (aI ((aI rfl (aI rfl (aI rfl rfl)))) (aI ((aI rfl (Or.inl rfl))) (aI ((aI rfl (Or.inl rfl))) trivial)))))))))))))))))))))
      | (refine call_eval 1 512 2 7 8 9 sanB1 zeros28 M2 rfl (fun i hi => by rcases (by omega : i = 0 ∨ i = 1 ∨ i = 2 ∨ i = 3 ∨ i = 4 ∨ i = 5) with rfl | rfl | rfl | rfl | rfl | rfl <;> rfl) hk2 hb1 rfl zeros_ok rfl rfl rfl ⟨by decide, by decide, by decide⟩ ?_; rw [he1, hm1]; conv => whnf)
      | (refine ⟨?_, trivial⟩; conv => whnf)
      | (refine ⟨?_, ?_, trivial⟩ <;> conv => whnf)
      | (refine ⟨?_, ?_, ?_, trivial⟩ <;> conv => whnf))
  refine satq_mid (α := Unit) (fun _ => [(0, one (.bool false)), (1, .p (.c (.ref 0 0))), (7, .p (.c (.ref 10 0))), (9, .p (.c (.ref 14 0))), (11, .p (.c (.ref 18 0))), (13, .p (.c (.ref 19 0))), (14, .p (.c (.ref 20 0)))]) (fun _ => cpuU 0 (u32V 256 :: stZ.tail) 512 2 M2 ++ blkRows sanB1 ++ [Ow.cells blT [.row 7, .row 8, .row 9]] ++ blkRows sanB2 ++ [Ow.cells blT [.row 11, .row 12, .row 13]] ++ blkRows sanB3 ++ [Ow.cells blT [.row 15, .row 16, .row 17]] ++ [Ow.cells 55 ((outL ⟨false, 0, 2, 264, sanV⟩).map .v)] ++ [Ow.cells 55 ((outL ⟨false, 0, 1, 260, sanV⟩).map .v)]) ?_ fun _ => ?_
  · refine satq_vcN ?_
    conv => whnf
    refine sat_anyG (.q 1 (.q 2 (.q 3 (.q 4 (.alt 0 (.alt 5 (.alt 6 (.alt 7 (.alt 8 .done .no) .no) (.alt 7 (.alt 6 (.alt 8 .done .no) .no) .no)) (.alt 7 (.alt 5 (.alt 6 (.alt 8 .done .no) .no) .no) .no)) (.alt 5 (.alt 0 (.alt 6 (.alt 7 (.alt 8 .done .no) .no) (.alt 7 (.alt 6 (.alt 8 .done .no) .no) .no)) (.alt 7 (.alt 0 (.alt 6 (.alt 8 .done .no) .no) .no) .no)) (.alt 7 (.alt 0 (.alt 5 (.alt 6 (.alt 8 .done .no) .no) .no) (.alt 5 (.alt 0 (.alt 6 (.alt 8 .done .no) .no) .no) .no)) .no))))))) mixed (by kernel_rfl) (by kernel_rfl) ?_
    conv => whnf
    repeat' (first
      | exact atq_mid () (ent_same rfl (aI rfl (aI rfl (aI rfl (aI rfl (aI rfl (aI rfl (aI rfl trivial))))))) (aI ((aI rfl (Or.inl rfl))) (aI ((aI rfl (Or.inl rfl))) (aI ((aI rfl (Or.inl rfl))) (aI ((aI rfl (Or.inl rfl))) (aI ((aI rfl (Or.inl rfl))) (aI ((aI rfl (Or.inl rfl))) (aI ((aI rfl (Or.inl rfl))) (aI ((aI rfl (aI rfl (aI rfl rfl)))) (aI ((aI rfl (aI rfl (aI rfl rfl)))) (aI ((aI rfl (aI rfl (aI rfl rfl)))) (aI ((aI rfl (Or.inl rfl))) (aI ((aI rfl (aI rfl (aI rfl rfl)))) (aI ((aI rfl (aI rfl (aI rfl rfl)))) (aI ((aI rfl (aI rfl (aI rfl rfl)))) (aI ((aI rfl (Or.inl rfl))) (aI ((aI rfl (aI rfl (aI rfl rfl)))) (aI ((aI rfl (aI rfl (aI rfl rfl)))) (aI ((aI rfl (aI rfl (aI rfl rfl)))) (aI ((aI rfl (Or.inl rfl))) (aI ((aI rfl (Or.inl rfl))) (aI ((aI rfl (Or.inl rfl))) trivial))))))))))))))))))))))
      | (refine call_eval 1 512 2 11 12 13 sanB2 zeros28 M2 rfl (fun i hi => by rcases (by omega : i = 0 ∨ i = 1 ∨ i = 2 ∨ i = 3 ∨ i = 4 ∨ i = 5) with rfl | rfl | rfl | rfl | rfl | rfl <;> rfl) hk2 hb2 rfl zeros_ok rfl rfl rfl ⟨by decide, by decide, by decide⟩ ?_; rw [he2, hm2]; conv => whnf)
      | (refine ⟨?_, trivial⟩; conv => whnf)
      | (refine ⟨?_, ?_, trivial⟩ <;> conv => whnf)
      | (refine ⟨?_, ?_, ?_, trivial⟩ <;> conv => whnf))
  refine satq_mid (α := Unit) (fun _ => [(0, one (.bool false)), (1, .p (.c (.ref 0 0))), (7, .p (.c (.ref 10 0))), (9, .p (.c (.ref 14 0))), (11, .p (.c (.ref 18 0))), (13, .p (.c (.ref 19 0))), (14, .p (.c (.ref 20 0))), (15, .p (.c (.ref 21 0)))]) (fun _ => cpuU 0 (u32V 256 :: stZ.tail) 512 2 M2 ++ blkRows sanB1 ++ [Ow.cells blT [.row 7, .row 8, .row 9]] ++ blkRows sanB2 ++ [Ow.cells blT [.row 11, .row 12, .row 13]] ++ blkRows sanB3 ++ [Ow.cells blT [.row 15, .row 16, .row 17]] ++ [Ow.cells 55 ((outL ⟨false, 0, 2, 264, sanV⟩).map .v)] ++ [Ow.cells 55 ((outL ⟨false, 0, 1, 260, sanV⟩).map .v)] ++ [Ow.cells 55 ((outL ⟨true, 0, 0, 264, zeros28⟩).map .v)]) ?_ fun _ => ?_
  · refine satq_vcN ?_
    conv => whnf
    refine sat_anyG (.q 1 (.q 2 (.q 3 (.q 4 (.alt 0 (.alt 5 (.alt 6 (.alt 7 (.alt 8 .done .no) .no) (.alt 7 (.alt 6 (.alt 8 .done .no) .no) .no)) (.alt 7 (.alt 5 (.alt 6 (.alt 8 .done .no) .no) .no) .no)) (.alt 5 (.alt 0 (.alt 6 (.alt 7 (.alt 8 .done .no) .no) (.alt 7 (.alt 6 (.alt 8 .done .no) .no) .no)) (.alt 7 (.alt 0 (.alt 6 (.alt 8 .done .no) .no) .no) .no)) (.alt 7 (.alt 0 (.alt 5 (.alt 6 (.alt 8 .done .no) .no) .no) (.alt 5 (.alt 0 (.alt 6 (.alt 8 .done .no) .no) .no) .no)) .no))))))) mixed (by kernel_rfl) (by kernel_rfl) ?_
    conv => whnf
    repeat' (first
      | exact atq_mid () (ent_same rfl (aI rfl (aI rfl (aI rfl (aI rfl (aI rfl (aI rfl (aI rfl (aI rfl trivial)))))))) (aI ((aI rfl (Or.inl rfl))) (aI ((aI rfl (Or.inl rfl))) (aI ((aI rfl (Or.inl rfl))) (aI ((aI rfl (Or.inl rfl))) (aI ((aI rfl (Or.inl rfl))) (aI ((aI rfl (Or.inl rfl))) (aI ((aI rfl (Or.inl rfl))) (aI ((aI rfl (aI rfl (aI rfl rfl)))) (aI ((aI rfl (aI rfl (aI rfl rfl)))) (aI ((aI rfl (aI rfl (aI rfl rfl)))) (aI ((aI rfl (Or.inl rfl))) (aI ((aI rfl (aI rfl (aI rfl rfl)))) (aI ((aI rfl (aI rfl (aI rfl rfl)))) (aI ((aI rfl (aI rfl (aI rfl rfl)))) (aI ((aI rfl (Or.inl rfl))) (aI ((aI rfl (aI rfl (aI rfl rfl)))) (aI ((aI rfl (aI rfl (aI rfl rfl)))) (aI ((aI rfl (aI rfl (aI rfl rfl)))) (aI ((aI rfl (Or.inl rfl))) (aI ((aI rfl (Or.inl rfl))) (aI ((aI rfl (Or.inl rfl))) (aI ((aI rfl (Or.inl rfl))) trivial)))))))))))))))))))))))
      | (refine call_eval 1 512 2 15 16 17 sanB3 zeros28 M2 rfl (fun i hi => by rcases (by omega : i = 0 ∨ i = 1 ∨ i = 2 ∨ i = 3 ∨ i = 4 ∨ i = 5) with rfl | rfl | rfl | rfl | rfl | rfl <;> rfl) hk2 hb3 rfl zeros_ok rfl rfl rfl ⟨by decide, by decide, by decide⟩ ?_; rw [he3, hm3]; conv => whnf)
      | (refine ⟨?_, trivial⟩; conv => whnf)
      | (refine ⟨?_, ?_, trivial⟩ <;> conv => whnf)
      | (refine ⟨?_, ?_, ?_, trivial⟩ <;> conv => whnf))
  refine satq_vcN ?_
  conv => whnf
  (repeat (first | (refine ⟨fun _ => ?_, (fun h => Bool.noConfusion (show true = false from h))⟩; (conv => whnf)) | (refine ⟨fun _ => ?_, (fun h => Bool.noConfusion (show false = true from h))⟩; (conv => whnf)) | (refine ⟨(fun h => Bool.noConfusion (show false = true from h)), fun _ => ?_⟩; (conv => whnf)) | (refine ⟨(fun h => Bool.noConfusion (show true = false from h)), fun _ => ?_⟩; (conv => whnf)) | (refine ⟨fun _ => ?_, (fun h => absurd h (by decide))⟩; (conv => whnf)) | (refine ⟨(fun h => absurd h (by decide)), fun _ => ?_⟩; (conv => whnf))))
  refine ⟨by decide, ?_⟩
  conv => whnf
  (repeat (first | (refine ⟨fun _ => ?_, (fun h => Bool.noConfusion (show true = false from h))⟩; (conv => whnf)) | (refine ⟨fun _ => ?_, (fun h => Bool.noConfusion (show false = true from h))⟩; (conv => whnf)) | (refine ⟨(fun h => Bool.noConfusion (show false = true from h)), fun _ => ?_⟩; (conv => whnf)) | (refine ⟨(fun h => Bool.noConfusion (show true = false from h)), fun _ => ?_⟩; (conv => whnf)) | (refine ⟨fun _ => ?_, (fun h => absurd h (by decide))⟩; (conv => whnf)) | (refine ⟨(fun h => absurd h (by decide)), fun _ => ?_⟩; (conv => whnf))))
  refine atq_ret ?_
  conv => whnf
  exact fin_val rfl fun w2 hB => ⟨rfl, hB⟩
end Go.Proofs.YtnhdcclpjildjaaGreat
namespace Go.Proofs.YtnhdcclpjildjaaGreat
open Go.RowKit

theorem cpu_mem0 (us : List Value) (n p : Nat) (M : MemP) : ∀ i, i < 6 → (cpuU 0 us n p M)[1 + i]? = (memS 1 n p M)[i]? := fun i hi => by
  have := cpu_mem us n p M [] i hi; rwa [List.append_nil] at this
section
variable {P : Program} {w0 : World} {G : Gs} {S : List Ow} {f : Fr} {o : Oper} {N : Nd} {K : Fr → List Ow → Prop}
theorem op_min3 {x y z : Operand} {a b c : Int} {tys : Array TypeId} (hop : o.op = .call ⟨.builtin .min, #[x, y, z], tys⟩) (hx : f.ev x = one (.int .i64 a)) (hy : f.ev y = one (.int .i64 b)) (hz : f.ev z = one (.int .i64 c)) (hdst : dstOk N.n o.dst = true) (hk : K (f.put o.dst (one (.int .i64 (min (min a b) c)))) S) : OpS P w0 G N o f S K := by
  refine opS_val _ hdst (fun r act w hR hf => ⟨_, den_one _ _, ?_⟩) hk
  have h1 := hf.ev x
  have h2 := hf.ev y
  have h3 := hf.ev z
  rw [hx] at h1; rw [hy] at h2; rw [hz] at h3
  have e1 : min a b = if b < a then b else a := by split <;> omega
  have e2 : min (min a b) c = if c < (if b < a then b else a) then c else (if b < a then b else a) := by rw [e1]; split <;> omega
  rw [e2]
  simp [execOp, hop, resolve, invoke, builtin, den_v h1, den_v h2, den_v h3, Builtin.min_, Builtin.min2]
end
theorem limN_eq (most : Int) (k : Nat) : min (min (if most < 1 then 1 else most) 64) ((k : Int) + 1) = ((min (limN most) (k + 1) : Nat) : Int) := by
  unfold limN
  split <;> omega
set_option maxRecDepth 100000 in
set_option maxHeartbeats 8000000 in
theorem limits_law (many most more : Int) (w : World) : Calls Tryz.prog 12 #[intV many, intV most, intV more] w fun e w' => e = .returned (.bool true) ∧ Below w.heap.size w w' := by
  obtain ⟨k, hk⟩ : ∃ k : Nat, many % 100 = (k : Int) := ⟨(many % 100).toNat, by omega⟩
  have hk100 : k < 100 := by omega
  refine calls_satq [intV many, intV most, intV more] Tryz.func12 Tryz.ntmps12 rfl (by simp) ?_
  refine satq_seqN ?_
  conv => whnf
  refine satq_seqN ?_
  conv => whnf
  refine call_con (x := .bool true) rfl (by kernel_rfl) (fun r w' hR => sanity14 w') ?_
  conv => whnf
  refine satq_seqN ?_
  conv => whnf
  refine call_newObjs (xs := [intV ((3 : Nat) : Int)]) (cpuU 0 stZ 768 3 (MemP.zero 3)) (cpuU 0 stZ 768 3 (MemP.zero 3)) rfl (by kernel_rfl) (cpuU_sh 0 stZ 768 3 _) (cpuU_ob stZ 768 3 _) (fun r w hR => cpu_new 3 w (by omega)) ?_
  conv => whnf
  refine satq_seqN ?_
  conv => whnf
  refine call_con (x := intV (k : Int)) rfl (by kernel_rfl) (fun r w' hR => by rw [← hk]; exact mod_ref many 100 w' (by omega)) ?_
  conv => whnf
  obtain ⟨M0, hM0⟩ : ∃ M0, M0 = MemP.zero 3 := ⟨_, rfl⟩
  have hz : LimS M0 0 := lim_zero hM0
  rw [← hM0]
  clear hM0
  refine satq_mid (α := { M : MemP // LimS M k }) (fun _ => [(1, one (intV most)), (2, one (intV more)), (7, one (.bool true)), (8, .p (.c (.ref 0 0))), (9, one (intV (k : Int)))]) (fun x => cpuU 0 stZ 768 3 x.1) ?_ fun x => ?_
  · refine satq_seqN ?_
    conv => whnf
    refine satq_block ?_
    refine satq_loop (α := { x : Nat × MemP // x.1 ≤ k ∧ LimS x.2 x.1 }) (fun x => [(1, one (intV most)), (2, one (intV more)), (7, one (.bool true)), (8, .p (.c (.ref 0 0))), (9, one (intV (k : Int))), (10, one (intV (x.1.1 : Int)))]) (fun x => cpuU 0 stZ 768 3 x.1.2) (fun x => k - x.1.1)
      ⟨(0, M0), by omega, hz⟩ (ent_same rfl (aI rfl (aI rfl (aI rfl (aI rfl (aI rfl (aI rfl trivial)))))) (aI ((aI rfl (Or.inl rfl))) (aI ((aI rfl (Or.inl rfl))) (aI ((aI rfl (Or.inl rfl))) (aI ((aI rfl (Or.inl rfl))) (aI ((aI rfl (Or.inl rfl))) (aI ((aI rfl (Or.inl rfl))) (aI ((aI rfl (Or.inl rfl))) trivial)))))))) fun x => ?_
    obtain ⟨⟨j, M⟩, hj, hM⟩ := x
    dsimp only at hj hM ⊢
    refine satq_seqN ?_
    conv => whnf
    refine ⟨fun hc => ?_, fun hc => ?_⟩
    · have hlt : j < k := by simpa using hc
      conv => whnf
      refine satq_mid (α := Unit) (fun _ => [(1, one (intV most)), (2, one (intV more)), (7, one (.bool true)), (8, .p (.c (.ref 0 0))), (9, one (intV (k : Int))), (10, one (intV (j : Int)))]) (fun _ => cpuU 0 stZ 768 3 (M.pokeAt ((4 * j : Nat) : Int) (putL (limW j)) (putL (limW j)).length)) ?_ fun _ => ?_
      · refine satq_block ?_
        refine satq_seqN ?_
        conv => whnf
        refine ⟨by decide, (j : Int) % 15, Int.tmod_eq_emod_of_nonneg (by omega), ?_⟩
        conv => whnf
        refine ⟨1 + (j : Int) % 15, by rw [wr64]; omega, ?_⟩
        conv => whnf
        refine call_con (x := encV (some (limW j))) rfl (by kernel_rfl) (fun r w' hR => by have := encode_ref (limI j) w' (by show 0 ≤ (1 : Int) ∧ (1 : Int) < 64; decide) (by show word 0; unfold word; decide); rw [lim_enc] at this; exact this) ?_
        conv => whnf
        refine satq_vcN ?_
        conv => whnf
        refine sat_anyG (.q 0 (.q 1 (.q 2 (.q 4 (.q 5 (.q 6 (.q 7 (.alt 3 (.alt 8 (.alt 9 .done .no) .no) (.alt 8 (.alt 3 (.alt 9 .done .no) .no) .no))))))))) mixed (by kernel_rfl) (by kernel_rfl) ?_
        conv => whnf
        refine ⟨((4 * j : Nat) : Int), by rw [show (4 : Int) * (j : Int) = ((4 * j : Nat) : Int) by omega]; exact wr64 (by omega), ?_⟩
        conv => whnf
        refine ⟨((4 * j : Nat) : Int), by rw [wr32]; omega, ?_⟩
        conv => whnf
        have hpk := hM.ok
        repeat' (first
          | exact atq_block (atq_mid () (ent_same rfl (aI rfl (aI rfl (aI rfl (aI rfl (aI rfl (aI rfl trivial)))))) (aI ((aI rfl (Or.inl rfl))) (aI ((aI rfl (Or.inl rfl))) (aI ((aI rfl (Or.inl rfl))) (aI ((aI rfl (Or.inl rfl))) (aI ((aI rfl (Or.inl rfl))) (aI ((aI rfl (Or.inl rfl))) (aI ((aI rfl (Or.inl rfl))) trivial)))))))))
          | (refine call_con (x := strV (putL (limW j))) rfl (by kernel_rfl) (fun r w' hR => put_walk (limW j) w' (lim_dec j).2) ?_; conv => whnf)
          | (refine call_memW (pre := []) (suf := [one (u32V ((4 * j : Nat) : Int)), one (strV (putL (limW j)))]) 1 768 3 M _ (.tuple #[]) (cpu_mem0 stZ 768 3 M) rfl rfl (by kernel_rfl) (fun w g gs hk hU => mem_pokeAt M 768 3 _ _ w g gs hU hpk (by unfold word; omega) (putTo_bytes _ _) (by unfold putL; rw [putTo_length]; omega) (by omega)) ?_; conv => whnf)
          | (refine ⟨?_, trivial⟩; conv => whnf)
          | (refine ⟨?_, ?_, trivial⟩ <;> conv => whnf))
      refine satq_vcN ?_
      conv => whnf
      refine ⟨(j : Int) + 1, wr64 (by omega), ?_⟩
      conv => whnf
      exact atq_next ⟨(j + 1, _), by show j + 1 ≤ k; omega, lim_succ hM (by omega)⟩ (ent_same rfl (aI rfl (aI rfl (aI rfl (aI rfl (aI rfl (aI rfl trivial)))))) (aI ((aI rfl (Or.inl rfl))) (aI ((aI rfl (Or.inl rfl))) (aI ((aI rfl (Or.inl rfl))) (aI ((aI rfl (Or.inl rfl))) (aI ((aI rfl (Or.inl rfl))) (aI ((aI rfl (Or.inl rfl))) (aI ((aI rfl (Or.inl rfl))) trivial)))))))) (by show k - (j + 1) < k - j; omega)
    · have hje : j = k := by simp at hc; omega
      subst hje
      conv => whnf
      exact atq_out (atq_exit (atq_mid ⟨M, hM⟩ (ent_same rfl (aI rfl (aI rfl (aI rfl (aI rfl (aI rfl trivial))))) (aI ((aI rfl (Or.inl rfl))) (aI ((aI rfl (Or.inl rfl))) (aI ((aI rfl (Or.inl rfl))) (aI ((aI rfl (Or.inl rfl))) (aI ((aI rfl (Or.inl rfl))) (aI ((aI rfl (Or.inl rfl))) (aI ((aI rfl (Or.inl rfl))) trivial))))))))))
  obtain ⟨M, hM⟩ := x
  dsimp only
  clear hz
  refine satq_mid (α := { Q : MemP // SynS M.data Q 3 }) (fun _ => [(1, one (intV most)), (2, one (intV more)), (7, one (.bool true)), (8, .p (.c (.ref 0 0))), (9, one (intV (k : Int)))]) (fun x => cpuU 0 stZ 768 3 x.1) ?_ fun x => ?_
  · refine satq_seqN ?_
    conv => whnf
    refine satq_block ?_
    refine satq_loop (α := { x : Nat × MemP // x.1 ≤ 3 ∧ SynS M.data x.2 x.1 }) (fun x => [(1, one (intV most)), (2, one (intV more)), (7, one (.bool true)), (8, .p (.c (.ref 0 0))), (9, one (intV (k : Int))), (13, one (intV (x.1.1 : Int)))]) (fun x => cpuU 0 stZ 768 3 x.1.2) (fun x => 3 - x.1.1)
      ⟨(0, M), by omega, syn_zero hM⟩ (ent_same rfl (aI rfl (aI rfl (aI rfl (aI rfl (aI rfl (aI rfl trivial)))))) (aI ((aI rfl (Or.inl rfl))) (aI ((aI rfl (Or.inl rfl))) (aI ((aI rfl (Or.inl rfl))) (aI ((aI rfl (Or.inl rfl))) (aI ((aI rfl (Or.inl rfl))) (aI ((aI rfl (Or.inl rfl))) (aI ((aI rfl (Or.inl rfl))) trivial)))))))) fun x => ?_
    obtain ⟨⟨q, Q⟩, hq, hQ⟩ := x
    dsimp only at hq hQ ⊢
    refine satq_seqN ?_
    conv => whnf
    refine ⟨fun hc => ?_, fun hc => ?_⟩
    · have hlt : q < 3 := by simp at hc; omega
      conv => whnf
      have hok1 := hQ.ok
      have hok2 := syncM_ok hok1 ((256 * q : Nat) : Int)
      refine satq_in (satq_block ?_)
      refine satq_seqN ?_
      conv => whnf
      refine ⟨((256 * q : Nat) : Int), by rw [show (256 : Int) * (q : Int) = ((256 * q : Nat) : Int) by omega]; exact wr64 (by omega), ?_⟩
      conv => whnf
      refine ⟨((256 * q : Nat) : Int), by rw [wr32]; omega, ?_⟩
      conv => whnf
      refine call_memW (pre := []) (suf := [one (u32V ((256 * q : Nat) : Int))]) 1 768 3 Q _ (.bool _) (cpu_mem0 stZ 768 3 Q) rfl rfl (by kernel_rfl) (fun w g gs hk hU => mem_sync Q 768 3 _ w g gs hU hok1 (by unfold word; omega)) ?_
      generalize hS : Q.syncM ((256 * q : Nat) : Int) = Q2 at hok2 ⊢
      conv => whnf
      refine satq_vcN ?_
      conv => whnf
      refine call_memW (pre := []) (suf := [one (intV (q : Int)), one (intV 5)]) 1 768 3 Q2 (Q2.protect q 5) (.tuple #[]) (cpu_mem0 stZ 768 3 Q2) rfl rfl (by kernel_rfl) (fun w g gs hk hU => mem_protect Q2 768 3 q 5 w g gs hU hok2 hlt (by omega) (by omega)) ?_
      conv => whnf
      refine atq_block (atq_on ?_)
      refine satq_vcN ?_
      conv => whnf
      refine ⟨(q : Int) + 1, wr64 (by omega), ?_⟩
      conv => whnf
      exact atq_next ⟨(q + 1, Q2.protect q 5), by show q + 1 ≤ 3; omega, hS ▸ syn_succ hQ hlt⟩ (ent_same rfl (aI rfl (aI rfl (aI rfl (aI rfl (aI rfl (aI rfl trivial)))))) (aI ((aI rfl (Or.inl rfl))) (aI ((aI rfl (Or.inl rfl))) (aI ((aI rfl (Or.inl rfl))) (aI ((aI rfl (Or.inl rfl))) (aI ((aI rfl (Or.inl rfl))) (aI ((aI rfl (Or.inl rfl))) (aI ((aI rfl (Or.inl rfl))) trivial)))))))) (by show 3 - (q + 1) < 3 - q; omega)
    · have hqe : q = 3 := by simp at hc; omega
      subst hqe
      conv => whnf
      exact atq_out (atq_exit (atq_mid ⟨Q, hQ⟩ (ent_same rfl (aI rfl (aI rfl (aI rfl (aI rfl (aI rfl trivial))))) (aI ((aI rfl (Or.inl rfl))) (aI ((aI rfl (Or.inl rfl))) (aI ((aI rfl (Or.inl rfl))) (aI ((aI rfl (Or.inl rfl))) (aI ((aI rfl (Or.inl rfl))) (aI ((aI rfl (Or.inl rfl))) (aI ((aI rfl (Or.inl rfl))) trivial))))))))))
  obtain ⟨Q, hQ⟩ := x
  dsimp only
  have hlen := fun most => lim_len hM hQ hk100 most
  have hQk := hQ.ok
  obtain ⟨b1, hb1⟩ : ∃ b1, b1 = liftM Q 0 most := ⟨_, rfl⟩
  obtain ⟨b2, hb2⟩ : ∃ b2, b2 = liftM Q 0 more := ⟨_, rfl⟩
  have hl1 := hlen most
  have hl2 := hlen more
  rw [← hb1] at hl1
  rw [← hb2] at hl2
  refine satq_seqN ?_
  conv => whnf
  refine call_lifted 1 768 3 Q 0 most (cpu_mem0 stZ 768 3 Q) hQk (by decide) word0 ?_
  rw [← hb1]
  conv => whnf
  refine satq_seqN ?_
  conv => whnf
  refine call_lifted 1 768 3 Q 0 more (cpu_mem stZ 768 3 Q _) hQk (by decide) word0 ?_
  rw [← hb2]
  conv => whnf
  refine satq_vcN ?_
  conv => whnf
  (repeat (first | (refine ⟨fun _ => ?_, (fun h => Bool.noConfusion (show true = false from h))⟩; (conv => whnf)) | (refine ⟨fun _ => ?_, (fun h => Bool.noConfusion (show false = true from h))⟩; (conv => whnf)) | (refine ⟨(fun h => Bool.noConfusion (show false = true from h)), fun _ => ?_⟩; (conv => whnf)) | (refine ⟨(fun h => Bool.noConfusion (show true = false from h)), fun _ => ?_⟩; (conv => whnf)) | (refine ⟨fun _ => ?_, (fun h => absurd h (by decide))⟩; (conv => whnf)) | (refine ⟨(fun h => absurd h (by decide)), fun _ => ?_⟩; (conv => whnf))))
  refine op_max rfl rfl rfl rfl ?_
  conv => whnf
  (repeat (first | (refine ⟨fun _ => ?_, (fun h => Bool.noConfusion (show true = false from h))⟩; (conv => whnf)) | (refine ⟨fun _ => ?_, (fun h => Bool.noConfusion (show false = true from h))⟩; (conv => whnf)) | (refine ⟨(fun h => Bool.noConfusion (show false = true from h)), fun _ => ?_⟩; (conv => whnf)) | (refine ⟨(fun h => Bool.noConfusion (show true = false from h)), fun _ => ?_⟩; (conv => whnf)) | (refine ⟨fun _ => ?_, (fun h => absurd h (by decide))⟩; (conv => whnf)) | (refine ⟨(fun h => absurd h (by decide)), fun _ => ?_⟩; (conv => whnf))))
  refine ⟨(k : Int) + 1, wr64 (by omega), ?_⟩
  conv => whnf
  (repeat (first | (refine ⟨fun _ => ?_, (fun h => Bool.noConfusion (show true = false from h))⟩; (conv => whnf)) | (refine ⟨fun _ => ?_, (fun h => Bool.noConfusion (show false = true from h))⟩; (conv => whnf)) | (refine ⟨(fun h => Bool.noConfusion (show false = true from h)), fun _ => ?_⟩; (conv => whnf)) | (refine ⟨(fun h => Bool.noConfusion (show true = false from h)), fun _ => ?_⟩; (conv => whnf)) | (refine ⟨fun _ => ?_, (fun h => absurd h (by decide))⟩; (conv => whnf)) | (refine ⟨(fun h => absurd h (by decide)), fun _ => ?_⟩; (conv => whnf))))
  refine op_min3 rfl rfl rfl rfl rfl ?_
  rw [limN_eq]
  conv => whnf
  (repeat (first | (refine ⟨fun _ => ?_, (fun h => Bool.noConfusion (show true = false from h))⟩; (conv => whnf)) | (refine ⟨fun _ => ?_, (fun h => Bool.noConfusion (show false = true from h))⟩; (conv => whnf)) | (refine ⟨(fun h => Bool.noConfusion (show false = true from h)), fun _ => ?_⟩; (conv => whnf)) | (refine ⟨(fun h => Bool.noConfusion (show true = false from h)), fun _ => ?_⟩; (conv => whnf)) | (refine ⟨fun _ => ?_, (fun h => absurd h (by decide))⟩; (conv => whnf)) | (refine ⟨(fun h => absurd h (by decide)), fun _ => ?_⟩; (conv => whnf))))
  rw [hl1.1, beq_self_eq_true]
  (repeat (first | (refine ⟨fun _ => ?_, (fun h => Bool.noConfusion (show true = false from h))⟩; (conv => whnf)) | (refine ⟨fun _ => ?_, (fun h => Bool.noConfusion (show false = true from h))⟩; (conv => whnf)) | (refine ⟨(fun h => Bool.noConfusion (show false = true from h)), fun _ => ?_⟩; (conv => whnf)) | (refine ⟨(fun h => Bool.noConfusion (show true = false from h)), fun _ => ?_⟩; (conv => whnf)) | (refine ⟨fun _ => ?_, (fun h => absurd h (by decide))⟩; (conv => whnf)) | (refine ⟨(fun h => absurd h (by decide)), fun _ => ?_⟩; (conv => whnf))))
  refine op_max rfl rfl rfl rfl ?_
  conv => whnf
  (repeat (first | (refine ⟨fun _ => ?_, (fun h => Bool.noConfusion (show true = false from h))⟩; (conv => whnf)) | (refine ⟨fun _ => ?_, (fun h => Bool.noConfusion (show false = true from h))⟩; (conv => whnf)) | (refine ⟨(fun h => Bool.noConfusion (show false = true from h)), fun _ => ?_⟩; (conv => whnf)) | (refine ⟨(fun h => Bool.noConfusion (show true = false from h)), fun _ => ?_⟩; (conv => whnf)) | (refine ⟨fun _ => ?_, (fun h => absurd h (by decide))⟩; (conv => whnf)) | (refine ⟨(fun h => absurd h (by decide)), fun _ => ?_⟩; (conv => whnf))))
  refine ⟨(k : Int) + 1, wr64 (by omega), ?_⟩
  conv => whnf
  (repeat (first | (refine ⟨fun _ => ?_, (fun h => Bool.noConfusion (show true = false from h))⟩; (conv => whnf)) | (refine ⟨fun _ => ?_, (fun h => Bool.noConfusion (show false = true from h))⟩; (conv => whnf)) | (refine ⟨(fun h => Bool.noConfusion (show false = true from h)), fun _ => ?_⟩; (conv => whnf)) | (refine ⟨(fun h => Bool.noConfusion (show true = false from h)), fun _ => ?_⟩; (conv => whnf)) | (refine ⟨fun _ => ?_, (fun h => absurd h (by decide))⟩; (conv => whnf)) | (refine ⟨(fun h => absurd h (by decide)), fun _ => ?_⟩; (conv => whnf))))
  refine op_min3 rfl rfl rfl rfl rfl ?_
  rw [limN_eq]
  conv => whnf
  (repeat (first | (refine ⟨fun _ => ?_, (fun h => Bool.noConfusion (show true = false from h))⟩; (conv => whnf)) | (refine ⟨fun _ => ?_, (fun h => Bool.noConfusion (show false = true from h))⟩; (conv => whnf)) | (refine ⟨(fun h => Bool.noConfusion (show false = true from h)), fun _ => ?_⟩; (conv => whnf)) | (refine ⟨(fun h => Bool.noConfusion (show true = false from h)), fun _ => ?_⟩; (conv => whnf)) | (refine ⟨fun _ => ?_, (fun h => absurd h (by decide))⟩; (conv => whnf)) | (refine ⟨(fun h => absurd h (by decide)), fun _ => ?_⟩; (conv => whnf))))
  rw [hl2.1, beq_self_eq_true]
  (repeat (first | (refine ⟨fun _ => ?_, (fun h => Bool.noConfusion (show true = false from h))⟩; (conv => whnf)) | (refine ⟨fun _ => ?_, (fun h => Bool.noConfusion (show false = true from h))⟩; (conv => whnf)) | (refine ⟨(fun h => Bool.noConfusion (show false = true from h)), fun _ => ?_⟩; (conv => whnf)) | (refine ⟨(fun h => Bool.noConfusion (show true = false from h)), fun _ => ?_⟩; (conv => whnf)) | (refine ⟨fun _ => ?_, (fun h => absurd h (by decide))⟩; (conv => whnf)) | (refine ⟨(fun h => absurd h (by decide)), fun _ => ?_⟩; (conv => whnf))))
  have hlm := (limN_ok most).1
  have hlm2 := (limN_ok more).1
  refine ⟨⟨by omega, by omega⟩, ?_⟩
  conv => whnf
  (repeat (first | (refine ⟨fun _ => ?_, (fun h => Bool.noConfusion (show true = false from h))⟩; (conv => whnf)) | (refine ⟨fun _ => ?_, (fun h => Bool.noConfusion (show false = true from h))⟩; (conv => whnf)) | (refine ⟨(fun h => Bool.noConfusion (show false = true from h)), fun _ => ?_⟩; (conv => whnf)) | (refine ⟨(fun h => Bool.noConfusion (show true = false from h)), fun _ => ?_⟩; (conv => whnf)) | (refine ⟨fun _ => ?_, (fun h => absurd h (by decide))⟩; (conv => whnf)) | (refine ⟨(fun h => absurd h (by decide)), fun _ => ?_⟩; (conv => whnf))))
  have hz0 : ∀ b : Blk, b.at_[0]? = some 0 → (List.map CV.v (List.map (Value.int IntKind.u32) b.at_))[Int.toNat 0 * tsz Tryz.prog 35]? = some (.v (u32V 0)) := fun b hb => by
    show (List.map CV.v (List.map (Value.int IntKind.u32) b.at_))[0]? = _
    rw [List.getElem?_map, List.getElem?_map, hb]; rfl
  rw [hz0 b1 hl1.2]
  conv => whnf
  (repeat (first | (refine ⟨fun _ => ?_, (fun h => Bool.noConfusion (show true = false from h))⟩; (conv => whnf)) | (refine ⟨fun _ => ?_, (fun h => Bool.noConfusion (show false = true from h))⟩; (conv => whnf)) | (refine ⟨(fun h => Bool.noConfusion (show false = true from h)), fun _ => ?_⟩; (conv => whnf)) | (refine ⟨(fun h => Bool.noConfusion (show true = false from h)), fun _ => ?_⟩; (conv => whnf)) | (refine ⟨fun _ => ?_, (fun h => absurd h (by decide))⟩; (conv => whnf)) | (refine ⟨(fun h => absurd h (by decide)), fun _ => ?_⟩; (conv => whnf))))
  refine ⟨⟨by omega, by omega⟩, ?_⟩
  conv => whnf
  (repeat (first | (refine ⟨fun _ => ?_, (fun h => Bool.noConfusion (show true = false from h))⟩; (conv => whnf)) | (refine ⟨fun _ => ?_, (fun h => Bool.noConfusion (show false = true from h))⟩; (conv => whnf)) | (refine ⟨(fun h => Bool.noConfusion (show false = true from h)), fun _ => ?_⟩; (conv => whnf)) | (refine ⟨(fun h => Bool.noConfusion (show true = false from h)), fun _ => ?_⟩; (conv => whnf)) | (refine ⟨fun _ => ?_, (fun h => absurd h (by decide))⟩; (conv => whnf)) | (refine ⟨(fun h => absurd h (by decide)), fun _ => ?_⟩; (conv => whnf))))
  rw [hz0 b2 hl2.2]
  conv => whnf
  (repeat (first | (refine ⟨fun _ => ?_, (fun h => Bool.noConfusion (show true = false from h))⟩; (conv => whnf)) | (refine ⟨fun _ => ?_, (fun h => Bool.noConfusion (show false = true from h))⟩; (conv => whnf)) | (refine ⟨(fun h => Bool.noConfusion (show false = true from h)), fun _ => ?_⟩; (conv => whnf)) | (refine ⟨(fun h => Bool.noConfusion (show true = false from h)), fun _ => ?_⟩; (conv => whnf)) | (refine ⟨fun _ => ?_, (fun h => absurd h (by decide))⟩; (conv => whnf)) | (refine ⟨(fun h => absurd h (by decide)), fun _ => ?_⟩; (conv => whnf))))
  refine atq_ret ?_
  conv => whnf
  exact fin_val rfl fun w2 hB => ⟨rfl, hB⟩
end Go.Proofs.YtnhdcclpjildjaaGreat
namespace Go.Proofs.YtnhdcclpjildjaaGreat
open Go.ChangeShapes Go.WideShapes Go.ChangeAt Go.RowKit

set_option maxRecDepth 100000 in
theorem qliftLimits_lifted (os : Os) (started : os.Started) (H : Type) (enc : TypeId × Value → H) :
    ReturnsInHanded {} Tryz.checked os 12 .any (Rows.qliftLimitsSpec.pre6 enc Tryz.prog Tryz.f12 Rows.qliftLimitsRow.domain false) (Rows.qliftLimitsSpec.post enc Tryz.prog Tryz.f12 false true false false) := by
  refine returnsInHanded_of_change (C := Tryz.checked) ownK started (by kernel_rfl) Tryz.func12
    (ChangeSpec.witness6 (enc := enc) (C := Tryz.checked) false ⟨#[], #[.int .i64 0, .int .i64 0, .int .i64 0], []⟩ 8 (by kernel_rfl) (by kernel_rfl) (by kernel_rfl) (by kernel_rfl)) ?_
  intro W base args ds gs before hval0 hW hcnd _
  have hval : ∀ (j : Nat) t v, Tryz.f12.params[j]? = some t → args[j]? = some v → Value.okWide Tryz.prog W .any base t v := hval0
  have hW' := hW
  obtain ⟨p, q, hA0, hV, rfl, hfz, hnd⟩ := hW
  have hA : DataW.TrodAll enc Tryz.prog W 0 (fun _ => true) true Tryz.f12.params.toList args.toList ds p := hA0
  rw [Tryz.params12] at hA hval
  obtain ⟨v0, vs0, d0, ds0, p0, q0, hargs, rfl, rfl, h0, r0⟩ := trodAll_cons hA
  obtain ⟨v1, vs1, d1, ds1, p1, q1, rfl, rfl, rfl, h1, r1⟩ := trodAll_cons r0
  obtain ⟨v2, vs2, d2, ds2, p2, q2, rfl, rfl, rfl, h2, r2⟩ := trodAll_cons r1
  obtain ⟨rfl, rfl, rfl⟩ := trodAll_nil r2
  obtain rfl : args = #[v0, v1, v2] := by cases args; simp_all
  obtain ⟨rfl, rfl⟩ := trodVars_none hV
  obtain ⟨x0, rfl⟩ := okWide_int Tryz.underlying3 (hval 0 3 v0 rfl rfl)
  obtain ⟨x1, rfl⟩ := okWide_int Tryz.underlying3 (hval 1 3 v1 rfl rfl)
  obtain ⟨x2, rfl⟩ := okWide_int Tryz.underlying3 (hval 2 3 v2 rfl rfl)
  have k0 := h0
  have k1 := h1
  have k2 := h2
  have lt0 : ∀ x ∈ p0, x.block < W.heap.size := by obtain ⟨m, hm⟩ := k0; exact DataW.trod_lt m _ _ _ hm
  have lt1 : ∀ x ∈ p1, x.block < W.heap.size := by obtain ⟨m, hm⟩ := k1; exact DataW.trod_lt m _ _ _ hm
  have lt2 : ∀ x ∈ p2, x.block < W.heap.size := by obtain ⟨m, hm⟩ := k2; exact DataW.trod_lt m _ _ _ hm
  clear hA0 hval0
  refine (limits_law x0 x1 x2 W).mono fun e W' ⟨he, bel⟩ => ?_
  subst he
  exact ⟨_, rfl, _, _, _, [], _, [], hW', trodAll_mk1 (shut_bool Tryz.underlying4 _), (trodAll_cons_mk (Below.trod laidOutP (by kernel_rfl) (of_decide_eq_true (by kernel_rfl)) k0 bel lt0) (trodAll_cons_mk (Below.trod laidOutP (by kernel_rfl) (of_decide_eq_true (by kernel_rfl)) k1 bel lt1) (trodAll_cons_mk (Below.trod laidOutP (by kernel_rfl) (of_decide_eq_true (by kernel_rfl)) k2 bel lt2) trodAll_mk0))), rfl, bel.frame _, fun h => by cases h⟩
theorem qliftLimits_holds : Rows.QliftLimitsSaid :=
  OpenClaim.holds_of_wide 12 Tryz.f12 rfl rfl rfl rfl rfl rfl rfl ⟨rfl, rfl, rfl, rfl, rfl⟩ rfl rfl rfl rfl rfl (by kernel_rfl) Tryz.func12 (by kernel_rfl)
    (of_decide_eq_true (by kernel_rfl)) (by unfold Func.isWrapper; first | (rw [if_pos (by decide +kernel)]; kernel_rfl) | (rw [if_neg (by decide +kernel)]; exact ⟨rfl, rfl⟩))
    (fun os started H enc _ => qliftLimits_lifted os started H enc)
end Go.Proofs.YtnhdcclpjildjaaGreat
#print axioms Go.Proofs.YtnhdcclpjildjaaGreat.qliftLimits_holds
