/- The lifted block depends on the fetch image only, not on the content of the memory: for every input, without any condition. -/
import Derived.Test.YtnhdcclpjildjaaGreatMFetchesG
import Derived.Test.YtnhdcclpjildjaaGreatMFetchesI
namespace Go.Proofs.YtnhdcclpjildjaaGreat
open Go.RowKit

theorem pokeAt_keep (M : MemP) (a : Int) (l : List Int) : ∀ j, j ≤ l.length → (M.pokeAt a l j).image = M.image ∧ (M.pokeAt a l j).rights = M.rights ∧ (M.pokeAt a l j).data.length = M.data.length
 | 0, _ => ⟨rfl, rfl, rfl⟩
 | j + 1, h => by
  have e : l[j]? = some l[j] := List.getElem?_eq_getElem h
  obtain ⟨h1, h2, h3⟩ := pokeAt_keep M a l j (by omega)
  rw [pokeAt_succ M a l e]
  split
  ·exact ⟨h1, h2, (List.length_set ..).trans h3⟩
  ·exact ⟨h1, h2, h3⟩
structure FetS (M Q : MemP) : Prop where
 ok : Q.ok 1792 7
 image : Q.image = M.image
 len : Q.data.length = M.data.length
 rights : ∀ y : Nat, ((Q.rights[y]?).getD 0) / 4 % 2 = ((M.rights[y]?).getD 0) / 4 % 2
theorem FetS.fet {M Q : MemP} (h : FetS M Q) : Q.fet = M.fet := by
 funext a
 unfold MemP.fet MemP.right MemP.code
 rw [h.len, h.image, h.rights]
theorem FetS.poke {M Q : MemP} (h : FetS M Q) (a : Int) {l : List Int} (hb : ∀ x ∈ l, 0 ≤ x ∧ x < 256) : FetS M (Q.pokeAt a l l.length) := by
 obtain ⟨h1, h2, h3⟩ := pokeAt_keep Q a l l.length (Nat.le_refl _)
 exact ⟨pokeAt_ok h.ok _ hb _ (Nat.le_refl _), h1.trans h.image, h3.trans h.len, fun y => by rw [h2]; exact h.rights y⟩
theorem and4 {r : Int} (h : 0 ≤ r ∧ r < 8) : (0 ≤ bits .and .i64 r 4 ∧ bits .and .i64 r 4 < 8) ∧ bits .and .i64 r 4 / 4 % 2 = r / 4 % 2 := by
 rcases (by omega : r = 0 ∨ r = 1 ∨ r = 2 ∨ r = 3 ∨ r = 4 ∨ r = 5 ∨ r = 6 ∨ r = 7) with rfl | rfl | rfl | rfl | rfl | rfl | rfl | rfl <;> exact ⟨⟨by decide, by decide⟩, by decide⟩
theorem rights_range {M : MemP} {n p : Nat} (hM : M.ok n p) (q : Nat) : 0 ≤ M.rightsAt q ∧ M.rightsAt q < 8 := by
 unfold MemP.rightsAt
 cases h : M.rights[q]? with
 | none => exact ⟨by decide, by decide⟩
 | some x => exact hM.rb x (List.mem_of_getElem? h)
theorem FetS.prot {M Q : MemP} (h : FetS M Q) {q : Nat} (hq : q < 7) : FetS M (Q.protect q (bits .and .i64 (Q.rightsAt q) 4)) := by
 have hr := rights_range h.ok q
 obtain ⟨h1, h2⟩ := and4 hr
 refine ⟨protect_ok h.ok q h1, h.image, h.len, fun y => ?_⟩
 show (((Q.rights.set q (bits .and .i64 (Q.rightsAt q) 4))[y]?).getD 0) / 4 % 2 = _
 rw [List.getElem?_set]
 by_cases hy : q = y
 ·rw [if_pos hy, if_pos (by rw [h.ok.lr]; exact hq), Option.getD_some, h2, ← hy]
  exact h.rights q
 ·rw [if_neg hy]; exact h.rights y
theorem mem_grp0 (n p : Nat) (M : MemP) : grpOk Gs.nil (memS 0 n p M) = true := by
 show sbnd 6 (memS 0 n p M) = true
 simp only [sbnd, Ow.bnd, bndL_vals, bndL, CV.bnd]
 rfl
theorem q_eql_str {P : Program} {w0 : World} {G : Gs} {S : List Ow} {f : Fr} {o : Oper} {K : AV → Prop} {t t' : TypeId} {x y : Operand} (l : List Int) (hop : o.op = .binOp .eql t x y t') (_ht : P.underlying t = some .string) (hx : f.ev x = one (strV l)) (hy : f.ev y = one (strV l)) (hk : K (one (.bool true))) : QRun P w0 G S f o K := by
 refine ⟨_, hk, fun r act hf => ⟨_, den_one _ _, fun w hR => ?_⟩⟩
 have h1 := hf.ev x
 have h2 := hf.ev y
 rw [hx] at h1; rw [hy] at h2
 simp [execOp, hop, den_v h1, den_v h2, strV, binOp, Op.stringOp, eqGuard]
theorem zeros256 : (madeCells (Value.int .u8 0).cells (256 * 1)).toList = (List.replicate 256 (0 : Int)).map (Value.int .u8) := by
 refine List.ext_getElem? fun i => ?_
 simp only [madeCells, Value.cells, Array.getElem?_toList, Array.getElem?_map, List.getElem?_map, List.getElem?_replicate, Nat.mul_one]
 by_cases h : i < 256 <;> simp [h, Nat.mod_one]
set_option maxRecDepth 100000 in
set_option maxHeartbeats 8000000 in
theorem fetches_law (A : Option Addr) (n c : Nat) (n0 n1 n2 n3 q0 q1 : Int) (hn : n < 9223372036854775808) (w : World) (hA : ProgAt w A n) : Calls Tryz.prog 11 #[.slice A n c, .agg #[intV n0, intV n1, intV n2, intV n3], .agg #[intV q0, intV q1]] w fun e w' => e = .returned (.bool true) ∧ Below w.heap.size w w' := by
 refine calls_satq [.slice A n c, .agg #[intV n0, intV n1, intV n2, intV n3], .agg #[intV q0, intV q1]] Tryz.func11 Tryz.ntmps11 rfl (by simp) ?_
 refine satq_seqN ?_
 conv => whnf
 refine satq_seqN ?_
 conv => whnf
 refine call_con (x := .bool true) rfl (by kernel_rfl) (fun r w' hR => sanity14 w') ?_
 conv => whnf
 refine satq_in (satq_jumpG 2 rfl rfl rfl ?_)
 conv => whnf
 refine ⟨by kernel_rfl, fun r w1 us hR hd => ?_⟩
 obtain rfl := avals_den (xs := [.slice A n c, .agg #[intV n0, intV n1, intV n2, intV n3]]) rfl hd
 have hB := hR.toBelow
 obtain ⟨b5, vs, e1, e2, e3⟩ := hR.own 1 _ rfl
 obtain rfl := denL_vals_inv (us := [intV q0, intV q1]) e3
 refine (laid_walk w1 A n c n0 n1 n2 n3 hn (hA.later hB)).mono fun e w2 ⟨g, gs, s, M, he, hs, hpc, hst, hM, hn2⟩ => ?_
 have hB2 := hn2.below
 have hq5 : w2.heap[b5]? = some (.cells #[intV q0, intV q1] twoIT (0, 0)) := (hB2.block b5 (heap_lt e2)).trans e2
 have hBB : Below w.heap.size w w2 := hB.trans (hB2.mono hB.size)
 obtain ⟨g1, qs, hg, hO⟩ := cpu_plain hn2.at_
 refine ⟨_, one (ptrV g), w2, Gs.nil, [(5, one (ptrV b5)), (7, one (.bool true))], [], Env.none, he, rel_none w2, fun a hf => frDen ⟨slot_plain hf 5 rfl e1, slot_same hf 7 rfl, trivial⟩, den_one _ _, ?_⟩
 conv => whnf
 refine atq_on ?_
 have hg1 : CellsAt w2 Gs.nil g 24 [ptrV g1] := block_cells (us := stL s [] ++ [ptrV g1]) hg rfl
 obtain ⟨pc, hpcd⟩ : ∃ pc, pc = 256 + 4 * (q0 % 40) := ⟨_, rfl⟩
 have hpcw : word pc := by rw [hpcd]; unfold word; omega
 obtain ⟨bl, hbl⟩ : ∃ bl, bl = liftM M pc q1 := ⟨_, rfl⟩
 refine satq_mid (α := Unit) (fun _ => [(5, one (ptrV b5)), (7, one (.bool true)), (8, one (ptrV g)), (9, one (.int .u32 pc))]) (fun _ => []) ?_ fun _ => ?_
 ·refine satq_vcN ?_
  conv => whnf
  refine q_index_ptr (size := 1) b5 0 2 0 rfl rfl rfl rfl rfl rfl (by decide) (by decide) ?_
  conv => whnf
  refine ⟨intV q0, block_cells (off := 0) (us := [intV q0, intV q1]) hq5 rfl, ?_⟩
  conv => whnf
  refine call_con (x := intV (q0 % 40)) rfl (by kernel_rfl) (fun r w' hR => mod_ref q0 40 w' (by decide)) ?_
  conv => whnf
  refine ⟨q0 % 40, by rw [wr32]; omega, ?_⟩
  conv => whnf
  refine ⟨4 * (q0 % 40), by rw [wr32]; omega, ?_⟩
  conv => whnf
  refine ⟨pc, by rw [wr32, hpcd]; omega, ?_⟩
  conv => whnf
  exact atq_mid () (ent_same rfl (aI rfl (aI rfl (aI rfl (aI rfl trivial)))) trivial)
 refine satq_mid (α := Unit) (fun _ => [(5, one (ptrV b5)), (7, one (.bool true)), (8, one (ptrV g)), (9, one (.int .u32 pc)), (10, .p (.c (.ref 0 0))), (11, one (.bool true))]) (fun _ => .cells blT [.row 1, .row 2, .row 3] :: blkRows bl) ?_ fun _ => ?_
 ·refine satq_vcN ?_
  conv => whnf
  refine sat_anyG (.q 0 (.q 1 (.q 2 (.q 3 (.q 4 (.q 5 (.q 6 (.alt 7 (.q 8 (.alt 9 (.alt 10 (.alt 11 (.alt 12 (.alt 13 .done .no) .no) .no) (.alt 11 (.alt 10 (.alt 12 (.alt 13 .done .no) .no) (.alt 12 (.alt 10 (.alt 13 .done .no) .no) .no)) .no)) (.alt 10 (.alt 9 (.alt 11 (.alt 12 (.alt 13 .done .no) .no) .no) (.alt 11 (.alt 9 (.alt 12 (.alt 13 .done .no) .no) .no) .no)) (.alt 11 (.alt 9 (.alt 10 (.alt 12 (.alt 13 .done .no) .no) (.alt 12 (.alt 10 (.alt 13 .done .no) .no) .no)) (.alt 10 (.alt 9 (.alt 12 (.alt 13 .done .no) .no) .no) .no)) .no)))) (.alt 11 (.alt 7 (.q 8 (.alt 9 (.alt 10 (.alt 12 (.alt 13 .done .no) .no) (.alt 12 (.alt 10 (.alt 13 .done .no) .no) .no)) (.alt 10 (.alt 9 (.alt 12 (.alt 13 .done .no) .no) .no) .no))) .no) .no))))))))) mixed (by kernel_rfl) (by kernel_rfl) ?_
  conv => whnf
  refine ⟨ptrV g1, hg1, ?_⟩
  conv => whnf
  refine q_index_ptr (size := 1) b5 0 2 1 rfl rfl rfl rfl rfl rfl (by decide) (by decide) ?_
  conv => whnf
  refine ⟨intV q1, block_cells (off := 1) (us := [intV q0, intV q1]) hq5 rfl, ?_⟩
  conv => whnf
  repeat' (first
   | (refine call_liftedP _ q1 hO hM (by decide) hpcw ?_; rw [← hbl]; conv => whnf)
   | (refine ⟨?_, trivial⟩; conv => whnf)
   | (refine ⟨?_, ?_, trivial⟩ <;> conv => whnf)
   | (refine ⟨?_, ?_, ?_, trivial⟩ <;> conv => whnf)
   | refine atq_mid () (holdE ?_)
   | fail)
  all_goals first
   | exact Or.inl (ent_same rfl (aI rfl (aI rfl (aI rfl (aI rfl (aI rfl (aI rfl trivial)))))) (aI (aI rfl (Or.inl rfl)) (aI ((aI rfl (aI rfl (aI rfl rfl)))) (aI ((aI rfl (aI rfl (aI rfl rfl)))) (aI ((aI rfl (aI rfl (aI rfl rfl)))) trivial)))))
   | exact Or.inl (ent_ren [3, 0, 1, 2] (aI rfl (aI rfl (aI rfl (aI rfl (aI rfl (aI rfl trivial)))))) (aI ((Exists.intro _ (aI rfl (aI rfl (Or.inl rfl))))) (aI ((Exists.intro _ (aI rfl (aI rfl (aI rfl (aI rfl rfl)))))) (aI ((Exists.intro _ (aI rfl (aI rfl (aI rfl (aI rfl rfl)))))) (aI ((Exists.intro _ (aI rfl (aI rfl (aI rfl (aI rfl rfl)))))) trivial)))) rfl rfl rfl rfl rfl)
   | fail
 obtain ⟨hbok, hbv, _⟩ := liftM_ok hM pc q1
 rw [← hbl] at hbok hbv
 refine satq_restart fun r w3 hR3 => ?_
 obtain ⟨g6, A1, c1, A2, c2, A3, c3, b6, k6, s1, s2, s3, m1, m2⟩ := own_blkRows hR3 0 1 2 3 bl rfl rfl rfl rfl
 have hB23 := hR3.toBelow
 have hB3 : Below w.heap.size w w3 := hBB.trans (hB23.mono hBB.size)
 have hO3 := objs_later (memS_ob 1792 7 M) hO hB23
 have hg3 : w3.heap[g]? = some (.cells (stL s [] ++ [ptrV g1]).toArray cpuT (0, 0)) := (hB23.block g (heap_lt hg)).trans hg
 have hq53 : w3.heap[b5]? = some (.cells #[intV q0, intV q1] twoIT (0, 0)) := (hB23.block b5 (heap_lt hq5)).trans hq5
 refine ⟨[(5, one (ptrV b5)), (7, one (.bool true)), (8, one (ptrV g)), (9, one (.int .u32 pc)), (10, one (ptrV g6)), (11, one (.bool true))], fun a hf => frDen ⟨slot_same hf 5 rfl, slot_same hf 7 rfl, slot_same hf 8 rfl, slot_same hf 9 rfl, slot_plain hf 10 rfl b6, slot_same hf 11 rfl, trivial⟩, ?_⟩
 clear hR3 b6
 have hg31 : CellsAt w3 Gs.nil g 24 [ptrV g1] := block_cells (us := stL s [] ++ [ptrV g1]) hg3 rfl
 refine satq_mid (α := { Q : MemP // FetS M Q }) (fun _ => [(5, one (ptrV b5)), (7, one (.bool true)), (9, one (.int .u32 pc)), (10, one (ptrV g6)), (11, one (.bool true)), (12, .p (.c (.ref 0 0)))]) (fun x => memS 0 1792 7 x.1) ?_ fun x => ?_
 ·refine satq_vcN ?_
  conv => whnf
  refine ⟨_, hg31, ?_⟩
  conv => whnf
  refine call_copyP hO3 hM (by decide) fun t => ?_
  conv => whnf
  exact atq_mid ⟨M.tl t, tl_ok hM t, rfl, rfl, fun _ => rfl⟩ (ent_same rfl (aI rfl (aI rfl (aI rfl (aI rfl (aI rfl (aI rfl trivial)))))) (aI (aI rfl (Or.inl rfl)) (aI (aI rfl (Or.inl rfl)) (aI (aI rfl (Or.inl rfl)) (aI (aI rfl (Or.inl rfl)) (aI (aI rfl (Or.inl rfl)) (aI (aI rfl (Or.inl rfl)) trivial)))))))
 obtain ⟨Q0, hQ0⟩ := x
 dsimp only
 refine satq_mid (α := { Q : MemP // FetS M Q }) (fun _ => [(5, one (ptrV b5)), (7, one (.bool true)), (9, one (.int .u32 pc)), (10, one (ptrV g6)), (11, one (.bool true)), (12, .p (.c (.ref 0 0)))]) (fun x => memS 0 1792 7 x.1) ?_ fun x => ?_
 ·refine satq_seqN ?_
  conv => whnf
  refine satq_block ?_
  refine satq_loop (α := { x : Nat × MemP // x.1 ≤ 7 ∧ FetS M x.2 }) (fun x => [(5, one (ptrV b5)), (7, one (.bool true)), (9, one (.int .u32 pc)), (10, one (ptrV g6)), (11, one (.bool true)), (12, .p (.c (.ref 0 0))), (13, one (intV (x.1.1 : Int)))]) (fun x => memS 0 1792 7 x.1.2) (fun x => 7 - x.1.1)
   ⟨(0, Q0), by show 0 ≤ 7; omega, hQ0⟩ (ent_same rfl (aI rfl (aI rfl (aI rfl (aI rfl (aI rfl (aI rfl (aI rfl trivial))))))) (aI (aI rfl (Or.inl rfl)) (aI (aI rfl (Or.inl rfl)) (aI (aI rfl (Or.inl rfl)) (aI (aI rfl (Or.inl rfl)) (aI (aI rfl (Or.inl rfl)) (aI (aI rfl (Or.inl rfl)) trivial))))))) fun x => ?_
  obtain ⟨⟨q, Q⟩, hq, hQ⟩ := x
  dsimp only at hq hQ ⊢
  have hS : ∀ i, i < 6 → (memS 0 1792 7 Q)[0 + i]? = (memS 0 1792 7 Q)[i]? := fun i _ => by rw [Nat.zero_add]
  refine satq_seqN ?_
  conv => whnf
  refine call_memR (pre := []) (suf := []) 0 1792 7 Q (intV ((7 : Nat) : Int)) hS rfl rfl (by kernel_rfl) (fun w g gs hk hU => mem_pages Q 1792 7 w g gs hU) ?_
  conv => whnf
  refine ⟨fun hc => ?_, fun hc => ?_⟩
  ·have hlt : q < 7 := by simp at hc; omega
   conv => whnf
   have hzb : ∀ x ∈ List.replicate 256 (0 : Int), 0 ≤ x ∧ x < 256 := fun x hx => by
    rw [List.eq_of_mem_replicate hx]; exact ⟨by decide, by decide⟩
   obtain ⟨Z, hZ⟩ : ∃ Z, Z = List.replicate 256 (0 : Int) := ⟨_, rfl⟩
   have hZl : Z.length = 256 := by rw [hZ]; exact List.length_replicate
   rw [← hZ] at hzb
   refine satq_in (satq_block ?_)
   refine satq_seqN ?_
   conv => whnf
   refine ⟨256 * (q : Int), wr64 (by omega), ?_⟩
   conv => whnf
   refine ⟨256 * (q : Int), by rw [wr32]; omega, ?_⟩
   conv => whnf
   refine op_makeCells 1 256 rfl rfl rfl rfl rfl rfl rfl (by decide) (by decide) (by decide) rfl (xs := Z.map (Value.int .u8)) (by rw [hZ]; exact zeros256) ?_
   conv => whnf
   refine q_conv_str 6 256 256 Z rfl rfl rfl rfl rfl rfl hZl ?_
   conv => whnf
   refine call_memW (pre := []) (suf := [one (u32V (256 * (q : Int))), one (strV Z)]) 0 1792 7 Q _ (.tuple #[]) (fun i hi => by rw [Nat.zero_add]; exact List.getElem?_append_left hi) rfl rfl (by kernel_rfl) (fun w g gs hk hU => mem_pokeAt Q 1792 7 _ _ w g gs hU hQ.ok (by unfold word; omega) hzb (by omega) (by omega)) ?_
   have hQ1 := hQ.poke (256 * (q : Int)) hzb
   generalize Q.pokeAt (256 * (q : Int)) Z Z.length = Q1 at hQ1 ⊢
   conv => whnf
   refine satq_as (f' := [(5, one (ptrV b5)), (7, one (.bool true)), (9, one (.int .u32 pc)), (10, one (ptrV g6)), (11, one (.bool true)), (12, .p (.c (.ref 0 0))), (13, one (intV (q : Int)))]) (S' := memS 0 1792 7 Q1) (ent_drop (aI rfl (aI rfl (aI rfl (aI rfl (aI rfl (aI rfl (aI rfl trivial))))))) (aI (aI rfl (Or.inl rfl)) (aI (aI rfl (Or.inl rfl)) (aI (aI rfl (Or.inl rfl)) (aI (aI rfl (Or.inl rfl)) (aI (aI rfl (Or.inl rfl)) (aI (aI rfl (Or.inl rfl)) trivial)))))) rfl (mem_grp0 1792 7 Q1)) ?_
   have hS1 : ∀ i, i < 6 → (memS 0 1792 7 Q1)[0 + i]? = (memS 0 1792 7 Q1)[i]? := fun i _ => by rw [Nat.zero_add]
   refine satq_vcN ?_
   conv => whnf
   refine call_memR (pre := []) (suf := [one (intV (q : Int))]) 0 1792 7 Q1 (intV (Q1.rightsAt q)) hS1 rfl rfl (by kernel_rfl) (fun w g gs hk hU => mem_rightsOf Q1 1792 7 q w g gs hU hQ1.ok hlt) ?_
   conv => whnf
   refine ⟨bits .and .i64 (Q1.rightsAt q) 4, rfl, ?_⟩
   conv => whnf
   refine call_memW (pre := []) (suf := [one (intV (q : Int)), one (intV (bits .and .i64 (Q1.rightsAt q) 4))]) 0 1792 7 Q1 _ (.tuple #[]) hS1 rfl rfl (by kernel_rfl) (fun w g gs hk hU => mem_protect Q1 1792 7 q _ w g gs hU hQ1.ok hlt (by omega) (and4 (rights_range hQ1.ok q)).1) ?_
   have hQ2 := hQ1.prot hlt
   generalize Q1.protect q (bits .and .i64 (Q1.rightsAt q) 4) = Q2 at hQ2 ⊢
   conv => whnf
   refine atq_block (atq_on ?_)
   refine satq_vcN ?_
   conv => whnf
   refine ⟨(q : Int) + 1, wr64 (by omega), ?_⟩
   conv => whnf
   exact atq_next ⟨(q + 1, Q2), by show q + 1 ≤ 7; omega, hQ2⟩ (ent_same rfl (aI rfl (aI rfl (aI rfl (aI rfl (aI rfl (aI rfl (aI rfl trivial))))))) (aI (aI rfl (Or.inl rfl)) (aI (aI rfl (Or.inl rfl)) (aI (aI rfl (Or.inl rfl)) (aI (aI rfl (Or.inl rfl)) (aI (aI rfl (Or.inl rfl)) (aI (aI rfl (Or.inl rfl)) trivial))))))) (by show 7 - (q + 1) < 7 - q; omega)
  ·conv => whnf
   exact atq_out (atq_exit (atq_mid ⟨Q, hQ⟩ (ent_same rfl (aI rfl (aI rfl (aI rfl (aI rfl (aI rfl (aI rfl trivial)))))) (aI (aI rfl (Or.inl rfl)) (aI (aI rfl (Or.inl rfl)) (aI (aI rfl (Or.inl rfl)) (aI (aI rfl (Or.inl rfl)) (aI (aI rfl (Or.inl rfl)) (aI (aI rfl (Or.inl rfl)) trivial)))))))))
 obtain ⟨Q, hQ⟩ := x
 dsimp only
 have hbl2 : bl = liftM Q pc q1 := by rw [hbl]; unfold liftM; rw [hQ.fet]
 have hc53 : CellsAt w3 Gs.nil b5 1 [intV q1] := block_cells (off := 1) (us := [intV q0, intV q1]) hq53 rfl
 refine satq_mid (α := Unit) (fun _ => [(7, one (.bool true)), (10, one (ptrV g6)), (11, one (.bool true)), (14, .p (.c (.ref 0 0))), (15, one (.bool true))]) (fun _ => .cells blT [.row 1, .row 2, .row 3] :: blkRows bl) ?_ fun _ => ?_
 ·refine satq_vcN ?_
  conv => whnf
  refine q_index_ptr (size := 1) b5 0 2 1 rfl rfl rfl rfl rfl rfl (by decide) (by decide) ?_
  conv => whnf
  refine ⟨_, hc53, ?_⟩
  conv => whnf
  refine call_lifted 0 1792 7 Q pc q1 (fun i hi => by rw [Nat.zero_add]) hQ.ok (by decide) hpcw ?_
  rw [← hbl2]
  conv => whnf
  exact atq_mid () (ent_ren [9, 6, 7, 8] (aI rfl (aI rfl (aI rfl (aI rfl (aI rfl trivial))))) (aI ((Exists.intro _ (aI rfl (aI rfl (Or.inl rfl))))) (aI ((Exists.intro _ (aI rfl (aI rfl (aI rfl (aI rfl rfl)))))) (aI ((Exists.intro _ (aI rfl (aI rfl (aI rfl (aI rfl rfl)))))) (aI ((Exists.intro _ (aI rfl (aI rfl (aI rfl (aI rfl rfl)))))) trivial)))) rfl rfl rfl rfl rfl)
 have hcode : ∀ o ∈ bl.ops, 1 ≤ o.code ∧ o.code ≤ 25 := fun o ho => by
  have := valid_formed hbv o ho
  unfold formedB isOp at this
  simp only [Bool.and_eq_true, decide_eq_true_eq] at this
  exact this.1.1.1.1
 have hpg : ∀ x ∈ bl.pages, 0 ≤ x ∧ x < 4096 := by
  rw [hbl]
  exact (liftPages_in pc (liftLen (readQ M.fet) pc (limN q1) (limN q1) 0)).range
 refine satq_restart fun r w4 hR4 => ?_
 obtain ⟨g7, B1, d1, B2, d2, B3, d3, b7, k7, t1, t2, t3, _, _⟩ := own_blkRows hR4 0 1 2 3 bl rfl rfl rfl rfl
 have hB34 := hR4.toBelow
 have hB4 : Below w.heap.size w w4 := hB3.trans (hB34.mono hB3.size)
 have k64 : CellsAt w4 Gs.nil g6 0 [.slice A1 bl.at_.length c1, .slice A2 bl.pages.length c2, .slice A3 bl.ops.length c3] := ⟨Nat.lt_of_lt_of_le k6.1 hB34.size, by simp, fun i u hi => by
  have := k6.2.2 i u hi
  simp only [World.cell?] at this ⊢
  rw [hB34.block g6 k6.1]; exact this⟩
 have u1 := sl_later s1 hB34
 have u2 := sl_later s2 hB34
 have u3 := sl_later s3 hB34
 refine ⟨[(7, one (.bool true)), (10, one (ptrV g6)), (11, one (.bool true)), (14, one (ptrV g7)), (15, one (.bool true))], fun a hf => frDen ⟨slot_same hf 7 rfl, slot_same hf 10 rfl, slot_same hf 11 rfl, slot_plain hf 14 rfl b7, slot_same hf 15 rfl, trivial⟩, ?_⟩
 clear hR4 b7
 refine satq_vcN ?_
 conv => whnf
 refine sat_quiet mixed (by kernel_rfl) ?_
 conv => whnf
 (repeat ((first | apply k1 | apply k2 | apply k3 | apply k4 | refine k5 (by decide) ?_ | refine k6 (by decide) ?_); conv => whnf))
 refine ⟨_, k64, rfl, ?_⟩
 conv => whnf
 (repeat ((first | apply k1 | apply k2 | apply k3 | apply k4 | refine k5 (by decide) ?_ | refine k6 (by decide) ?_); conv => whnf))
 refine q_con (x := strV (printL bl)) rfl (by kernel_rfl) (fun r w' hR => print_walk bl A1 A2 A3 c1 c2 c3 w' hbok hcode hpg (sl_later u1 hR.toBelow) (sl_later u2 hR.toBelow) (sl_later u3 hR.toBelow)) ?_
 conv => whnf
 (repeat ((first | apply k1 | apply k2 | apply k3 | apply k4 | refine k5 (by decide) ?_ | refine k6 (by decide) ?_); conv => whnf))
 refine ⟨_, k7, rfl, ?_⟩
 conv => whnf
 (repeat ((first | apply k1 | apply k2 | apply k3 | apply k4 | refine k5 (by decide) ?_ | refine k6 (by decide) ?_); conv => whnf))
 refine q_con (x := strV (printL bl)) rfl (by kernel_rfl) (fun r w' hR => print_walk bl B1 B2 B3 d1 d2 d3 w' hbok hcode hpg (sl_later t1 hR.toBelow) (sl_later t2 hR.toBelow) (sl_later t3 hR.toBelow)) ?_
 conv => whnf
 (repeat ((first | apply k1 | apply k2 | apply k3 | apply k4 | refine k5 (by decide) ?_ | refine k6 (by decide) ?_); conv => whnf))
 refine q_eql_str (printL bl) rfl rfl rfl rfl ?_
 conv => whnf
 (repeat ((first | apply k1 | apply k2 | apply k3 | apply k4 | refine k5 (by decide) ?_ | refine k6 (by decide) ?_); conv => whnf))
 refine atq_ret ?_
 conv => whnf
 exact fin_val rfl fun w5 hB => ⟨rfl, hB4.trans (hB.mono hB4.size)⟩
end Go.Proofs.YtnhdcclpjildjaaGreat
namespace Go.Proofs.YtnhdcclpjildjaaGreat
open Go.ChangeShapes Go.WideShapes Go.ChangeAt Go.RowKit

set_option maxRecDepth 100000 in
theorem qliftFetches_lifted (os : Os) (started : os.Started) (H : Type) (enc : TypeId × Value → H) :
  ReturnsInHanded {} Tryz.checked os 11 .any (Rows.qliftFetchesSpec.pre6 enc Tryz.prog Tryz.f11 Rows.qliftFetchesRow.domain false) (Rows.qliftFetchesSpec.post enc Tryz.prog Tryz.f11 false true false false) := by
 refine returnsInHanded_of_change (C := Tryz.checked) ownK started (by kernel_rfl) Tryz.func11
  (ChangeSpec.witness6 (enc := enc) (C := Tryz.checked) false ⟨#[], #[.slice none 0 0, .agg #[.int .i64 0, .int .i64 0, .int .i64 0, .int .i64 0], .agg #[.int .i64 0, .int .i64 0]], []⟩ 8 (by kernel_rfl) (by kernel_rfl) (by kernel_rfl) (by kernel_rfl)) ?_
 intro W base args ds gs before hval0 hW hcnd _
 have hval : ∀ (j : Nat) t v, Tryz.f11.params[j]? = some t → args[j]? = some v → Value.okWide Tryz.prog W .any base t v := hval0
 have hW' := hW
 obtain ⟨p, q, hA0, hV, rfl, hfz, hnd⟩ := hW
 have hA : DataW.TrodAll enc Tryz.prog W 0 (fun _ => true) true Tryz.f11.params.toList args.toList ds p := hA0
 rw [Tryz.params11] at hA hval
 obtain ⟨v0, vs0, d0, ds0, p0, q0, hargs, rfl, rfl, h0, r0⟩ := trodAll_cons hA
 obtain ⟨v1, vs1, d1, ds1, p1, q1, rfl, rfl, rfl, h1, r1⟩ := trodAll_cons r0
 obtain ⟨v2, vs2, d2, ds2, p2, q2, rfl, rfl, rfl, h2, r2⟩ := trodAll_cons r1
 obtain ⟨rfl, rfl, rfl⟩ := trodAll_nil r2
 obtain rfl : args = #[v0, v1, v2] := by cases args; simp_all
 obtain ⟨rfl, rfl⟩ := trodVars_none hV
 clear hA0
 obtain ⟨a0, l0, c0, rfl⟩ := okWide_slice Tryz.underlying22 (hval 0 22 v0 rfl rfl)
 obtain ⟨hA0, hn0⟩ := open_prog h0
 obtain ⟨y10, y11, y12, y13, rfl, _⟩ := open_n4 (hval 1 23 v1 rfl rfl) h1
 obtain ⟨y20, y21, rfl, _⟩ := open_q2 (hval 2 24 v2 rfl rfl) h2
 have k0 := h0
 have k1 := h1
 have k2 := h2
 have lt0 : ∀ x ∈ p0, x.block < W.heap.size := by obtain ⟨m, hm⟩ := k0; exact DataW.trod_lt m _ _ _ hm
 have lt1 : ∀ x ∈ p1, x.block < W.heap.size := by obtain ⟨m, hm⟩ := k1; exact DataW.trod_lt m _ _ _ hm
 have lt2 : ∀ x ∈ p2, x.block < W.heap.size := by obtain ⟨m, hm⟩ := k2; exact DataW.trod_lt m _ _ _ hm
 clear hval0
 refine (fetches_law a0 l0 c0 y10 y11 y12 y13 y20 y21 hn0 W hA0).mono fun e W' ⟨he, bel⟩ => ?_
 subst he
 exact ⟨_, rfl, _, _, _, [], _, [], hW', trodAll_mk1 (shut_bool Tryz.underlying4 _), (trodAll_cons_mk (Below.trod laidOutP (by kernel_rfl) (of_decide_eq_true (by kernel_rfl)) k0 bel lt0) (trodAll_cons_mk (Below.trod laidOutP (by kernel_rfl) (of_decide_eq_true (by kernel_rfl)) k1 bel lt1) (trodAll_cons_mk (Below.trod laidOutP (by kernel_rfl) (of_decide_eq_true (by kernel_rfl)) k2 bel lt2) trodAll_mk0))), rfl, bel.frame _, fun h => by cases h⟩
theorem qliftFetches_holds : Rows.QliftFetchesSaid :=
 OpenClaim.holds_of_wide 11 Tryz.f11 rfl rfl rfl rfl rfl rfl rfl ⟨rfl, rfl, rfl, rfl, rfl⟩ rfl rfl rfl rfl rfl (by kernel_rfl) Tryz.func11 (by kernel_rfl)
  (of_decide_eq_true (by kernel_rfl)) (by unfold Func.isWrapper; first | (rw [if_pos (by decide +kernel)]; kernel_rfl) | (rw [if_neg (by decide +kernel)]; exact ⟨rfl, rfl⟩))
  (fun os started H enc _ => qliftFetches_lifted os started H enc)
end Go.Proofs.YtnhdcclpjildjaaGreat
#print axioms Go.Proofs.YtnhdcclpjildjaaGreat.qliftFetches_holds
