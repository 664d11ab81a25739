/- What the laws over a machine with a program share. -/
import Derived.Test.YtnhdcclpjildjaaGreatK19
import Derived.Test.YtnhdcclpjildjaaGreatMStopsG
namespace Go.Proofs.YtnhdcclpjildjaaGreat
open Go.RowKit

theorem cpu_plain {w : World} {g n p : Nat} {gs : List Nat} {us : List Value} {M : MemP} (h : ObjsAt w (g :: gs) (cpuU 0 us n p M)) : ∃ g1 qs, w.heap[g]? = some (.cells (us ++ [ptrV g1]).toArray cpuT (0, 0)) ∧ ObjsAt w (g1 :: qs) (memS 0 n p M) := by
 have hR := rel_objs h
 obtain ⟨g1, qs, h1, h2⟩ := hR.objsAt 1 (memS 0 n p M) (memS 1 n p M) (by simp) (fun i hi => by rcases (by have : i < 6 := hi; omega : i = 0 ∨ i = 1 ∨ i = 2 ∨ i = 3 ∨ i = 4 ∨ i = 5) with rfl | rfl | rfl | rfl | rfl | rfl <;> rfl) (memS_sh 1 n p M) (memS_ob n p M)
 obtain ⟨b, vs, e1, e2, e3⟩ := hR.own 0 _ rfl
 have hb : b = g := by
  have : some g = some b := e1
  injection this with this; exact this.symm
 subst hb
 have hvs : vs = us ++ [ptrV g1] := by
  have hl := denL_length e3
  have ht := denL_take us.length e3
  have hdr := denL_drop us.length e3
  rw [show us.length = (us.map CV.v).length by rw [List.length_map]] at ht hdr
  rw [List.take_left] at ht
  rw [List.drop_left] at hdr
  have ht := denL_vals_inv ht
  simp only [denL, CV.den] at hdr
  obtain ⟨u, l, hu, ⟨b', hb', hu'⟩, hl'⟩ := hdr
  rw [h1] at hb'
  injection hb' with hb'
  subst hb'
  rw [← List.take_append_drop (us.map CV.v).length vs, ht, hu, hu', hl']
 rw [hvs] at e2
 exact ⟨g1, qs, e2, h2⟩
section
variable {w0 : World} {S : List Ow} {K : AV → List Ow → Prop} {g n p : Nat} {gs : List Nat} {M : MemP}
theorem call_liftedP (pc most : Int) (hO : ObjsAt w0 (g :: gs) (memS 0 n p M)) (hM : M.ok n p) (hp : 2 ≤ p ∧ p ≤ 1000) (hpc : word pc)
  (hK : K (.tup [.agg [.row S.length, .row (S.length + 1), .row (S.length + 2)], .c (.v (.bool true))]) (S ++ blkRows (liftM M pc most))) : CallS Tryz.prog w0 Gs.nil 15 [one (.int .u32 pc), one (ptrV g), one (intV most)] S K := by
 refine call_blkT (liftM M pc most) (.bool true) (by kernel_rfl) (fun r w us hR hd => ?_) hK
 obtain rfl := avals_den (xs := [.int .u32 pc, ptrV g, intV most]) rfl hd
 exact lifted_walk (objs_later (memS_ob n p M) hO hR.toBelow) hM hp pc most hpc
end
theorem holdE {p : Prop} (h : p ∨ False) : p := h.elim id False.elim
end Go.Proofs.YtnhdcclpjildjaaGreat
namespace Go.Proofs.YtnhdcclpjildjaaGreat
open Go.RowKit

abbrev opMark0 : BOp := ⟨20, 0, 0, 0, 0⟩
abbrev opSlow0 : BOp := ⟨22, 0, 0, 0, 0⟩
set_option maxRecDepth 100000 in
set_option maxHeartbeats 1000000 in
theorem apply_nil (o : BOp) (st : Bool) (ho : (o = opMark0 ∧ st = true) ∨ (o = opSlow0 ∧ st = false)) (vs : List Int) (hvs : VarsOk vs) (w : World) :
  Calls Tryz.prog 59 #[opV o, varsV vs, .pointer none] w fun e w' => e = .returned (.tuple #[varsV vs, .bool st]) ∧ Below w.heap.size w w' := by
 have hvl := varsC_length hvs
 have hz := zeroC_length
 rcases ho with ⟨rfl, rfl⟩ | ⟨rfl, rfl⟩
 ·refine calls_satq [opV opMark0, varsV vs, .pointer none] Tryz.func59 Tryz.ntmps59 rfl (by simp) ?_
  refine satq_seqN ?_
  conv => whnf
  refine satq_seqN ?_
  conv => whnf
  refine ⟨⟨by decide, by decide⟩, ?_⟩
  conv => whnf
  erw [var_at hvs (i := 0) (by omega)]
  conv => whnf
  refine satq_seqN ?_
  conv => whnf
  refine ⟨⟨by decide, by decide⟩, ?_⟩
  conv => whnf
  erw [var_at hvs (i := 0) (by omega)]
  conv => whnf
  refine satq_seqN ?_
  conv => whnf
  refine call_con rfl (by kernel_rfl) (fun r w' hR => shapeOf_ref 20 w') ?_
  conv => whnf
  refine satq_mid (α := Unit) (fun _ => [(4, .p (.c (.ref 0 0))), (6, .p (.c (.ref 1 0)))]) (fun _ => [.cells 53 (varsC vs), .cells 53 (varsC (List.replicate 28 0))]) ?_ fun _ => ?_
  ·refine satq_vcN ?_
   conv => whnf
   (repeat ((first | apply k1 | apply k2 | apply k3 | apply k4 | refine k5 (by decide) ?_ | refine k6 (by decide) ?_); conv => whnf))
   exact atq_mid () (ent_ren [1, 2] (aI rfl (aI rfl trivial)) (aI ((Exists.intro _ (aI rfl (aI rfl (Or.inl (renL_vals _ _).symm))))) (aI ((Exists.intro _ (aI rfl (aI rfl (Or.inl (renL_vals _ _).symm))))) trivial)) rfl (by simp only [sbnd, Ow.bnd, bndL_vals]) rfl rfl rfl)
  ·refine satq_vcN ?_
   conv => whnf
   erw [cut_all hvl]
   conv => whnf
   erw [beq_len hvl, onesL_u32]
   conv => whnf
   erw [ble_of (hvl.trans hz.symm)]
   conv => whnf
   erw [vars_put hvs _ hz]
   conv => whnf
   refine atq_ret ?_
   conv => whnf
   erw [cut_all hvl]
   conv => whnf
   exact fin_val (val_tup2 _ _) fun w2 hB => ⟨rfl, hB⟩
 ·refine calls_satq [opV opSlow0, varsV vs, .pointer none] Tryz.func59 Tryz.ntmps59 rfl (by simp) ?_
  refine satq_seqN ?_
  conv => whnf
  refine satq_seqN ?_
  conv => whnf
  refine ⟨⟨by decide, by decide⟩, ?_⟩
  conv => whnf
  erw [var_at hvs (i := 0) (by omega)]
  conv => whnf
  refine satq_seqN ?_
  conv => whnf
  refine ⟨⟨by decide, by decide⟩, ?_⟩
  conv => whnf
  erw [var_at hvs (i := 0) (by omega)]
  conv => whnf
  refine satq_seqN ?_
  conv => whnf
  refine call_con rfl (by kernel_rfl) (fun r w' hR => shapeOf_ref 22 w') ?_
  conv => whnf
  refine satq_vcN ?_
  conv => whnf
  (repeat ((first | apply k1 | apply k2 | apply k3 | apply k4 | refine k5 (by decide) ?_ | refine k6 (by decide) ?_); conv => whnf))
  erw [cut_all hvl]
  conv => whnf
  erw [beq_len hvl, onesL_u32]
  conv => whnf
  erw [ble_of (hvl.trans hz.symm)]
  conv => whnf
  erw [vars_put hvs _ hz]
  conv => whnf
  refine atq_ret ?_
  conv => whnf
  erw [cut_all hvl]
  conv => whnf
  exact fin_val (val_tup2 _ _) fun w2 hB => ⟨rfl, hB⟩
theorem avals_op_nil (o : BOp) (vs : List Int) : avals [.p (.agg ((opC o).map .v)), .p (.agg (varsC vs)), one (.pointer none)] = some [opV o, varsV vs, .pointer none] := by
 simp only [avals, AV.val, Pc.val, valL_vals, CV.val]; rfl
set_option maxRecDepth 100000 in
set_option maxHeartbeats 1000000 in
theorem eval_nil (b : Blk) (y : Int) (vs : List Int) (A1 A2 A3 : Option Addr) (c1 c2 c3 : Nat) (w : World) (hb : b.ok) (hv : validB b = true) (hops : b.ops = [opMark0, opSlow0]) (hat : b.at_ = [y]) (hvs : VarsOk vs)
  (h1 : SlOld w Gs.nil A1 (b.at_.map (.int .u32))) (h2 : SlOld w Gs.nil A2 (b.pages.map (.int .i64))) (h3 : SlOld w Gs.nil A3 (b.ops.flatMap opC)) :
  Calls Tryz.prog 29 #[.agg #[.slice A1 b.at_.length c1, .slice A2 b.pages.length c2, .slice A3 b.ops.length c3], varsV vs, .pointer none] w fun e w' => e = .returned (outV ⟨true, 0, 0, y, guestsL vs⟩) ∧ Below w.heap.size w w' := by
 have hvl := varsC_length hvs
 have hz := zeroC_length
 have hgu := guests_ok hvs
 have hgl := varsC_length hgu
 refine calls_satq [.agg #[.slice A1 b.at_.length c1, .slice A2 b.pages.length c2, .slice A3 b.ops.length c3], varsV vs, .pointer none] Tryz.func29 Tryz.ntmps29 rfl (by simp) ?_
 refine satq_seq ?_
 conv => whnf
 refine satq_seq ?_
 conv => whnf
 refine call_con rfl (by kernel_rfl) (fun r w' hR => valid_ref A1 A2 A3 c1 c2 c3 b w' hb (slOld_at hR h2) (slOld_at hR h3)) ?_
 rw [valid_same, hv]
 conv => whnf
 refine satq_seq ?_
 conv => whnf
 refine ⟨fun h => absurd h (by decide), fun _ => ?_⟩
 conv => whnf
 refine satq_seq ?_
 conv => whnf
 erw [cut_all hvl]
 conv => whnf
 erw [beq_len hvl, onesL_u32]
 conv => whnf
 erw [ble_of (hvl.trans hz.symm)]
 conv => whnf
 erw [vars_put hvs _ hz]
 conv => whnf
 refine satq_seq ?_
 conv => whnf
 refine satq_in ?_
 refine satq_seq ?_
 conv => whnf
 refine satq_block ?_
 have hlen : b.ops.length = 2 := by rw [hops]; rfl
 have hal : b.at_.length = 1 := by rw [hat]; rfl
 rw [hlen, hal]
 refine satq_loop (α := { j : Nat // j ≤ 1 })
  (fun j => [(2, one (.pointer none)), (3, .p (.c (.ref 0 0))), (6, .p (.c (.ref 2 0))), (8, .p (.c (.ref 3 0))), (9, one (.int .i64 0)), (10, one (.int .i64 (j.1 : Int)))])
  (fun _ => [.cells 32 [.v (.slice A1 1 c1), .v (.slice A2 b.pages.length c2), .v (.slice A3 2 c3)], .cells 53 (varsC vs), .cells 55 ((outL Outc.zero).map .v), .cells 53 (varsC vs)]) (fun j => 1 - j.1)
  ⟨0, by omega⟩
  (ent_same rfl (aI rfl (aI rfl (aI rfl (aI rfl (aI rfl (aI rfl trivial)))))) (aI sM (aI sM (aI sM (aI sM trivial))))) fun j => ?_
 obtain ⟨j, hj⟩ := j
 dsimp only
 rcases (by omega : j = 0 ∨ j = 1) with rfl | rfl
 ·obtain ⟨bo, off, rfl, hcell⟩ := slOld_cells h3 (j := 0) (o := opMark0) (by rw [hops]; rfl)
  refine satq_seq ?_
  conv => whnf
  (repeat ((first | apply k1 | apply k2 | apply k3 | apply k4 | refine k5 (by decide) ?_ | refine k6 (by decide) ?_); conv => whnf))
  refine satq_in (satq_block ?_)
  refine satq_seq ?_
  conv => whnf
  (refine ⟨⟨by omega, by omega⟩, ?_⟩; (conv=>whnf))
  refine ⟨opC opMark0, hcell, rfl, ?_⟩
  conv => whnf
  refine satq_as (f' := [(2, one (.pointer none)), (3, .p (.c (.ref 0 0))), (6, .p (.c (.ref 2 0))), (8, .p (.c (.ref 3 0))), (9, one (.int .i64 0)), (10, one (.int .i64 (((0 : Nat) : Int) : Int))), (11, .p (.c (.ref 4 0)))]) (S' := [.cells 32 [.v (.slice A1 1 c1), .v (.slice A2 b.pages.length c2), .v (.slice (some ⟨bo, off, none⟩) 2 c3)], .cells 53 (varsC vs), .cells 55 ((outL Outc.zero).map .v), .cells 53 (varsC vs), .cells 45 [.v (intV 20), .v (intV 0), .v (intV 0), .v (intV 0), .v (.int .u32 0)]]) (ent_same rfl (aI rfl (aI rfl (aI rfl (aI rfl (aI rfl (aI rfl (aI rfl trivial))))))) (aI sM (aI sM (aI sM (aI sM (aI sM trivial)))))) ?_
  refine satq_in ?_
  refine satq_seqN ?_
  conv => whnf
  refine satq_cond rfl (fun _ => ?_) nT
  refine satq_vcN ?_
  conv => whnf
  refine ⟨0, wr64 (by omega), ?_⟩
  conv => whnf
  refine atq_on ?_
  refine satq_in ?_
  refine satq_seqN ?_
  conv => whnf
  (repeat ((first | apply k1 | apply k2 | apply k3 | apply k4 | refine k5 (by decide) ?_ | refine k6 (by decide) ?_); conv => whnf))
  refine satq_cond rfl nF (fun _ => satq_skip (atq_on ?_))
  refine satq_in ?_
  refine satq_seqN ?_
  conv => whnf
  refine satq_cond rfl nF (fun _ => satq_skip (atq_on ?_))
  refine satq_seqN ?_
  conv => whnf
  erw [cut_all hvl]
  conv => whnf
  refine call_con (xs := [opV opMark0, varsV vs, .pointer none]) (x := .tuple #[varsV vs, .bool true]) (avals_op_nil opMark0 vs) (by kernel_rfl) (fun r w' hR => apply_nil opMark0 true (Or.inl ⟨rfl, rfl⟩) vs hvs w') ?_
  conv => whnf
  erw [beq_len hvl, onesL_u32]
  conv => whnf
  erw [ble_of (hvl.trans hz.symm)]
  conv => whnf
  erw [vars_put hvs _ hz]
  conv => whnf
  refine satq_in ?_
  refine satq_seqN ?_
  conv => whnf
  refine satq_cond rfl nF (fun _ => satq_skip (atq_on ?_))
  refine satq_vcN ?_
  conv => whnf
  erw [cut_all hvl]
  conv => whnf
  erw [beq_len hvl, onesL_u32]
  conv => whnf
  erw [ble_of (hvl.trans hvl.symm)]
  conv => whnf
  erw [vars_put hvs _ hvl]
  conv => whnf
  erw [var_ble8 hvs]
  conv => whnf
  refine atq_block (atq_on ?_)
  refine satq_vcN ?_
  conv => whnf
  refine ⟨1, wr64 (by omega), ?_⟩
  conv => whnf
  exact atq_next ⟨1, by omega⟩ (ent_drop (aI rfl (aI rfl (aI rfl (aI rfl (aI rfl (aI rfl trivial)))))) (aI sM (aI sM (aI sM (aI sM trivial)))) rfl (by show sbnd 4 _ = true; simp only [sbnd, Ow.bnd, bndL_vals, bndL, CV.bnd])) (by dsimp only; omega)
 ·obtain ⟨bo, off, rfl, hcell⟩ := slOld_cells h3 (j := 1) (o := opSlow0) (by rw [hops]; rfl)
  refine satq_seq ?_
  conv => whnf
  (repeat ((first | apply k1 | apply k2 | apply k3 | apply k4 | refine k5 (by decide) ?_ | refine k6 (by decide) ?_); conv => whnf))
  refine satq_in (satq_block ?_)
  refine satq_seq ?_
  conv => whnf
  (refine ⟨⟨by omega, by omega⟩, ?_⟩; (conv=>whnf))
  refine ⟨opC opSlow0, hcell, rfl, ?_⟩
  conv => whnf
  refine satq_as (f' := [(2, one (.pointer none)), (3, .p (.c (.ref 0 0))), (6, .p (.c (.ref 2 0))), (8, .p (.c (.ref 3 0))), (9, one (.int .i64 0)), (10, one (.int .i64 (((1 : Nat) : Int) : Int))), (11, .p (.c (.ref 4 0)))]) (S' := [.cells 32 [.v (.slice A1 1 c1), .v (.slice A2 b.pages.length c2), .v (.slice (some ⟨bo, off, none⟩) 2 c3)], .cells 53 (varsC vs), .cells 55 ((outL Outc.zero).map .v), .cells 53 (varsC vs), .cells 45 [.v (intV 22), .v (intV 0), .v (intV 0), .v (intV 0), .v (.int .u32 0)]]) (ent_same rfl (aI rfl (aI rfl (aI rfl (aI rfl (aI rfl (aI rfl (aI rfl trivial))))))) (aI sM (aI sM (aI sM (aI sM (aI sM trivial)))))) ?_
  refine satq_in ?_
  refine satq_seqN ?_
  conv => whnf
  refine satq_cond rfl nF (fun _ => satq_skip (atq_on ?_))
  refine satq_in ?_
  refine satq_seqN ?_
  conv => whnf
  (repeat ((first | apply k1 | apply k2 | apply k3 | apply k4 | refine k5 (by decide) ?_ | refine k6 (by decide) ?_); conv => whnf))
  refine satq_cond rfl nF (fun _ => satq_skip (atq_on ?_))
  refine satq_in ?_
  refine satq_seqN ?_
  conv => whnf
  refine satq_cond rfl nF (fun _ => satq_skip (atq_on ?_))
  refine satq_seqN ?_
  conv => whnf
  erw [cut_all hvl]
  conv => whnf
  refine call_con (xs := [opV opSlow0, varsV vs, .pointer none]) (x := .tuple #[varsV vs, .bool false]) (avals_op_nil opSlow0 vs) (by kernel_rfl) (fun r w' hR => apply_nil opSlow0 false (Or.inr ⟨rfl, rfl⟩) vs hvs w') ?_
  conv => whnf
  erw [beq_len hvl, onesL_u32]
  conv => whnf
  erw [ble_of (hvl.trans hz.symm)]
  conv => whnf
  erw [vars_put hvs _ hz]
  conv => whnf
  refine satq_in ?_
  refine satq_seqN ?_
  conv => whnf
  refine satq_cond rfl (fun _ => ?_) nT
  obtain ⟨ba, offa, rfl, hca⟩ := slOld_one h1 (i := 0) (by omega) (x := .int .u32 y) (by rw [hat]; rfl)
  refine satq_vc ?_
  refine sat_tail 10 mixed (by kernel_rfl) ?_
  conv => whnf
  (refine ⟨⟨by omega, by omega⟩, ?_⟩; (conv=>whnf))
  refine ⟨_, hca, ?_⟩
  conv => whnf
  erw [cut_all hvl]
  conv => whnf
  refine q_con (xs := [varsV vs]) (x := varsV (guestsL vs)) (avals_vars vs) (by kernel_rfl) (fun r w' hR => guests_walk vs w' hvs.len) ?_
  conv => whnf
  refine fill_of (outC ⟨true, 0, 0, y, guestsL vs⟩) ?_ ?_
  ·conv => lhs; whnf
   erw [beq_len hgl]
   conv => lhs; whnf
   exact congrArg some (out_put hgu _ _ _ _ _ rfl)
  conv => whnf
  erw [beq_len (outC_length (x := ⟨true, 0, 0, y, guestsL vs⟩) hgu), onesL_out]
  conv => whnf
  erw [ble_of (outC_length (x := ⟨true, 0, 0, y, guestsL vs⟩) hgu)]
  conv => whnf
  erw [out_all (x := ⟨true, 0, 0, y, guestsL vs⟩) hgu _ rfl]
  refine atq_ret_then (atq_ret_block (atq_ret_then (atq_ret_round (atq_ret_block (atq_ret_then (atq_ret ?_))))))
  conv => whnf
  erw [cut_all (outC_length (x := ⟨true, 0, 0, y, guestsL vs⟩) hgu)]
  conv => whnf
  exact fin_val (val_agg _) fun w2 hB => ⟨rfl, hB⟩
end Go.Proofs.YtnhdcclpjildjaaGreat
namespace Go.Proofs.YtnhdcclpjildjaaGreat
open Go.RowKit

section
variable {w0 : World} {G : Gs} {S : List Ow} {K : AV → List Ow → Prop}
theorem call_agrees (k n p i1 i2 i3 : Nat) (s : St) (M : MemP) (most : Int) (b : Blk) (L : List Value) (hb : b = liftM M s.pc most) (hL : L = stL s []) (hS : ∀ i, i < 7 → S[k + i]? = (cpuU k L n p M)[i]?) (hs : s.ok) (hst : s.steps < 1000000) (hM : M.ok n p) (hp : 1 ≤ p)
  (h1 : S[i1]? = some (.row 35 1 b.at_.length (b.at_.map (.int .u32)))) (h2 : S[i2]? = some (.row 3 1 b.pages.length (b.pages.map (.int .i64)))) (h3 : S[i3]? = some (.row 45 5 b.ops.length (b.ops.flatMap opC))) (hn : (i1 < k ∨ k + 7 ≤ i1) ∧ (i2 < k ∨ k + 7 ≤ i2) ∧ (i3 < k ∨ k + 7 ≤ i3))
  (hK : ∀ s' M', s'.ok → s'.steps ≤ s.steps + 64 → M'.ok n p → K (.tup [.c (.v (.bool true)), .agg ((outL (outR (runM M s most))).map .v)]) (putS S k (cpuU k (stL s' []) n p M'))) : CallS Tryz.prog w0 G 20 [.p (.agg [.row i1, .row i2, .row i3]), .p (.c (.ref k 0))] S K := by
 subst hL; subst hb
 refine call_objsX (α := St × MemP) (pre := [.p (.agg [.row i1, .row i2, .row i3])]) (suf := []) k (cpuU 0 (stL s []) n p M) (cpuU k (stL s []) n p M) (fun x => cpuU 0 (stL x.1 []) n p x.2) (fun x => cpuU k (stL x.1 []) n p x.2) (fun _ => .tuple #[.bool true, outV (outR (runM M s most))]) (fun x => x.1.ok ∧ x.1.steps ≤ s.steps + 64 ∧ x.2.ok n p) (by simp) (cpuU_sh k _ n p M) (cpuU_ob _ n p M) hS (by kernel_rfl) (fun _ _ => cpuU_sh k _ n p _) (fun _ _ => cpuU_ob _ n p _) (fun _ _ => rfl)
  (fun r w g gs xs ys hR hd hd2 hgs hU => ?_) (fun x hx => hK x.1 x.2 hx.1 hx.2.1 hx.2.2)
 obtain ⟨u, l, rfl, d1, d2⟩ := hd
 obtain rfl : l = [] := d2
 obtain rfl : ys = [] := hd2
 obtain ⟨us, rfl, hl⟩ := den_agg d1
 simp only [denL, CV.den] at hl
 obtain ⟨u1, l1, rfl, k1, u2, l2, rfl, k2, u3, l3, rfl, k3, rfl⟩ := hl
 obtain ⟨A1, c1, e1, s1⟩ := row_old hR hgs h1 hn.1 k1
 obtain ⟨A2, c2, e2, s2⟩ := row_old hR hgs h2 hn.2.1 k2
 obtain ⟨A3, c3, e3, s3⟩ := row_old hR hgs h3 hn.2.2 k3
 subst e1; subst e2; subst e3
 exact (agrees_walk s hs M n p most A1 A2 A3 c1 c2 c3 w g gs hU hM hp hst s1 s2 s3).mono fun e w' h => by
  obtain ⟨s', M', e1, e2, e3, e4, e5, e6⟩ := h
  exact ⟨(s', M'), ⟨e2, e3, e4⟩, e1, e5, e6⟩
theorem call_single (i : QI) (hop : 0 ≤ i.op ∧ i.op < 64) (hi : word i.imm) (a b : Int) (ha : word a) (hb : word b) {args : List AV} (hx : avals args = some [qiV i, .agg #[u32V a, u32V b]])
  (hK : K (.p (.c (.ref S.length 0))) (S ++ cpuU S.length (stL (sinS a b) []) 1536 6 (sinM i))) : CallS Tryz.prog w0 G 21 args S K :=
 call_newObjs (cpuU 0 (stL (sinS a b) []) 1536 6 (sinM i)) (cpuU S.length (stL (sinS a b) []) 1536 6 (sinM i)) hx (by kernel_rfl) (cpuU_sh _ _ 1536 6 _) (cpuU_ob _ 1536 6 _) (fun r w hR => single_walk i hop hi a b ha hb w) hK
end
theorem hold {p : Prop} (h : p ∨ False) : p := h.elim id False.elim
end Go.Proofs.YtnhdcclpjildjaaGreat
namespace Go.Proofs.YtnhdcclpjildjaaGreat
open Go.RowKit

theorem sinP_data (M : MemP) : ∀ j, (sinP M j).data = M.data ∧ (sinP M j).image = M.image
 | 0 => ⟨rfl, rfl⟩
 | j + 1 => sinP_data M j
theorem sinP_right {M : MemP} (hM : M.ok 1536 6) : ∀ j, j ≤ 6 → ∀ y, y < j → (sinP M j).rights[y]? = some (sinL y)
 | 0, _, y, hy => by omega
 | j + 1, hj, y, hy => by
  have ih := sinP_right hM j (by omega)
  show (List.set (sinP M j).rights j (sinL j))[y]? = _
  rw [List.getElem?_set]
  by_cases hc : j = y
  ·rw [if_pos hc, if_pos (by rw [(sinP_ok hM j).lr]; omega), hc]
  ·rw [if_neg hc]; exact ih y (by omega)
theorem sinM0_image (i : QI) {b : Nat} (hb : b < 4) : (sinM0 i).image[256 + b]? = some (byteAt (sinX i) b) := by
 have hl : (putL (sinX i)).length = 4 := by unfold putL; rw [putTo_length]
 have hk := pokeAt_ok zero_ok6 ((256 : Nat) : Int) (putTo_bytes (sinX i) 4) (putL (sinX i)).length (Nat.le_refl _)
 have hd := pokeAt_data zero_ok6 (by omega) 256 (putL (sinX i)) (putTo_bytes _ _) (by rw [hl]; omega) (putL (sinX i)).length (Nat.le_refl _) (256 + b)
 unfold sinM0
 have hk : ((MemP.zero 6).pokeAt ((256 : Nat) : Int) (putL (sinX i)) (putL (sinX i)).length).ok 1536 6 := hk
 have e256 : ((256 : Nat) : Int) = (256 : Int) := rfl
 rw [e256] at hk hd
 generalize hQ : (MemP.zero 6).pokeAt 256 (putL (sinX i)) (putL (sinX i)).length = Q at hk hd ⊢
 have e : Q.syncM 256 = Q.syncTo 256 256 := by
  unfold MemP.syncM
  rw [if_pos (by rw [hk.ld]; omega)]
  rfl
 rw [e, syncTo_image hk 256 256 (by omega) (256 + b), if_pos (by omega), hd, if_pos (by rw [hl]; omega), show 256 + b - 256 = b by omega]
 unfold putL putTo
 rw [List.getElem?_map, List.getElem?_range hb]
 rfl
theorem sin_fet (i : QI) (b : Nat) (hb : b < 4) : (sinM i).fet (256 + (b : Int)) = some (byteAt (sinX i) b) := by
 have hk : (sinM i).ok 1536 6 := sinM_ok
 have hr : (sinM i).right (256 + (b : Int)) 4 = true := by
  unfold MemP.right
  rw [show ((256 + (b : Int)) / 256).toNat = 1 by omega, hk.ld, show (sinM i).rights[1]? = some (sinL 1) from sinP_right sinM0_ok 6 (Nat.le_refl _) 1 (by omega)]
  simp [sinL]
  omega
 have hc : (sinM i).code (256 + (b : Int)) = byteAt (sinX i) b := by
  unfold MemP.code
  rw [show (256 + (b : Int)).toNat = 256 + b by omega, show (sinM i).image = (sinM0 i).image from (sinP_data _ 6).2, sinM0_image i hb]
  rfl
 unfold MemP.fet
 rw [if_pos hr, hc]
theorem sin_read {i : QI} (hi : word i.imm) : readQ (sinM i).fet 256 = decQ (sinX i) := by
 unfold readQ
 rw [if_pos (by decide), readN_four (sinX_word hi) fun b hb => sin_fet i b hb]
 rfl
theorem sin_valid {i : QI} (hi : word i.imm) (hv : validQ i = true) : readQ (sinM i).fet 256 = some i := by
 rw [sin_read hi]
 unfold sinX encQ
 rw [if_pos hv]
 exact (decQ_word hv hi).1
end Go.Proofs.YtnhdcclpjildjaaGreat
namespace Go.Proofs.YtnhdcclpjildjaaGreat
open Go.RowKit

theorem step_stop {i : QI} (h : 48 ≤ i.op) (a : Int) (R : Int → Int) (M : MemP) : stepQ i a R M = none := by
 have hc : qCode i.op = 0 := by unfold qCode; repeat' split
                                all_goals first | rfl | omega
 unfold stepQ
 rw [if_neg (by omega), if_neg (by omega), if_neg (by omega), if_neg (by omega), if_neg (by omega), if_neg (by omega), if_neg (by omega), if_neg (by omega), if_neg (by omega), if_neg (by omega)]
theorem stop_run {M : MemP} {n p : Nat} (hM : M.ok n p) {s : St} (hp : qAddr s.pc 0 = s.pc) (most : Int) (h : ∀ i, readQ M.fet s.pc = some i → 48 ≤ i.op) :
  (runM M s most).leaves = true ∧ (runM M s most).done = 0 ∧ liftLen (readQ M.fet) s.pc (limN most) (limN most) 0 = 1 := by
 obtain ⟨l1, l2⟩ := limN_ok most
 obtain ⟨m, hm⟩ : ∃ m, limN most = m + 1 := ⟨limN most - 1, by omega⟩
 have hs : stepQ (qAt (readQ M.fet) (qAddr s.pc 0)) (qAddr s.pc 0) s.R M = none := by
  rw [hp]
  cases hF : readQ M.fet s.pc with
  | none => unfold qAt; rw [hF]; exact step_zero _ _ _
  | some i => unfold qAt; rw [hF]; exact step_stop (h i hF) _ _ _
 have hq : (qTail (qAt (readQ M.fet) (qAddr s.pc 0)) (qAddr s.pc 0)).isSome = true := by
  rw [goes_iff (fun a i hi => (readQ_op hM hi).2) _, hp]
  unfold goesQ
  cases hF : readQ M.fet s.pc with
  | none => dsimp only; rw [hF]; rfl
  | some i =>
   have := h i hF
   dsimp only
   rw [hF]
   show (!(simpleQ i.op && !endsQ i.op)) = true
   have e : simpleQ i.op = false := by unfold simpleQ; exact decide_eq_false (by omega)
   rw [e]; rfl
 unfold runM
 rw [hm, runQ_succ, hs, liftLen_succ]
 cases hT : qTail (qAt (readQ M.fet) (qAddr s.pc 0)) (qAddr s.pc 0) with
 | none => rw [hT] at hq; cases hq
 | some t => exact ⟨rfl, rfl, rfl⟩
theorem read_odd (F : Int → Option Int) {a : Int} (h : a % 4 ≠ 0) : readQ F a = none := by unfold readQ; rw [if_neg h]
end Go.Proofs.YtnhdcclpjildjaaGreat
namespace Go.Proofs.YtnhdcclpjildjaaGreat
open Go.RowKit

structure Stops (s : St) (M : MemP) : Prop where
 st : s.ok
 pc : s.pc = 256
 steps : s.steps = 0
 mem : M.ok 1536 6
 not : ∀ i, readQ M.fet 256 = some i → 48 ≤ i.op
theorem Stops.run {s : St} {M : MemP} (h : Stops s M) (most : Int) : (runM M s most).leaves = true ∧ (runM M s most).done = 0 ∧ (liftM M s.pc most).at_.length = 1 := by
 have e : qAddr s.pc 0 = s.pc := by rw [h.pc]; decide
 obtain ⟨h1, h2, h3⟩ := stop_run h.mem (s := s) e most (fun i hi => h.not i (by rw [h.pc] at hi; exact hi))
 refine ⟨h1, h2, ?_⟩
 show (liftAts s.pc (liftLen (readQ M.fet) s.pc (limN most) (limN most) 0)).length = 1
 rw [h3]; rfl
def lqI (j : Int) : QI := if j = 0 then ⟨48, 0, 0, 0, 5⟩ else if j = 1 then ⟨49, 0, 0, 0, 0⟩ else if j = 2 then ⟨50, 0, 0, 0, 0⟩ else if j = 3 then ⟨51, 0, 0, 0, 0⟩ else if j = 4 then ⟨52, 0, 1, 0, 0⟩ else if j = 5 then ⟨53, 1, 0, 0, 0⟩ else ⟨54, 0, 1, 0, 0⟩
theorem lqI_all {j : Int} (h : 0 ≤ j ∧ j < 7) : validQ (lqI j) = true ∧ 48 ≤ (lqI j).op ∧ (lqI j).op < 64 ∧ word (lqI j).imm := by
 rcases (by omega : j = 0 ∨ j = 1 ∨ j = 2 ∨ j = 3 ∨ j = 4 ∨ j = 5 ∨ j = 6) with rfl | rfl | rfl | rfl | rfl | rfl | rfl <;> exact ⟨by decide, by decide, by decide, by unfold word; decide⟩
theorem stops_c {j a b : Int} (h : 0 ≤ j ∧ j < 7) : Stops (sinS a b) (sinM (lqI j)) := by
 obtain ⟨h1, h2, h3, h4⟩ := lqI_all h
 refine ⟨sin_ok, rfl, rfl, sinM_ok, fun i hi => ?_⟩
 rw [sin_valid h4 h1] at hi
 injection hi with hi; subst hi; exact h2
def qAdd0 : QI := ⟨1, 0, 0, 0, 0⟩
theorem codeTo_image {M : MemP} {n p : Nat} (hM : M.ok n p) (q : Nat) {l : List Int} (hb : ∀ x ∈ l, 0 ≤ x ∧ x < 256) : ∀ j, j ≤ l.length → 256 * q + j ≤ n → ∀ y, y < j → (M.codeTo q l j).image[256 * q + y]? = l[y]?
 | 0, _, _, y, hy => by omega
 | j + 1, h1, h2, y, hy => by
  have hk := codeTo_ok hM q hb j
  show (List.set (M.codeTo q l j).image (256 * q + j) ((l[j]?).getD 0))[256 * q + y]? = _
  rw [List.getElem?_set]
  by_cases he : j = y
  ·subst he
   rw [if_pos rfl, if_pos (by rw [hk.li]; omega), List.getElem?_eq_getElem (by omega)]; rfl
  ·rw [if_neg (by omega)]
   exact codeTo_image hM q hb j (by omega) (by omega) y (by omega)
theorem dec_small {x : Int} (h : 0 ≤ x ∧ x < 67108864) : decQ x = none := by
 unfold decQ
 have h0 : (fieldsQ x).op = 0 := by show x / 67108864 = 0; omega
 have hv : validQ (fieldsQ x) = false := by
  unfold validQ
  rw [h0]
  rfl
 unfold encQ
 rw [hv]
 exact if_neg (fun h => by cases h)
theorem stops_d {x a b : Int} (h : 0 ≤ x ∧ x < 67108864) : Stops (sinS a b) ((sinM qAdd0).codeTo 1 (putL x) (min (putL x).length 256)) := by
 have hl : (putL x).length = 4 := putTo_length _ _
 have hbs : ∀ y ∈ putL x, 0 ≤ y ∧ y < 256 := putTo_bytes _ _
 have hk : (sinM qAdd0).ok 1536 6 := sinM_ok
 have hk2 := codeTo_ok hk 1 hbs (min (putL x).length 256)
 refine ⟨sin_ok, rfl, rfl, hk2, fun i hi => ?_⟩
 have him := codeTo_image hk 1 hbs (min (putL x).length 256) (by omega) (by rw [hl]; omega)
 obtain ⟨hd, hr, _⟩ := codeTo_data (sinM qAdd0) 1 (putL x) (min (putL x).length 256)
 rw [hl] at him hi hk2 hd hr
 generalize MemP.codeTo (sinM qAdd0) 1 (putL x) (min 4 256) = Q at him hi hk2 hd hr
 have hf : ∀ b : Nat, b < 4 → Q.fet (256 + (b : Int)) = some (byteAt x b) := fun b hb => by
  have h1 : Q.right (256 + (b : Int)) 4 = true := by
   unfold MemP.right
   rw [show ((256 + (b : Int)) / 256).toNat = 1 by omega, hk2.ld, hr, show (sinM qAdd0).rights[1]? = some (sinL 1) from sinP_right sinM0_ok 6 (Nat.le_refl _) 1 (by omega)]
   simp [sinL]
   omega
  have h2 : Q.code (256 + (b : Int)) = byteAt x b := by
   unfold MemP.code
   rw [show (256 + (b : Int)).toNat = 256 * 1 + b by omega, him b (by omega)]
   unfold putL putTo
   rw [List.getElem?_map, List.getElem?_range hb]
   rfl
  unfold MemP.fet
  rw [if_pos h1, h2]
 have : readQ Q.fet 256 = decQ x := by
  unfold readQ
  rw [if_pos (by decide), readN_four (y := x) (by unfold word; omega) hf]
  rfl
 rw [this, dec_small h] at hi
 cases hi
set_option maxRecDepth 10000 in
theorem stops_e {a b : Int} : Stops (sinS a b) ((sinM qAdd0).protect 1 3) := by
 have hk : (sinM qAdd0).ok 1536 6 := sinM_ok
 have hk2 := protect_ok hk 1 (x := 3) (by decide)
 refine ⟨sin_ok, rfl, rfl, hk2, fun i hi => ?_⟩
 have hf : ((sinM qAdd0).protect 1 3).fet 256 = none := by
  have h1 : ((sinM qAdd0).protect 1 3).right 256 4 = false := by
   unfold MemP.right
   have : ((sinM qAdd0).protect 1 3).rights[1]? = some 3 := by
    show (List.set (sinM qAdd0).rights 1 3)[1]? = some 3
    rw [List.getElem?_set, if_pos rfl, if_pos (by rw [hk.lr]; omega)]
   rw [show ((256 : Int) / 256).toNat = 1 by decide, this]
   simp
  unfold MemP.fet
  rw [h1]; rfl
 unfold readQ at hi
 rw [if_pos (by decide)] at hi
 have h0 : readN ((sinM qAdd0).protect 1 3).fet 256 1 = none := by
  unfold readN
  rw [show (256 : Int) + ((0 : Nat) : Int) = 256 by decide, hf]
  rfl
 have h4 : readN ((sinM qAdd0).protect 1 3).fet 256 4 = none := by
  unfold readN; unfold readN; unfold readN
  rw [h0]
 rw [h4] at hi
 cases hi
theorem odd_lift {M : MemP} {a : Int} (h : a % 4 ≠ 0) (ha : word a) (most : Int) : (liftM M a most).ops = [⟨20, 0, 0, 0, 0⟩, ⟨22, 0, 0, 0, 0⟩] ∧ (liftM M a most).at_ = [a] := by
 obtain ⟨l1, l2⟩ := limN_ok most
 obtain ⟨m, hm⟩ : ∃ m, limN most = m + 1 := ⟨limN most - 1, by omega⟩
 have e : qAddr a 0 = a := by unfold qAddr cut32; unfold word at ha; omega
 have hq : qAt (readQ M.fet) (qAddr a 0) = ⟨0, 0, 0, 0, 0⟩ := by unfold qAt; rw [e, read_odd _ h]; rfl
 constructor
 ·show liftOps (readQ M.fet) a (limN most) (limN most) 0 = _
  rw [hm, liftOps_succ, hq]
  rfl
 ·show liftAts a (liftLen (readQ M.fet) a (limN most) (limN most) 0) = _
  rw [hm, liftLen_succ, hq]
  show [qAddr a 0] = [a]
  rw [e]
end Go.Proofs.YtnhdcclpjildjaaGreat
