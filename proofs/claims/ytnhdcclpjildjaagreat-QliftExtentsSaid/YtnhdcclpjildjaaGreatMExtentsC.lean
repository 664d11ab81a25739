/- Walks: an operation of a block is performed. -/
import Derived.Test.YtnhdcclpjildjaaGreatMExtentsB
namespace Go.Proofs.YtnhdcclpjildjaaGreat
open Go.RowKit

theorem grp_T2 (g g1 g2 g3 g4 g5 n p : Nat) (M : MemP) (t1 t2 : TypeId) (us1 us2 : List Value) : grpOk ⟨[g, g1, g2, g3, g4, g5], []⟩ (memL 0 n p M [.cells t1 (us1.map .v), .cells t2 (us2.map .v)]) = true :=
 grp_memT g g1 g2 g3 g4 g5 n p M _ (by simp only [sbnd, Ow.bnd, bndL_vals])
theorem memL_bnd2 (n p : Nat) (M : MemP) (t1 t2 : TypeId) (us1 us2 : List Value) : sbnd 8 (memL 0 n p M [.cells t1 (us1.map .v), .cells t2 (us2.map .v)]) = true := by
 simp only [sbnd, Ow.bnd, bndL_vals, bndL, CV.bnd]
 rfl
theorem eight {gs : List Nat} (h : gs.length = 8) : ∃ x0 x1 x2 x3 x4 x5 x6 x7, gs = [x0, x1, x2, x3, x4, x5, x6, x7] := by
 match gs, h with
 | [x0, x1, x2, x3, x4, x5, x6, x7], _ => exact ⟨x0, x1, x2, x3, x4, x5, x6, x7, rfl⟩
def ApplyR (o : BOp) (vs : List Int) (n p : Nat) (M : MemP) (g : Nat) (gs : List Nat) (w : World) : Ending → World → Prop := fun e w' => e = .returned (.tuple #[varsV (applyP o vs M).vs, .bool (applyP o vs M).stays]) ∧ ObjsAt w' (g :: gs) (memS 0 n p (applyP o vs M).mem) ∧ GrownBys w w' (g :: gs)
set_option maxRecDepth 100000 in
set_option maxHeartbeats 1000000 in
theorem apply_walk (o : BOp) (vs : List Int) (n p : Nat) (M : MemP) (w : World) (g : Nat) (gs : List Nat) (hU : ObjsAt w (g :: gs) (memS 0 n p M)) (hM : M.ok n p) (hf : formedB o = true) (ho : o.ok) (hvs : VarsOk vs) :
  Calls Tryz.prog 59 #[opV o, varsV vs, .pointer (some ⟨g, 0, none⟩)] w (ApplyR o vs n p M g gs w) := by
 obtain ⟨g0, g1, g2, g3, g4, g5, hg⟩ := six_blocks hU
 injection hg with hg0 hgs
 subst hgs; subst hg0
 have ha := formed_a hf
 have hb := formed_b hf
 have hd := formed_d' hf
 have hvl := varsC_length hvs
 have hz := zeroC_length
 refine calls_objs_satq [AV.of (opV o), AV.of (varsV vs), .p (.c (.ref 0 0))] [opV o, varsV vs, .pointer (some ⟨g, 0, none⟩)] Tryz.func59 Tryz.ntmps59 rfl (by simp) hU ⟨_, _, rfl, AV.of_den _ _, _, _, rfl, AV.of_den _ _, _, _, rfl, den_mk_ref rfl, rfl⟩ ?_
 refine satq_seq ?_
 conv => whnf
 refine satq_seq ?_
 conv => whnf
 refine ⟨⟨by omega, by omega⟩, ?_⟩
 conv => whnf
 erw [var_at hvs ha]
 conv => whnf
 refine satq_seq ?_
 conv => whnf
 refine ⟨⟨by omega, by omega⟩, ?_⟩
 conv => whnf
 erw [var_at hvs hb]
 conv => whnf
 refine satq_seq ?_
 conv => whnf
 refine call_con (x := .agg #[.bool (isOp o.code), .bool (hasD o.code), .bool (hasA o.code), .bool (hasB o.code), .bool (hasN o.code), .bool (leaves o.code)]) rfl (by kernel_rfl) (fun r w' hR => shapeOf_ref o.code w') ?_
 conv => whnf
 obtain ⟨a, hae⟩ : ∃ a, a = getV vs o.a := ⟨_, rfl⟩
 obtain ⟨b, hbe⟩ : ∃ b, b = getV vs o.b := ⟨_, rfl⟩
 have haw : word a := by rw [hae]; exact getV_word hvs _
 have hbw : word b := by rw [hbe]; exact getV_word hvs _
 rw [← hae, ← hbe]
 refine satq_as (f' := [(2, .p (.c (.ref 0 0))), (3, .p (.c (.ref 6 0))), (4, .p (.c (.ref 7 0))), (6, .p (.c (.ref 8 0))), (7, one (.bool false)), (8, one (.int .u32 a)), (9, one (.int .u32 b)), (10, .p (.c (.ref 9 0)))])
  (S' := memL 0 n p M [.cells 45 ((opC o).map .v), .cells 53 (varsC vs), .cells 53 (varsC (List.replicate 28 0)), .cells 100 [.v (.bool (isOp o.code)), .v (.bool (hasD o.code)), .v (.bool (hasA o.code)), .v (.bool (hasB o.code)), .v (.bool (hasN o.code)), .v (.bool (leaves o.code))]])
  (ent_same rfl (aI rfl (aI rfl (aI rfl (aI rfl (aI rfl (aI rfl (aI rfl (aI rfl trivial)))))))) (aI sM (aI sM (aI sM (aI sM (aI sM (aI sM (aI sM (aI sM (aI sM (aI sM trivial))))))))))) ?_
 have hent : ∀ (f : Fr) (us : List Int) (Z : List CV), Z = varsC us → f.get 4 = .p (.c (.ref 7 0)) → f.get 6 = .p (.c (.ref 8 0)) → Ent w ⟨[g, g1, g2, g3, g4, g5], []⟩ ⟨101, []⟩ f (memL 0 n p M [.cells 45 ((opC o).map .v), .cells 53 Z, .cells 53 (varsC (List.replicate 28 0)), .cells 100 [.v (.bool (isOp o.code)), .v (.bool (hasD o.code)), .v (.bool (hasA o.code)), .v (.bool (hasB o.code)), .v (.bool (hasN o.code)), .v (.bool (leaves o.code))]]) [(4, .p (.c (.ref 6 0))), (6, .p (.c (.ref 7 0)))] (memL 0 n p M [.cells 53 (varsC us), .cells 53 (varsC (List.replicate 28 0))]) := fun f us Z hZ h4 h6 => by
  subst hZ
  exact ent_ren [0, 1, 2, 3, 4, 5, 7, 8] (aI (h4) (aI (h6) trivial)) (aI ((Exists.intro _ (aI rfl sM))) (aI ((Exists.intro _ (aI rfl (aI rfl (Or.inl (renL_vals _ _).symm))))) (aI ((Exists.intro _ (aI rfl (aI rfl (Or.inl (renL_vals _ _).symm))))) (aI ((Exists.intro _ (aI rfl (aI rfl (Or.inl (renL_vals _ _).symm))))) (aI ((Exists.intro _ (aI rfl (aI rfl (Or.inl (renL_vals _ _).symm))))) (aI ((Exists.intro _ (aI rfl (aI rfl (Or.inl (renL_vals _ _).symm))))) (aI ((Exists.intro _ (aI rfl (aI rfl (Or.inl (renL_vals _ _).symm))))) (aI ((Exists.intro _ (aI rfl (aI rfl (Or.inl (renL_vals _ _).symm))))) trivial)))))))) rfl (memL_bnd2 n p M _ _ _ _) rfl rfl rfl
 refine satq_mid (α := { y : List Int × MemP // VarsOk y.1 ∧ applyP o vs M = ⟨y.1, true, y.2⟩ }) (fun _ => [(4, .p (.c (.ref 6 0))), (6, .p (.c (.ref 7 0)))]) (fun y => memL 0 n p y.1.2 [.cells 53 (varsC y.1.1), .cells 53 (varsC (List.replicate 28 0))]) ?_ fun y => ?_
 ·by_cases c1 : o.code = 1
  ·refine satq_vc ?_
   conv => whnf
   refine ⟨fun _ => ?_, fun h => absurd h (by simp [c1])⟩
   conv => whnf
   refine ⟨⟨by omega, by omega⟩, ?_⟩
   conv => whnf
   erw [var_ble hvs hd]
   conv => whnf
   erw [var_ble8 hvs]
   conv => whnf
   exact atq_mid ⟨(vs.set o.d.toNat o.n, M), set_ok hvs _ ho.n, applyP_const c1 vs M⟩ (hent _ _ _ (var_set _ _ _) rfl rfl)
  by_cases c2 : o.code = 2
  ·refine satq_vc ?_
   conv => whnf
   refine ⟨fun h => absurd h (by simp [c2]), fun _ => ?_⟩
   conv => whnf
   refine ⟨fun _ => ?_, fun h => absurd h (by simp [c2])⟩
   conv => whnf
   refine ⟨⟨by omega, by omega⟩, ?_⟩
   conv => whnf
   erw [var_ble hvs hd]
   conv => whnf
   erw [var_ble8 hvs]
   conv => whnf
   exact atq_mid ⟨(vs.set o.d.toNat a, M), set_ok hvs _ haw, by rw [applyP_move c2, hae]⟩ (hent _ _ _ (var_set _ _ _) rfl rfl)
  have n1 : (o.code == 1) = false := by simp [c1]
  have n2 : (o.code == 2) = false := by simp [c2]
  by_cases c3 : o.code = 16 ∨ o.code = 17
  ·have hsz : (szN o.code : Int) = sizeI o.code := by unfold szN sizeI; rcases c3 with h | h <;> rw [h] <;> rfl
   have hsb : 1 ≤ szN o.code ∧ szN o.code ≤ 4 := by unfold szN; split <;> omega
   have hAP : applyP o vs M = (match M.bad ((a + o.n) % 4294967296) 1 0 (szN o.code) with
     | none => ⟨vs.set o.d.toNat (M.load ((a + o.n) % 4294967296) 0 (szN o.code)), true, M⟩
     | some _ => ⟨vs, false, M⟩) := by
    rw [hae]; unfold applyP; rw [if_neg c1, if_neg c2, if_pos c3]
    cases M.bad ((getV vs o.a + o.n) % 4294967296) 1 0 (szN o.code) <;> rfl
   obtain ⟨x, y, k, hX, hxw, hk⟩ : ∃ x y k, M.loadV ((a + o.n) % 4294967296) (szN o.code) = valV x y k ∧ word x ∧ applyP o vs M = (if k = true then ⟨vs.set o.d.toNat x, true, M⟩ else ⟨vs, false, M⟩) := by
    rw [hAP]
    unfold MemP.loadV
    cases M.bad ((a + o.n) % 4294967296) 1 0 (szN o.code) with
    | none => exact ⟨_, _, true, rfl, load_word M _ _ _, rfl⟩
    | some z => exact ⟨0, z, false, rfl, word0, rfl⟩
   refine satq_seq ?_
   conv => whnf
   refine satq_block ?_
   refine satq_seq ?_
   conv => whnf
   refine satq_cond rfl (fun h => absurd h (by rw [n1]; decide)) fun _ => ?_
   refine satq_seq ?_
   conv => whnf
   refine satq_cond rfl (fun h => absurd h (by rw [n2]; decide)) fun _ => ?_
   refine satq_mid (α := Unit) (fun _ => [(2, .p (.c (.ref 0 0))), (3, .p (.c (.ref 6 0))), (4, .p (.c (.ref 7 0))), (6, .p (.c (.ref 8 0))), (7, one (.bool false)), (8, one (.int .u32 a)), (9, one (.int .u32 b)), (10, .p (.c (.ref 9 0))), (25, one (.int .i64 o.code)), (49, one (.bool true))]) (fun _ => memL 0 n p M [.cells 45 ((opC o).map .v), .cells 53 (varsC vs), .cells 53 (varsC (List.replicate 28 0)), .cells 100 [.v (.bool (isOp o.code)), .v (.bool (hasD o.code)), .v (.bool (hasA o.code)), .v (.bool (hasB o.code)), .v (.bool (hasN o.code)), .v (.bool (leaves o.code))]]) ?_ fun _ => ?_
   ·refine satq_vc ?_
    conv => whnf
    refine ⟨fun h => ?_, fun h => ?_⟩
    ·conv => whnf
     exact atq_mid () (ent_same rfl (aI rfl (aI rfl (aI rfl (aI rfl (aI rfl (aI rfl (aI rfl (aI rfl (aI rfl (aI ((congrArg (fun z => one (.bool z)) h)) trivial)))))))))) (aI sM (aI sM (aI sM (aI sM (aI sM (aI sM (aI sM (aI sM (aI sM (aI sM trivial)))))))))))
    ·have h17 : (o.code == 17) = true := by
      rcases c3 with e | e
      ·rw [e] at h; cases h
      ·rw [e]; rfl
     conv => whnf
     exact atq_mid () (ent_same rfl (aI rfl (aI rfl (aI rfl (aI rfl (aI rfl (aI rfl (aI rfl (aI rfl (aI rfl (aI ((congrArg (fun z => one (.bool z)) h17)) trivial)))))))))) (aI sM (aI sM (aI sM (aI sM (aI sM (aI sM (aI sM (aI sM (aI sM (aI sM trivial)))))))))))
   refine satq_cond rfl (fun _ => ?_) (fun h => absurd h (by decide))
   refine satq_mid (α := Unit) (fun _ => [(2, .p (.c (.ref 0 0))), (3, .p (.c (.ref 6 0))), (4, .p (.c (.ref 7 0))), (6, .p (.c (.ref 8 0))), (7, one (.bool false)), (8, one (.int .u32 a)), (9, one (.int .u32 b)), (10, .p (.c (.ref 9 0))), (25, one (.int .i64 o.code))]) (fun _ => memL 0 n p M [.cells 45 ((opC o).map .v), .cells 53 (varsC vs), .cells 53 (varsC (List.replicate 28 0)), .cells 100 [.v (.bool (isOp o.code)), .v (.bool (hasD o.code)), .v (.bool (hasA o.code)), .v (.bool (hasB o.code)), .v (.bool (hasN o.code)), .v (.bool (leaves o.code))]]) ?_ fun _ => ?_
   ·refine satq_vc ?_
    conv => whnf
    refine q_not_nil rfl rfl rfl rfl ?_
    conv => whnf
    refine ⟨fun h => absurd h (by decide), fun _ => ?_⟩
    conv => whnf
    exact atq_mid () (ent_same rfl (aI rfl (aI rfl (aI rfl (aI rfl (aI rfl (aI rfl (aI rfl (aI rfl (aI rfl trivial))))))))) (aI sM (aI sM (aI sM (aI sM (aI sM (aI sM (aI sM (aI sM (aI sM (aI sM trivial)))))))))))
   refine satq_anew (memL 0 n p M [.cells 53 (varsC vs), .cells 53 (varsC (List.replicate 28 0))]) [0, 1, 2, 3, 4, 5, 7, 8] (aI ((Exists.intro _ (aI rfl sM))) (aI ((Exists.intro _ (aI rfl (aI rfl (Or.inl (renL_vals _ _).symm))))) (aI ((Exists.intro _ (aI rfl (aI rfl (Or.inl (renL_vals _ _).symm))))) (aI ((Exists.intro _ (aI rfl (aI rfl (Or.inl (renL_vals _ _).symm))))) (aI ((Exists.intro _ (aI rfl (aI rfl (Or.inl (renL_vals _ _).symm))))) (aI ((Exists.intro _ (aI rfl (aI rfl (Or.inl (renL_vals _ _).symm))))) (aI ((Exists.intro _ (aI rfl (aI rfl (Or.inl (renL_vals _ _).symm))))) (aI ((Exists.intro _ (aI rfl (aI rfl (Or.inl (renL_vals _ _).symm))))) trivial)))))))) (memL_bnd2 n p M _ _ _ _) rfl rfl rfl rfl fun r w1 gs hR hgl hgs hback => ?_
   obtain ⟨g6, e6, hcell⟩ := anew_cells (us := opC o) hR hgl hgs rfl 6 rfl rfl
   have hmv : ∀ (r2 : Env), (∀ i, r2.blk i = gs[i]?) → ∀ j, j < 8 → ∀ b, r.blk ([0, 1, 2, 3, 4, 5, 7, 8].getD j 0) = some b → r2.blk j = some b := fun r2 hr2 j hj b hb => by
    rw [hr2, ← hgs j hj]; exact hb
   refine ⟨[(2, .p (.c (.ref 0 0))), (3, one (.pointer (some ⟨g6, 0, none⟩))), (4, .p (.c (.ref 6 0))), (6, .p (.c (.ref 7 0))), (7, one (.bool false)), (8, one (.int .u32 a))], fun act r2 hr2 hfd => frDen ⟨slot_moved hfd 2 rfl (hmv r2 hr2 0 (by omega)), slot_plain hfd 3 rfl e6, slot_moved hfd 4 rfl (hmv r2 hr2 6 (by omega)), slot_moved hfd 6 rfl (hmv r2 hr2 7 (by omega)), slot_same hfd 7 rfl, slot_same hfd 8 rfl, trivial⟩, ?_⟩
   obtain ⟨x0, x1, x2, x3, x4, x5, x6, x7, rfl⟩ := eight hgl
   refine satq_mid (α := Unit) (fun _ => [(3, one (.pointer (some ⟨g6, 0, none⟩))), (4, .p (.c (.ref 6 0))), (6, .p (.c (.ref 7 0))), (7, one (.bool false)), (11, .p (.c (.ref 8 0)))]) (fun _ => memL 0 n p M [.cells 53 (varsC vs), .cells 53 (varsC (List.replicate 28 0)), .cells 120 [.v (.int .u32 x), .v (.int .u32 y), .v (.bool k)]]) ?_ fun _ => ?_
   ·refine satq_vc ?_
    refine sat_anyG (.q 0 (.q 1 (.q 2 (.q 3 (.q 4 (.q 5 (.q 6 (.alt 7 (.alt 8 (.alt 9 (.alt 10 .done .no) .no) (.alt 9 (.alt 8 (.alt 10 .done .no) .no) .no)) (.alt 9 (.alt 7 (.alt 8 (.alt 10 .done .no) .no) .no) .no))))))))) mixed (by kernel_rfl) (by kernel_rfl) ?_
    conv => whnf
    refine ⟨_, hcell 4 [.int .u32 o.n] (fun k u hu => by cases k with | zero => exact hu | succ k => simp at hu), ?_⟩
    conv => whnf
    refine ⟨_, wr32 _, ?_⟩
    conv => whnf
    refine ⟨_, hcell 0 [.int .i64 o.code] (fun k u hu => by cases k with | zero => exact hu | succ k => simp at hu), ?_⟩
    conv => whnf
    refine ⟨?_, ?_, trivial⟩
    ·conv => whnf
     refine call_con (x := .int .i64 (szN o.code : Int)) rfl (by kernel_rfl) (fun r w' hR => by rw [hsz]; exact size_walk o.code w') ?_
     conv => whnf
     refine ⟨?_, ?_, trivial⟩
     ·conv => whnf
      refine call_memR (pre := []) (suf := [one (.int .u32 ((a + o.n) % 4294967296)), one (.int .i64 (szN o.code : Int))]) 0 n p M (valV x y k) memL_six rfl rfl (by kernel_rfl) (fun w' g gs hk hU => by rw [← hX]; exact mem_load M n p _ (szN o.code) w' g gs hU hM (word_mod _) hsb) ?_
      conv => whnf
      refine ⟨?_, trivial⟩
      conv => whnf
      refine ⟨?_, trivial⟩
      conv => whnf
      exact atq_mid () (ent_same rfl (aI rfl (aI rfl (aI rfl (aI rfl (aI rfl trivial))))) (aI sM (aI sM (aI sM (aI sM (aI sM (aI sM (aI sM (aI sM (aI sM trivial))))))))))
     ·conv => whnf
      refine ⟨?_, trivial⟩
      conv => whnf
      refine call_memR (pre := []) (suf := [one (.int .u32 ((a + o.n) % 4294967296)), one (.int .i64 (szN o.code : Int))]) 0 n p M (valV x y k) memL_six rfl rfl (by kernel_rfl) (fun w' g gs hk hU => by rw [← hX]; exact mem_load M n p _ (szN o.code) w' g gs hU hM (word_mod _) hsb) ?_
      conv => whnf
      refine ⟨?_, trivial⟩
      conv => whnf
      exact atq_mid () (ent_same rfl (aI rfl (aI rfl (aI rfl (aI rfl (aI rfl trivial))))) (aI sM (aI sM (aI sM (aI sM (aI sM (aI sM (aI sM (aI sM (aI sM trivial))))))))))
    ·conv => whnf
     refine ⟨?_, trivial⟩
     conv => whnf
     refine call_con (x := .int .i64 (szN o.code : Int)) rfl (by kernel_rfl) (fun r w' hR => by rw [hsz]; exact size_walk o.code w') ?_
     conv => whnf
     refine ⟨?_, trivial⟩
     conv => whnf
     refine call_memR (pre := []) (suf := [one (.int .u32 ((a + o.n) % 4294967296)), one (.int .i64 (szN o.code : Int))]) 0 n p M (valV x y k) memL_six rfl rfl (by kernel_rfl) (fun w' g gs hk hU => by rw [← hX]; exact mem_load M n p _ (szN o.code) w' g gs hU hM (word_mod _) hsb) ?_
     conv => whnf
     refine ⟨?_, trivial⟩
     conv => whnf
     exact atq_mid () (ent_same rfl (aI rfl (aI rfl (aI rfl (aI rfl (aI rfl trivial))))) (aI sM (aI sM (aI sM (aI sM (aI sM (aI sM (aI sM (aI sM (aI sM trivial))))))))))
   refine satq_vc ?_
   conv => whnf
   refine ⟨fun h => ?_, fun h => ?_⟩
   ·have hkf : k = false := by simpa using h
    rw [hkf, if_neg (by decide)] at hk
    conv => whnf
    erw [cut_all hvl]
    conv => whnf
    erw [beq_len hvl, onesL_u32]
    conv => whnf
    erw [ble_of (hvl.trans hz.symm)]
    conv => whnf
    erw [vars_put hvs _ hz]
    conv => whnf
    refine hback _ _ _ (atq_ret_block (atq_ret_mid (atq_ret ?_)))
    conv => whnf
    erw [cut_all hvl]
    conv => whnf
    refine fin_objs (val_tup2 _ _) rfl (memL_sub (M := M)) (memS_ob n p M) fun w' h1 h2 => ?_
    unfold ApplyR
    rw [hk]
    exact ⟨rfl, h1, h2⟩
   ·have hkt : k = true := by simpa using h
    rw [hkt, if_pos rfl] at hk
    conv => whnf
    refine ⟨_, unflat <| hcell 1 [.int .i64 o.d] (fun k u hu => by cases k with | zero => exact hu | succ k => simp at hu), ?_⟩
    conv => whnf
    refine ⟨⟨by omega, by omega⟩, ?_⟩
    conv => whnf
    erw [var_ble hvs hd]
    conv => whnf
    erw [var_ble8 hvs]
    conv => whnf
    refine hback _ _ _ (atq_block ?_)
    exact atq_mid ⟨(vs.set o.d.toNat x, M), set_ok hvs _ hxw, hk⟩ (ent_drop (aI rfl (aI rfl trivial)) (aI sM (aI sM (aI sM (aI sM (aI sM (aI sM (aI ((aI rfl (Or.inl (var_set _ _ _)))) (aI sM trivial)))))))) rfl (grp_T2 _ _ _ _ _ _ _ _ _ _ _ _ _))
  by_cases c4 : o.code = 18 ∨ o.code = 19
  ·have hsz : (szN o.code : Int) = sizeI o.code := by unfold szN sizeI; rcases c4 with h | h <;> rw [h] <;> rfl
   have hsb : 1 ≤ szN o.code ∧ szN o.code ≤ 4 := by unfold szN; split <;> omega
   have hAP : applyP o vs M = ⟨vs, (M.bad ((a + o.n) % 4294967296) 2 0 (szN o.code)).isNone, M.storeM ((a + o.n) % 4294967296) (szN o.code) b⟩ := by
    rw [hae, hbe]; unfold applyP; rw [if_neg c1, if_neg c2, if_neg c3, if_pos c4]
   obtain ⟨x, y, k, hX, hk⟩ : ∃ x y k, checkV (M.bad ((a + o.n) % 4294967296) 2 0 (szN o.code)) = valV x y k ∧ (M.bad ((a + o.n) % 4294967296) 2 0 (szN o.code)).isNone = k := by
    cases M.bad ((a + o.n) % 4294967296) 2 0 (szN o.code) with
    | none => exact ⟨0, 0, true, rfl, rfl⟩
    | some z => exact ⟨0, z, false, rfl, rfl⟩
   rw [hk] at hAP
   obtain ⟨M2, hM2⟩ : ∃ M2, M2 = M.storeM ((a + o.n) % 4294967296) (szN o.code) b := ⟨_, rfl⟩
   rw [← hM2] at hAP
   refine satq_seq ?_
   conv => whnf
   refine satq_block ?_
   refine satq_seq ?_
   conv => whnf
   refine satq_cond rfl (fun h => absurd h (by rw [n1]; decide)) fun _ => ?_
   refine satq_seq ?_
   conv => whnf
   refine satq_cond rfl (fun h => absurd h (by rw [n2]; decide)) fun _ => ?_
   refine satq_mid (α := Unit) (fun _ => [(2, .p (.c (.ref 0 0))), (3, .p (.c (.ref 6 0))), (4, .p (.c (.ref 7 0))), (6, .p (.c (.ref 8 0))), (7, one (.bool false)), (8, one (.int .u32 a)), (9, one (.int .u32 b)), (10, .p (.c (.ref 9 0))), (25, one (.int .i64 o.code)), (49, one (.bool false))]) (fun _ => memL 0 n p M [.cells 45 ((opC o).map .v), .cells 53 (varsC vs), .cells 53 (varsC (List.replicate 28 0)), .cells 100 [.v (.bool (isOp o.code)), .v (.bool (hasD o.code)), .v (.bool (hasA o.code)), .v (.bool (hasB o.code)), .v (.bool (hasN o.code)), .v (.bool (leaves o.code))]]) ?_ fun _ => ?_
   ·refine satq_vc ?_
    conv => whnf
    refine ⟨fun h => absurd h (by simp; omega), fun _ => ?_⟩
    have h17 : (o.code == 17) = false := by simp; omega
    conv => whnf
    exact atq_mid () (ent_same rfl (aI rfl (aI rfl (aI rfl (aI rfl (aI rfl (aI rfl (aI rfl (aI rfl (aI rfl (aI ((congrArg (fun z => one (.bool z)) h17)) trivial)))))))))) (aI sM (aI sM (aI sM (aI sM (aI sM (aI sM (aI sM (aI sM (aI sM (aI sM trivial)))))))))))
   refine satq_cond rfl (fun h => absurd h (by decide)) (fun _ => ?_)
   refine satq_mid (α := Unit) (fun _ => [(2, .p (.c (.ref 0 0))), (3, .p (.c (.ref 6 0))), (4, .p (.c (.ref 7 0))), (6, .p (.c (.ref 8 0))), (7, one (.bool false)), (8, one (.int .u32 a)), (9, one (.int .u32 b)), (10, .p (.c (.ref 9 0))), (25, one (.int .i64 o.code)), (73, one (.bool true))]) (fun _ => memL 0 n p M [.cells 45 ((opC o).map .v), .cells 53 (varsC vs), .cells 53 (varsC (List.replicate 28 0)), .cells 100 [.v (.bool (isOp o.code)), .v (.bool (hasD o.code)), .v (.bool (hasA o.code)), .v (.bool (hasB o.code)), .v (.bool (hasN o.code)), .v (.bool (leaves o.code))]]) ?_ fun _ => ?_
   ·refine satq_vc ?_
    conv => whnf
    refine ⟨fun h => ?_, fun h => ?_⟩
    ·conv => whnf
     exact atq_mid () (ent_same rfl (aI rfl (aI rfl (aI rfl (aI rfl (aI rfl (aI rfl (aI rfl (aI rfl (aI rfl (aI ((congrArg (fun z => one (.bool z)) h)) trivial)))))))))) (aI sM (aI sM (aI sM (aI sM (aI sM (aI sM (aI sM (aI sM (aI sM (aI sM trivial)))))))))))
    ·have h17 : (o.code == 19) = true := by
      rcases c4 with e | e
      ·rw [e] at h; cases h
      ·rw [e]; rfl
     conv => whnf
     exact atq_mid () (ent_same rfl (aI rfl (aI rfl (aI rfl (aI rfl (aI rfl (aI rfl (aI rfl (aI rfl (aI rfl (aI ((congrArg (fun z => one (.bool z)) h17)) trivial)))))))))) (aI sM (aI sM (aI sM (aI sM (aI sM (aI sM (aI sM (aI sM (aI sM (aI sM trivial)))))))))))
   refine satq_cond rfl (fun _ => ?_) (fun h => absurd h (by decide))
   refine satq_mid (α := Unit) (fun _ => [(2, .p (.c (.ref 0 0))), (3, .p (.c (.ref 6 0))), (4, .p (.c (.ref 7 0))), (6, .p (.c (.ref 8 0))), (7, one (.bool false)), (8, one (.int .u32 a)), (9, one (.int .u32 b)), (10, .p (.c (.ref 9 0))), (25, one (.int .i64 o.code))]) (fun _ => memL 0 n p M [.cells 45 ((opC o).map .v), .cells 53 (varsC vs), .cells 53 (varsC (List.replicate 28 0)), .cells 100 [.v (.bool (isOp o.code)), .v (.bool (hasD o.code)), .v (.bool (hasA o.code)), .v (.bool (hasB o.code)), .v (.bool (hasN o.code)), .v (.bool (leaves o.code))]]) ?_ fun _ => ?_
   ·refine satq_vc ?_
    conv => whnf
    refine q_not_nil rfl rfl rfl rfl ?_
    conv => whnf
    refine ⟨fun h => absurd h (by decide), fun _ => ?_⟩
    conv => whnf
    exact atq_mid () (ent_same rfl (aI rfl (aI rfl (aI rfl (aI rfl (aI rfl (aI rfl (aI rfl (aI rfl (aI rfl trivial))))))))) (aI sM (aI sM (aI sM (aI sM (aI sM (aI sM (aI sM (aI sM (aI sM (aI sM trivial)))))))))))
   refine satq_anew (memL 0 n p M [.cells 53 (varsC vs), .cells 53 (varsC (List.replicate 28 0))]) [0, 1, 2, 3, 4, 5, 7, 8] (aI ((Exists.intro _ (aI rfl sM))) (aI ((Exists.intro _ (aI rfl (aI rfl (Or.inl (renL_vals _ _).symm))))) (aI ((Exists.intro _ (aI rfl (aI rfl (Or.inl (renL_vals _ _).symm))))) (aI ((Exists.intro _ (aI rfl (aI rfl (Or.inl (renL_vals _ _).symm))))) (aI ((Exists.intro _ (aI rfl (aI rfl (Or.inl (renL_vals _ _).symm))))) (aI ((Exists.intro _ (aI rfl (aI rfl (Or.inl (renL_vals _ _).symm))))) (aI ((Exists.intro _ (aI rfl (aI rfl (Or.inl (renL_vals _ _).symm))))) (aI ((Exists.intro _ (aI rfl (aI rfl (Or.inl (renL_vals _ _).symm))))) trivial)))))))) (memL_bnd2 n p M _ _ _ _) rfl rfl rfl rfl fun r w1 gs hR hgl hgs hback => ?_
   obtain ⟨g6, e6, hcell⟩ := anew_cells (us := opC o) hR hgl hgs rfl 6 rfl rfl
   have hmv : ∀ (r2 : Env), (∀ i, r2.blk i = gs[i]?) → ∀ j, j < 8 → ∀ b, r.blk ([0, 1, 2, 3, 4, 5, 7, 8].getD j 0) = some b → r2.blk j = some b := fun r2 hr2 j hj b hb => by
    rw [hr2, ← hgs j hj]; exact hb
   refine ⟨[(2, .p (.c (.ref 0 0))), (3, one (.pointer (some ⟨g6, 0, none⟩))), (4, .p (.c (.ref 6 0))), (6, .p (.c (.ref 7 0))), (7, one (.bool false)), (8, one (.int .u32 a)), (9, one (.int .u32 b))], fun act r2 hr2 hfd => frDen ⟨slot_moved hfd 2 rfl (hmv r2 hr2 0 (by omega)), slot_plain hfd 3 rfl e6, slot_moved hfd 4 rfl (hmv r2 hr2 6 (by omega)), slot_moved hfd 6 rfl (hmv r2 hr2 7 (by omega)), slot_same hfd 7 rfl, slot_same hfd 8 rfl, slot_same hfd 9 rfl, trivial⟩, ?_⟩
   obtain ⟨x0, x1, x2, x3, x4, x5, x6, x7, rfl⟩ := eight hgl
   refine satq_mid (α := Unit) (fun _ => [(3, one (.pointer (some ⟨g6, 0, none⟩))), (4, .p (.c (.ref 6 0))), (6, .p (.c (.ref 7 0))), (7, one (.bool false)), (12, .p (.c (.ref 8 0)))]) (fun _ => memL 0 n p M2 [.cells 53 (varsC vs), .cells 53 (varsC (List.replicate 28 0)), .cells 120 [.v (.int .u32 x), .v (.int .u32 y), .v (.bool k)]]) ?_ fun _ => ?_
   ·refine satq_vc ?_
    refine sat_anyG (.q 0 (.q 1 (.q 2 (.q 3 (.q 4 (.q 5 (.q 6 (.q 8 (.alt 7 (.alt 9 (.alt 10 (.alt 11 .done .no) .no) (.alt 10 (.alt 9 (.alt 11 .done .no) .no) .no)) (.alt 10 (.alt 7 (.alt 9 (.alt 11 .done .no) .no) .no) .no)))))))))) mixed (by kernel_rfl) (by kernel_rfl) ?_
    conv => whnf
    refine ⟨_, hcell 4 [.int .u32 o.n] (fun k u hu => by cases k with | zero => exact hu | succ k => simp at hu), ?_⟩
    conv => whnf
    refine ⟨_, wr32 _, ?_⟩
    conv => whnf
    refine ⟨_, hcell 0 [.int .i64 o.code] (fun k u hu => by cases k with | zero => exact hu | succ k => simp at hu), ?_⟩
    conv => whnf
    refine ⟨?_, ?_, trivial⟩
    ·conv => whnf
     refine call_con (x := .int .i64 (szN o.code : Int)) rfl (by kernel_rfl) (fun r w' hR => by rw [hsz]; exact size_walk o.code w') ?_
     conv => whnf
     refine ⟨?_, ?_, trivial⟩
     ·conv => whnf
      refine call_memW (pre := []) (suf := [one (.int .u32 ((a + o.n) % 4294967296)), one (.int .i64 (szN o.code : Int)), one (.int .u32 b)]) 0 n p M M2 (valV x y k) memL_six rfl rfl (by kernel_rfl) (fun w' g gs hk hU => by rw [← hX, hM2]; exact mem_store M n p _ (szN o.code) b w' g gs hU hM (word_mod _) hsb hbw) ?_
      conv => whnf
      refine ⟨?_, trivial⟩
      conv => whnf
      refine ⟨?_, trivial⟩
      conv => whnf
      exact atq_mid () (ent_same rfl (aI rfl (aI rfl (aI rfl (aI rfl (aI rfl trivial))))) (aI sM (aI sM (aI sM (aI sM (aI sM (aI sM (aI sM (aI sM (aI sM trivial))))))))))
     ·conv => whnf
      refine ⟨?_, trivial⟩
      conv => whnf
      refine call_memW (pre := []) (suf := [one (.int .u32 ((a + o.n) % 4294967296)), one (.int .i64 (szN o.code : Int)), one (.int .u32 b)]) 0 n p M M2 (valV x y k) memL_six rfl rfl (by kernel_rfl) (fun w' g gs hk hU => by rw [← hX, hM2]; exact mem_store M n p _ (szN o.code) b w' g gs hU hM (word_mod _) hsb hbw) ?_
      conv => whnf
      refine ⟨?_, trivial⟩
      conv => whnf
      exact atq_mid () (ent_same rfl (aI rfl (aI rfl (aI rfl (aI rfl (aI rfl trivial))))) (aI sM (aI sM (aI sM (aI sM (aI sM (aI sM (aI sM (aI sM (aI sM trivial))))))))))
    ·conv => whnf
     refine ⟨?_, trivial⟩
     conv => whnf
     refine call_con (x := .int .i64 (szN o.code : Int)) rfl (by kernel_rfl) (fun r w' hR => by rw [hsz]; exact size_walk o.code w') ?_
     conv => whnf
     refine ⟨?_, trivial⟩
     conv => whnf
     refine call_memW (pre := []) (suf := [one (.int .u32 ((a + o.n) % 4294967296)), one (.int .i64 (szN o.code : Int)), one (.int .u32 b)]) 0 n p M M2 (valV x y k) memL_six rfl rfl (by kernel_rfl) (fun w' g gs hk hU => by rw [← hX, hM2]; exact mem_store M n p _ (szN o.code) b w' g gs hU hM (word_mod _) hsb hbw) ?_
     conv => whnf
     refine ⟨?_, trivial⟩
     conv => whnf
     exact atq_mid () (ent_same rfl (aI rfl (aI rfl (aI rfl (aI rfl (aI rfl trivial))))) (aI sM (aI sM (aI sM (aI sM (aI sM (aI sM (aI sM (aI sM (aI sM trivial))))))))))
   refine satq_mid (α := Unit) (fun _ => [(4, .p (.c (.ref 6 0))), (6, .p (.c (.ref 7 0))), (7, one (.bool k))]) (fun _ => memL 0 n p M2 [.cells 53 (varsC vs), .cells 53 (varsC vs), .cells 120 [.v (.int .u32 x), .v (.int .u32 y), .v (.bool k)]]) ?_ fun _ => ?_
   ·refine satq_vc ?_
    refine sat_anyG (.q 1 (.alt 0 (.alt 2 (.alt 3 (.q 4 .done) .no) (.alt 3 (.alt 2 (.q 4 .done) .no) .no)) (.alt 2 (.alt 0 (.alt 3 (.q 4 .done) .no) .no) .no))) mixed (by kernel_rfl) (by kernel_rfl) ?_
    conv => whnf
    refine ⟨?_, ?_, trivial⟩
    ·conv => whnf
     erw [cut_all hvl]
     conv => whnf
     refine ⟨?_, ?_, trivial⟩
     ·conv => whnf
      refine ⟨?_, trivial⟩
      conv => whnf
      erw [beq_len hvl, onesL_u32]
      conv => whnf
      erw [ble_of (hvl.trans hz.symm)]
      conv => whnf
      erw [vars_put hvs _ hz]
      conv => whnf
      exact atq_mid () (ent_same rfl (aI rfl (aI rfl (aI rfl trivial))) (aI sM (aI sM (aI sM (aI sM (aI sM (aI sM (aI sM (aI sM (aI sM trivial))))))))))
     ·conv => whnf
      erw [beq_len hvl, onesL_u32]
      conv => whnf
      erw [ble_of (hvl.trans hz.symm)]
      conv => whnf
      erw [vars_put hvs _ hz]
      conv => whnf
      refine ⟨?_, trivial⟩
      conv => whnf
      exact atq_mid () (ent_same rfl (aI rfl (aI rfl (aI rfl trivial))) (aI sM (aI sM (aI sM (aI sM (aI sM (aI sM (aI sM (aI sM (aI sM trivial))))))))))
    ·conv => whnf
     refine ⟨?_, trivial⟩
     conv => whnf
     erw [cut_all hvl]
     conv => whnf
     refine ⟨?_, trivial⟩
     conv => whnf
     erw [beq_len hvl, onesL_u32]
     conv => whnf
     erw [ble_of (hvl.trans hz.symm)]
     conv => whnf
     erw [vars_put hvs _ hz]
     conv => whnf
     exact atq_mid () (ent_same rfl (aI rfl (aI rfl (aI rfl trivial))) (aI sM (aI sM (aI sM (aI sM (aI sM (aI sM (aI sM (aI sM (aI sM trivial))))))))))
   refine satq_vc ?_
   conv => whnf
   refine hback _ _ _ (atq_ret_block (atq_ret_mid (atq_ret ?_)))
   conv => whnf
   erw [cut_all hvl]
   conv => whnf
   refine fin_objs (val_tup2 _ _) rfl (memL_sub (M := M2)) (memS_ob n p M2) fun w' h1 h2 => ?_
   unfold ApplyR
   rw [hAP]
   exact ⟨rfl, h1, h2⟩
  have m3 : (o.code == 16) = false := by simp; omega
  have m4 : (o.code == 17) = false := by simp; omega
  have m5 : (o.code == 18) = false := by simp; omega
  have m6 : (o.code == 19) = false := by simp; omega
  refine satq_vc ?_
  conv => whnf
  refine ⟨fun h => absurd h (by rw [n1]; decide), fun _ => ?_⟩
  conv => whnf
  refine ⟨fun h => absurd h (by rw [n2]; decide), fun _ => ?_⟩
  conv => whnf
  refine ⟨fun h => absurd h (by rw [m3]; decide), fun _ => ?_⟩
  conv => whnf
  refine ⟨fun h => absurd h (by rw [m4]; decide), fun _ => ?_⟩
  conv => whnf
  refine ⟨fun h => absurd h (by rw [m5]; decide), fun _ => ?_⟩
  conv => whnf
  refine ⟨fun h => absurd h (by rw [m6]; decide), fun _ => ?_⟩
  conv => whnf
  refine ⟨fun h => ?_, fun h => ?_⟩
  ·have c5 : o.code = 21 := by simpa using h
   conv => whnf
   erw [cut_all hvl]
   conv => whnf
   erw [beq_len hvl, onesL_u32]
   conv => whnf
   erw [ble_of (hvl.trans hz.symm)]
   conv => whnf
   erw [vars_put hvs _ hz]
   conv => whnf
   refine atq_ret_mid (atq_ret ?_)
   conv => whnf
   erw [cut_all hvl]
   conv => whnf
   refine fin_objs (val_tup2 _ _) rfl (memL_sub (M := M)) (memS_ob n p M) fun w' h1 h2 => ?_
   unfold ApplyR
   rw [applyP_guard c5, ← hae]
   exact ⟨rfl, h1, h2⟩
  have c5 : o.code ≠ 21 := by simpa using h
  conv => whnf
  refine ⟨fun h => ?_, fun h => ?_⟩
  ·have c6 : o.code = 22 := by simpa using h
   have hAP : applyP o vs M = ⟨vs, false, M⟩ := by
    unfold applyP; rw [if_neg c1, if_neg c2, if_neg c3, if_neg c4, if_neg c5, if_pos c6]
   conv => whnf
   erw [cut_all hvl]
   conv => whnf
   erw [beq_len hvl, onesL_u32]
   conv => whnf
   erw [ble_of (hvl.trans hz.symm)]
   conv => whnf
   erw [vars_put hvs _ hz]
   conv => whnf
   refine atq_ret_mid (atq_ret ?_)
   conv => whnf
   erw [cut_all hvl]
   conv => whnf
   refine fin_objs (val_tup2 _ _) rfl (memL_sub (M := M)) (memS_ob n p M) fun w' h1 h2 => ?_
   unfold ApplyR
   rw [hAP]
   exact ⟨rfl, h1, h2⟩
  have c6 : o.code ≠ 22 := by simpa using h
  conv => whnf
  have h17 : hasD o.code = true → isBin o.code = true := fun h => by
   unfold hasD at h; unfold isBin
   rw [decide_eq_true_eq] at h ⊢
   omega
  refine ⟨fun h => ?_, fun h => ?_⟩
  ·have c7 := h17 h
   conv => whnf
   refine sat_tail 8 mixed (by kernel_rfl) ?_
   conv => whnf
   refine q_same (xs := [.int .i64 o.code, .int .u32 a, .int .u32 b]) (x := .int .u32 (wordOp o.code a b)) rfl (by kernel_rfl) (fun r w' hR => op_ref o.code a b w' haw hbw) ?_
   conv => whnf
   refine ⟨⟨by omega, by omega⟩, ?_⟩
   conv => whnf
   erw [var_ble hvs hd]
   conv => whnf
   erw [var_ble8 hvs]
   conv => whnf
   exact atq_mid ⟨(vs.set o.d.toNat (wordOp o.code a b), M), set_ok hvs _ (wordOp_word haw hbw), by rw [applyP_bin c7, hae, hbe]⟩ (hent _ _ _ (var_set _ _ _) rfl rfl)
  ·have c7 : ¬ isBin o.code = true := fun hb => by
    have h' : 3 ≤ o.code ∧ o.code ≤ 15 := by unfold isBin at hb; simpa using hb
    have : hasD o.code = true := by unfold hasD; rw [decide_eq_true_eq]; omega
    rw [this] at h; cases h
   conv => whnf
   exact atq_mid ⟨(vs, M), hvs, by unfold applyP; rw [if_neg c1, if_neg c2, if_neg c3, if_neg c4, if_neg c5, if_neg c6, if_neg c7]⟩ (hent _ _ _ rfl rfl rfl)
 ·obtain ⟨⟨vs', M'⟩, hvs', hA⟩ := y
  dsimp only at hvs' hA ⊢
  refine satq_vc ?_
  conv => whnf
  erw [cut_all (varsC_length hvs')]
  conv => whnf
  erw [beq_len (varsC_length hvs'), onesL_u32]
  conv => whnf
  erw [ble_of ((varsC_length hvs').trans hz.symm)]
  conv => whnf
  erw [vars_put hvs' _ hz]
  conv => whnf
  refine atq_ret ?_
  conv => whnf
  erw [cut_all (varsC_length hvs')]
  conv => whnf
  refine fin_objs (val_tup2 _ _) rfl (memL_sub (M := M')) (memS_ob n p M') fun w' h1 h2 => ?_
  unfold ApplyR
  rw [hA]
  exact ⟨rfl, h1, h2⟩
end Go.Proofs.YtnhdcclpjildjaaGreat
namespace Go.Proofs.YtnhdcclpjildjaaGreat
open Go.RowKit

def EvalR (b : Blk) (vs : List Int) (n p : Nat) (M : MemP) (g : Nat) (gs : List Nat) (w : World) : Ending → World → Prop := fun e w' => e = .returned (outV (evalBlk b vs M).out) ∧ ObjsAt w' (g :: gs) (memS 0 n p (evalBlk b vs M).mem) ∧ GrownBys w w' (g :: gs)
theorem slOld_at {w0 : World} {G : Gs} {S : List Ow} {r : Env} {w : World} (hR : Rel w0 G S r w) {A : Option Addr} {xs : List Value} (h : SlOld w0 G A xs) : SlAt w w.heap.size A xs := fun j u hj => by
 obtain ⟨b, off, e1, e2, e3, e4⟩ := h j u hj
 exact ⟨b, off, e1, Nat.lt_of_lt_of_le e2 hR.size, (hR.oldCell e2 e3 _).trans e4⟩
theorem slOld_cells {w0 : World} {G : Gs} {A : Option Addr} {l : List BOp} (h : SlOld w0 G A (l.flatMap opC)) {j : Nat} {o : BOp} (hj : l[j]? = some o) : ∃ b off, A = some ⟨b, off, none⟩ ∧ CellsAt w0 G b (off + (j : Int).toNat * 5) (opC o) := by
 have at_ : ∀ k, k < 5 → (l.flatMap opC)[j * 5 + k]? = (opC o)[k]? := fun k hk => by
  have := ops_cut hj
  rw [← this, List.getElem?_take, if_pos hk, List.getElem?_drop]
 obtain ⟨b, off, e1, e2, e3, e4⟩ := h (j * 5 + 0) (.int .i64 o.code) (by rw [at_ 0 (by omega)]; rfl)
 refine ⟨b, off, e1, e2, e3, fun k u hk => ?_⟩
 have hk5 : k < 5 := by
  rcases Nat.lt_or_ge k 5 with h1 | h1
  ·exact h1
  ·rw [List.getElem?_eq_none (by simpa [opC] using h1)] at hk; cases hk
 obtain ⟨b', off', f1, _, _, f4⟩ := h (j * 5 + k) u (by rw [at_ k hk5]; exact hk)
 rw [e1] at f1; injection f1 with f1; injection f1 with f1 f2
 subst f1; subst f2
 rw [Int.toNat_natCast, Nat.add_assoc]; exact f4
theorem slOld_one {w0 : World} {G : Gs} {A : Option Addr} {xs : List Value} (h : SlOld w0 G A xs) {i : Int} (_hi : 0 ≤ i) {x : Value} (hx : xs[i.toNat]? = some x) : ∃ b off, A = some ⟨b, off, none⟩ ∧ CellsAt w0 G b (off + i.toNat * 1) [x] := by
 obtain ⟨b, off, e1, e2, e3, e4⟩ := h i.toNat x hx
 exact ⟨b, off, e1, cells_one e2 e3 (by rw [Nat.mul_one]; exact e4)⟩
theorem grp_T4 (g g1 g2 g3 g4 g5 n p : Nat) (M : MemP) (t1 t2 t3 t4 : TypeId) (us1 us2 us3 us4 : List Value) : grpOk ⟨[g, g1, g2, g3, g4, g5], []⟩ (memL 0 n p M [.cells t1 (us1.map .v), .cells t2 (us2.map .v), .cells t3 (us3.map .v), .cells t4 (us4.map .v)]) = true :=
 grp_memT g g1 g2 g3 g4 g5 n p M _ (by simp only [sbnd, Ow.bnd, bndL_vals])
theorem avals_vars (vs : List Int) : avals [.p (.agg (varsC vs))] = some [varsV vs] := by
 simp only [avals, AV.val, Pc.val, valL_vals]
theorem avals_op_vars (o : BOp) (vs : List Int) : avals [.p (.agg ((opC o).map .v)), .p (.agg (varsC vs))] = some [opV o, varsV vs] := by
 simp only [avals, AV.val, Pc.val, valL_vals]; rfl
theorem out_put {vs : List Int} (h : VarsOk vs) (c0 c1 c2 c3 : CV) (Z : List CV) (hZ : Z.length = 28) : setAll (c0 :: c1 :: c2 :: c3 :: Z) 4 (varsC vs) = c0 :: c1 :: c2 :: c3 :: varsC vs := by
 have := setAll_all (p := [c0, c1, c2, c3]) (l := Z) (m := varsC vs) (by rw [hZ, varsC_length h])
 exact this
theorem fill_of {P : Program} {S : List Ow} {f : Fr} {place : Nat → Option (Nat × Nat)} {parts : List (Nat × Operand)} {cells : List CV} {K : List CV → Prop} (m : List CV) (h : fillK P S f place parts cells = some m) (hK : K m) : (match fillK P S f place parts cells with | some m => K m | none => False) := by
 rw [h]; exact hK
abbrev outC (x : Outc) : List CV := (outL x).map .v
theorem outC_length {x : Outc} (h : VarsOk x.vars) : (outC x).length = 32 := by simp [h.len]
theorem onesL_out (S : List Ow) (x : Outc) : onesL S (outC x) = true := onesL_u32 S x.vars
theorem out_all {x : Outc} (h : VarsOk x.vars) (Z : List CV) (hZ : Z.length = 32) : setAll Z 0 (outC x) = outC x := setAll_same (by rw [hZ, outC_length h])
set_option maxRecDepth 100000
theorem atq_ret_then {w0 : World} {G : Gs} {N : Nd} {f : Fr} {S : List Ow} {Q : Exit → Act → World → Prop} {Q' : Act → World → Prop} (h : AtQ w0 G N .ret f S Q) : AtQ w0 G N .ret f S (Exit.then Q' Q) := ⟨fun a w hg => h.out a w hg⟩
theorem out_ret {w0 : World} {gs : List Nat} {n p : Nat} {f : Fr} {S : List Ow} {x : Outc} {M : MemP} {R : Ending → World → Prop} (hgs : gs.length = 6) (hx : VarsOk x.vars) (h6 : f.get 6 = .p (.c (.ref 8 0))) (h8 : S[8]? = some (.cells 55 (outC x))) (hS : ∀ (i : Nat) (o : Ow), (memS 0 n p M)[i]? = some o → S[i]? = some o)
  (hR : ∀ w', ObjsAt w' gs (memS 0 n p M) → GrownBys w0 w' gs → R (.returned (outV x)) w') : resK Tryz.prog w0 ⟨gs, []⟩ S f [.cell 6 55] fun v => Fin w0 ⟨gs, []⟩ S v R := by
 unfold resK resL resV
 dsimp only
 rw [h6]
 unfold loadK
 dsimp only
 rw [h8]
 conv => whnf
 erw [cut_all (outC_length hx)]
 conv => whnf
 exact fin_objs (U := memS 0 n p M) (val_agg _) hgs.symm hS (by rw [hgs]; exact memS_ob n p M) hR
set_option maxRecDepth 100000 in
set_option maxHeartbeats 1000000 in
theorem eval_walk (b : Blk) (vs : List Int) (n p : Nat) (M : MemP) (A1 A2 A3 : Option Addr) (c1 c2 c3 : Nat) (w : World) (g : Nat) (gs : List Nat) (hU : ObjsAt w (g :: gs) (memS 0 n p M)) (hM : M.ok n p) (hb : b.ok) (hv : validB b = true) (hvs : VarsOk vs)
  (h1 : SlOld w ⟨g :: gs, []⟩ A1 (b.at_.map (.int .u32))) (h2 : SlOld w ⟨g :: gs, []⟩ A2 (b.pages.map (.int .i64))) (h3 : SlOld w ⟨g :: gs, []⟩ A3 (b.ops.flatMap opC)) :
  Calls Tryz.prog 29 #[.agg #[.slice A1 b.at_.length c1, .slice A2 b.pages.length c2, .slice A3 b.ops.length c3], varsV vs, .pointer (some ⟨g, 0, none⟩)] w (EvalR b vs n p M g gs w) := by
 obtain ⟨g0, g1, g2, g3, g4, g5, hg⟩ := six_blocks hU
 injection hg with hg0 hgs
 subst hgs; subst hg0
 have hvl := varsC_length hvs
 have hz := zeroC_length
 have hlen := hb.lops
 have hforms := valid_formed hv
 refine calls_objs_satq [.p (.agg [.v (.slice A1 b.at_.length c1), .v (.slice A2 b.pages.length c2), .v (.slice A3 b.ops.length c3)]), AV.of (varsV vs), .p (.c (.ref 0 0))] [.agg #[.slice A1 b.at_.length c1, .slice A2 b.pages.length c2, .slice A3 b.ops.length c3], varsV vs, .pointer (some ⟨g, 0, none⟩)] Tryz.func29 Tryz.ntmps29 rfl (by simp) hU ⟨_, _, rfl, AV.of_den _ (.agg #[.slice A1 b.at_.length c1, .slice A2 b.pages.length c2, .slice A3 b.ops.length c3]), _, _, rfl, AV.of_den _ _, _, _, rfl, den_mk_ref rfl, rfl⟩ ?_
 refine satq_seq ?_
 conv => whnf
 refine satq_seq ?_
 conv => whnf
 refine call_con rfl (by kernel_rfl) (fun r w' hR => valid_ref A1 A2 A3 c1 c2 c3 b w' hb (slOld_at hR h2) (slOld_at hR h3)) ?_
 rw [valid_same, hv]
 conv => whnf
 refine satq_seq ?_
 conv => whnf
 refine ⟨fun h => absurd h (by decide), fun _ => ?_⟩
 conv => whnf
 refine satq_seq ?_
 conv => whnf
 erw [cut_all hvl]
 conv => whnf
 erw [beq_len hvl, onesL_u32]
 conv => whnf
 erw [ble_of (hvl.trans hz.symm)]
 conv => whnf
 erw [vars_put hvs _ hz]
 conv => whnf
 refine satq_seq ?_
 conv => whnf
 refine satq_in ?_
 refine satq_seq ?_
 conv => whnf
 refine satq_block ?_
 refine satq_loop (α := { y : Nat × Int × List Int × MemP // y.1 ≤ b.ops.length ∧ VarsOk y.2.2.1 ∧ y.2.2.2.ok n p ∧ EvAt b.at_.length (b.ops.drop y.1) y.2.1 ∧ evalL b.at_ (b.ops.drop y.1) y.2.1 y.2.2.1 y.2.2.2 = evalBlk b vs M })
  (fun y => [(2, .p (.c (.ref 0 0))), (3, .p (.c (.ref 6 0))), (6, .p (.c (.ref 8 0))), (8, .p (.c (.ref 9 0))), (9, one (.int .i64 y.1.2.1)), (10, one (.int .i64 (y.1.1 : Int)))])
  (fun y => memL 0 n p y.1.2.2.2 [.cells 32 [.v (.slice A1 b.at_.length c1), .v (.slice A2 b.pages.length c2), .v (.slice A3 b.ops.length c3)], .cells 53 (varsC vs), .cells 55 ((outL Outc.zero).map .v), .cells 53 (varsC y.1.2.2.1)]) (fun y => b.ops.length - y.1.1)
  ⟨(0, 0, vs, M), by show 0 ≤ _; omega, hvs, hM, by show EvAt _ (b.ops.drop 0) 0; exact evAt_start hv, by show evalL b.at_ (b.ops.drop 0) 0 vs M = _; unfold evalBlk; rw [if_pos hv]; rfl⟩
  (ent_same rfl (aI rfl (aI rfl (aI rfl (aI rfl (aI rfl (aI rfl trivial)))))) (aI sM (aI sM (aI sM (aI sM (aI sM (aI sM (aI sM (aI sM (aI sM (aI sM trivial))))))))))) fun y => ?_
 obtain ⟨⟨j, i, us, Q⟩, hj, hus, hQ, hat, hev⟩ := y
 dsimp only at hj hus hQ hat hev ⊢
 have hul := varsC_length hus
 refine satq_seq ?_
 conv => whnf
 refine ⟨fun hc => ?_, fun hc => ?_⟩
 ·have hlt : j < b.ops.length := by simpa using hc
  obtain ⟨o, ho⟩ : ∃ o, b.ops[j]? = some o := ⟨_, List.getElem?_eq_getElem hlt⟩
  obtain ⟨bo, off, rfl, hcell⟩ := slOld_cells h3 ho
  have hfo := hforms o (List.mem_of_getElem? ho)
  have hoo := hb.ops o (List.mem_of_getElem? ho)
  rw [drop_at ho] at hat hev
  have hat2 := evAt_step hat
  conv => whnf
  refine satq_mid (α := { y : Int × List Int × MemP // VarsOk y.2.1 ∧ y.2.2.ok n p ∧ EvAt b.at_.length (b.ops.drop (j + 1)) y.1 ∧ evalL b.at_ (b.ops.drop (j + 1)) y.1 y.2.1 y.2.2 = evalBlk b vs M })
   (fun y => [(2, .p (.c (.ref 0 0))), (3, .p (.c (.ref 6 0))), (6, .p (.c (.ref 8 0))), (8, .p (.c (.ref 9 0))), (9, one (.int .i64 y.1.1)), (10, one (.int .i64 (j : Int)))])
   (fun y => memL 0 n p y.1.2.2 [.cells 32 [.v (.slice A1 b.at_.length c1), .v (.slice A2 b.pages.length c2), .v (.slice (some ⟨bo, off, none⟩) b.ops.length c3)], .cells 53 (varsC vs), .cells 55 ((outL Outc.zero).map .v), .cells 53 (varsC y.1.2.1)]) ?_ fun y => ?_
  ·refine satq_block ?_
   refine satq_seq ?_
   conv => whnf
   refine ⟨⟨by omega, by omega⟩, ?_⟩
   conv => whnf
   refine ⟨opC o, hcell, rfl, ?_⟩
   conv => whnf
   refine satq_mid (α := Unit) (fun _ => [(2, .p (.c (.ref 0 0))), (3, .p (.c (.ref 6 0))), (6, .p (.c (.ref 8 0))), (8, .p (.c (.ref 9 0))), (9, one (.int .i64 (markI o i))), (10, one (.int .i64 (j : Int))), (11, .p (.c (.ref 10 0)))])
    (fun _ => memL 0 n p Q [.cells 32 [.v (.slice A1 b.at_.length c1), .v (.slice A2 b.pages.length c2), .v (.slice (some ⟨bo, off, none⟩) b.ops.length c3)], .cells 53 (varsC vs), .cells 55 ((outL Outc.zero).map .v), .cells 53 (varsC us), .cells 45 ((opC o).map .v)]) ?_ fun _ => ?_
   ·refine satq_vc ?_
    conv => whnf
    refine ⟨fun h => ?_, fun h => ?_⟩
    ·have hm : markI o i = o.n := if_pos (by simpa using h)
     have hn : 0 ≤ o.n ∧ o.n < 4294967296 := hoo.n
     conv => whnf
     refine ⟨o.n, wr64 (by omega), ?_⟩
     conv => whnf
     exact atq_mid () (ent_same rfl (aI rfl (aI rfl (aI rfl (aI rfl (aI ((congrArg (fun z => one (.int .i64 z)) hm.symm)) (aI rfl (aI rfl trivial))))))) (aI sM (aI sM (aI sM (aI sM (aI sM (aI sM (aI sM (aI sM (aI sM (aI sM (aI sM trivial))))))))))))
    ·have hm : markI o i = i := if_neg (by simpa using h)
     conv => whnf
     exact atq_mid () (ent_same rfl (aI rfl (aI rfl (aI rfl (aI rfl (aI ((congrArg (fun z => one (.int .i64 z)) hm.symm)) (aI rfl (aI rfl trivial))))))) (aI sM (aI sM (aI sM (aI sM (aI sM (aI sM (aI sM (aI sM (aI sM (aI sM (aI sM trivial))))))))))))
   refine satq_in ?_
   refine satq_mid (α := Unit) (fun _ => [(2, .p (.c (.ref 0 0))), (3, .p (.c (.ref 6 0))), (6, .p (.c (.ref 8 0))), (8, .p (.c (.ref 9 0))), (9, one (.int .i64 (markI o i))), (10, one (.int .i64 (j : Int))), (11, .p (.c (.ref 10 0))), (52, one (.bool (o.code == 24 || (o.code == 23 && getV us o.a != 0))))]) (fun _ => memL 0 n p Q [.cells 32 [.v (.slice A1 b.at_.length c1), .v (.slice A2 b.pages.length c2), .v (.slice (some ⟨bo, off, none⟩) b.ops.length c3)], .cells 53 (varsC vs), .cells 55 ((outL Outc.zero).map .v), .cells 53 (varsC us), .cells 45 ((opC o).map .v)]) ?_ fun _ => ?_
   ·refine satq_regionU ?_
    conv => whnf
    cases h : (o.code == 24) with
    | true =>
     repeat (first | (refine ⟨fun _ => ?_, (fun h => absurd h (by decide))⟩; (conv=>whnf)) | (refine ⟨(fun h => absurd h (by decide)), fun _ => ?_⟩; (conv=>whnf)))
     exact atq_mid () (ent_same rfl (aI rfl (aI rfl (aI rfl (aI rfl (aI rfl (aI rfl (aI rfl (aI rfl trivial)))))))) (aI sM (aI sM (aI sM (aI sM (aI sM (aI sM (aI sM (aI sM (aI sM (aI sM (aI sM trivial))))))))))))
    | false =>
     repeat (first | (refine ⟨fun _ => ?_, (fun h => absurd h (by decide))⟩; (conv=>whnf)) | (refine ⟨(fun h => absurd h (by decide)), fun _ => ?_⟩; (conv=>whnf)))
     cases h2 : (o.code == 23) with
     | true =>
      repeat (first | (refine ⟨fun _ => ?_, (fun h => absurd h (by decide))⟩; (conv=>whnf)) | (refine ⟨(fun h => absurd h (by decide)), fun _ => ?_⟩; (conv=>whnf)))
      refine ⟨⟨(formed_a hfo).1, by have := (formed_a hfo).2; omega⟩, ?_⟩
      conv => whnf
      repeat (first | (refine ⟨fun _ => ?_, (fun h => absurd h (by decide))⟩; (conv=>whnf)) | (refine ⟨(fun h => absurd h (by decide)), fun _ => ?_⟩; (conv=>whnf)))
      erw [var_at hus (formed_a hfo)]
      conv => whnf
      repeat (first | (refine ⟨fun _ => ?_, (fun h => absurd h (by decide))⟩; (conv=>whnf)) | (refine ⟨(fun h => absurd h (by decide)), fun _ => ?_⟩; (conv=>whnf)))
      exact atq_mid () (ent_same rfl (aI rfl (aI rfl (aI rfl (aI rfl (aI rfl (aI rfl (aI rfl (aI rfl trivial)))))))) (aI sM (aI sM (aI sM (aI sM (aI sM (aI sM (aI sM (aI sM (aI sM (aI sM (aI sM trivial))))))))))))
     | false =>
      repeat (first | (refine ⟨fun _ => ?_, (fun h => absurd h (by decide))⟩; (conv=>whnf)) | (refine ⟨(fun h => absurd h (by decide)), fun _ => ?_⟩; (conv=>whnf)))
      exact atq_mid () (ent_same rfl (aI rfl (aI rfl (aI rfl (aI rfl (aI rfl (aI rfl (aI rfl (aI rfl trivial)))))))) (aI sM (aI sM (aI sM (aI sM (aI sM (aI sM (aI sM (aI sM (aI sM (aI sM (aI sM trivial))))))))))))
   have hgu := guests_ok hus
   have hgl := varsC_length hgu
   have hcond : (o.code == 24 || (o.code == 23 && getV us o.a != 0)) = true ↔ (o.code = 24 ∨ (o.code = 23 ∧ getV us o.a ≠ 0)) := by simp
   refine satq_cond rfl (fun ht => ?_) (fun ht => satq_skip (atq_on ?_))
   ·have hev2 := (evalL_exit (ats := b.at_) (l := b.ops.drop (j + 1)) (i := i) (M := Q) (hcond.1 ht)).symm.trans hev
    refine satq_vc ?_
    refine sat_tail 8 mixed (by kernel_rfl) ?_
    conv => whnf
    erw [cut_all hul]
    conv => whnf
    refine q_con (xs := [varsV us]) (x := varsV (guestsL us)) (avals_vars us) (by kernel_rfl) (fun r w' hR => guests_walk us w' hus.len) ?_
    conv => whnf
    refine fill_of (outC ⟨false, 0, b.at_.length, o.n, guestsL us⟩) ?_ ?_
    ·conv => lhs; whnf
     erw [beq_len hgl]
     conv => lhs; whnf
     exact congrArg some (out_put hgu _ _ _ _ _ rfl)
    conv => whnf
    erw [beq_len (outC_length (x := ⟨false, 0, b.at_.length, o.n, guestsL us⟩) hgu), onesL_out]
    conv => whnf
    erw [ble_of (outC_length (x := ⟨false, 0, b.at_.length, o.n, guestsL us⟩) hgu)]
    conv => whnf
    erw [out_all (x := ⟨false, 0, b.at_.length, o.n, guestsL us⟩) hgu _ rfl]
    refine atq_ret_then (atq_ret_block (atq_ret_mid (atq_ret_round (atq_ret_block (atq_ret_then (atq_ret (out_ret (x := ⟨false, 0, b.at_.length, o.n, guestsL us⟩) (M := Q) rfl hgu rfl rfl memL_sub fun w' k1 k2 => ?_)))))))
    unfold EvalR
    rw [← hev2]
    exact ⟨rfl, k1, k2⟩
   have hne : ¬ (o.code = 24 ∨ (o.code = 23 ∧ getV us o.a ≠ 0)) := fun h => by rw [hcond.2 h] at ht; cases ht
   refine satq_in ?_
   refine satq_seq ?_
   conv => whnf
   refine satq_cond rfl (fun h25 => ?_) (fun h25 => satq_skip (atq_on ?_))
   ·have hev2 := (evalL_var (ats := b.at_) (l := b.ops.drop (j + 1)) (i := i) (vs := us) (M := Q) (o := o) (by simpa using h25)).symm.trans hev
    refine satq_vc ?_
    refine sat_tail 10 mixed (by kernel_rfl) ?_
    conv => whnf
    refine ⟨⟨(formed_a hfo).1, by have := (formed_a hfo).2; omega⟩, ?_⟩
    conv => whnf
    erw [var_at hus (formed_a hfo)]
    conv => whnf
    erw [cut_all hul]
    conv => whnf
    refine q_con (xs := [varsV us]) (x := varsV (guestsL us)) (avals_vars us) (by kernel_rfl) (fun r w' hR => guests_walk us w' hus.len) ?_
    conv => whnf
    refine fill_of (outC ⟨false, 0, b.at_.length, getV us o.a, guestsL us⟩) ?_ ?_
    ·conv => lhs; whnf
     erw [beq_len hgl]
     conv => lhs; whnf
     exact congrArg some (out_put hgu _ _ _ _ _ rfl)
    conv => whnf
    erw [beq_len (outC_length (x := ⟨false, 0, b.at_.length, getV us o.a, guestsL us⟩) hgu), onesL_out]
    conv => whnf
    erw [ble_of (outC_length (x := ⟨false, 0, b.at_.length, getV us o.a, guestsL us⟩) hgu)]
    conv => whnf
    erw [out_all (x := ⟨false, 0, b.at_.length, getV us o.a, guestsL us⟩) hgu _ rfl]
    refine atq_ret_then (atq_ret_block (atq_ret_mid (atq_ret_round (atq_ret_block (atq_ret_then (atq_ret (out_ret (x := ⟨false, 0, b.at_.length, getV us o.a, guestsL us⟩) (M := Q) rfl hgu rfl rfl memL_sub fun w' k1 k2 => ?_)))))))
    unfold EvalR
    rw [← hev2]
    exact ⟨rfl, k1, k2⟩
   have hn25 : o.code ≠ 25 := by simpa using h25
   obtain ⟨⟨us2, st, Q2⟩, hA⟩ : ∃ r, r = applyP o us Q := ⟨_, rfl⟩
   have hus2 : VarsOk us2 := by have := applyP_ok (M := Q) hus hoo.n; rw [← hA] at this; exact this
   have hQ2 : Q2.ok n p := by have := applyP_mem (o := o) hQ hus; rw [← hA] at this; exact this
   have hul2 := varsC_length hus2
   refine satq_seq ?_
   conv => whnf
   erw [cut_all hul]
   conv => whnf
   refine call_memW (pre := [.p (.agg ((opC o).map .v)), .p (.agg (varsC us))]) (suf := []) 0 n p Q Q2 (.tuple #[varsV us2, .bool st]) memL_six (avals_op_vars o us) rfl (by kernel_rfl) (fun w' g gs hk hU => by
    have := apply_walk o us n p Q w' g gs hU hQ hfo hoo hus
    unfold ApplyR at this
    rw [← hA] at this
    exact this) ?_
   conv => whnf
   erw [beq_len hul2, onesL_u32]
   conv => whnf
   erw [ble_of (hul2.trans hz.symm)]
   conv => whnf
   erw [vars_put hus2 _ hz]
   conv => whnf
   refine satq_in ?_
   refine satq_seq ?_
   conv => whnf
   refine satq_cond rfl (fun hst => ?_) (fun hst => satq_skip (atq_on ?_))
   ·have hst' : st = false := by simpa using hst
    obtain ⟨hi0, hi1⟩ : 0 ≤ markI o i ∧ markI o i < b.at_.length := by obtain ⟨_, _, _, _, h0, h1⟩ := hat2; exact ⟨h0, h1⟩
    obtain ⟨y, hy⟩ : ∃ y, b.at_[(markI o i).toNat]? = some y := ⟨_, List.getElem?_eq_getElem (by omega)⟩
    obtain ⟨ba, offa, rfl, hca⟩ := slOld_one h1 hi0 (x := .int .u32 y) (by rw [List.getElem?_map, hy]; rfl)
    have hev2 := (evalL_leave (ats := b.at_) (l := b.ops.drop (j + 1)) (i := i) (vs := us) (M := Q) (o := o) hne hn25 (by rw [← hA]; exact hst')).symm.trans hev
    rw [← hA, hy] at hev2
    refine satq_vc ?_
    refine sat_tail 10 mixed (by kernel_rfl) ?_
    conv => whnf
    refine ⟨⟨hi0, hi1⟩, ?_⟩
    conv => whnf
    refine ⟨_, hca, ?_⟩
    conv => whnf
    erw [cut_all hul]
    conv => whnf
    refine q_con (xs := [varsV us]) (x := varsV (guestsL us)) (avals_vars us) (by kernel_rfl) (fun r w' hR => guests_walk us w' hus.len) ?_
    conv => whnf
    refine fill_of (outC ⟨true, markI o i, markI o i, y, guestsL us⟩) ?_ ?_
    ·conv => lhs; whnf
     erw [beq_len hgl]
     conv => lhs; whnf
     exact congrArg some (out_put hgu _ _ _ _ _ rfl)
    conv => whnf
    erw [beq_len (outC_length (x := ⟨true, markI o i, markI o i, y, guestsL us⟩) hgu), onesL_out]
    conv => whnf
    erw [ble_of (outC_length (x := ⟨true, markI o i, markI o i, y, guestsL us⟩) hgu)]
    conv => whnf
    erw [out_all (x := ⟨true, markI o i, markI o i, y, guestsL us⟩) hgu _ rfl]
    refine atq_ret_then (atq_ret_block (atq_ret_mid (atq_ret_round (atq_ret_block (atq_ret_then (atq_ret (out_ret (x := ⟨true, markI o i, markI o i, y, guestsL us⟩) (M := Q2) rfl hgu rfl rfl memL_sub fun w' k1 k2 => ?_)))))))
    unfold EvalR
    rw [← hev2]
    exact ⟨rfl, k1, k2⟩
   have hst' : st = true := by simpa using hst
   have hev2 := (evalL_go (ats := b.at_) (l := b.ops.drop (j + 1)) (i := i) (vs := us) (M := Q) (o := o) hne hn25 (by rw [← hA]; exact hst')).symm.trans hev
   rw [← hA] at hev2
   refine satq_vc ?_
   conv => whnf
   erw [cut_all hul2]
   conv => whnf
   erw [beq_len hul2, onesL_u32]
   conv => whnf
   erw [ble_of (hul2.trans hul.symm)]
   conv => whnf
   erw [vars_put hus2 _ hul]
   conv => whnf
   erw [var_ble8 hus]
   conv => whnf
   exact atq_block (atq_mid ⟨(markI o i, us2, Q2), hus2, hQ2, hat2, hev2⟩ (ent_drop (aI rfl (aI rfl (aI rfl (aI rfl (aI rfl (aI rfl trivial)))))) (aI sM (aI sM (aI sM (aI sM (aI sM (aI sM (aI sM (aI sM (aI sM (aI sM trivial)))))))))) rfl (grp_T4 _ _ _ _ _ _ _ _ _ _ _ _ _ [.slice A1 b.at_.length c1, .slice A2 b.pages.length c2, .slice (some ⟨bo, off, none⟩) b.ops.length c3] _ _ _)))
  ·obtain ⟨⟨i2, us2, Q2⟩, hus2, hQ2, hat3, hev2⟩ := y
   dsimp only at hus2 hQ2 hat3 hev2 ⊢
   refine satq_vc ?_
   conv => whnf
   refine ⟨_, wr64 (by omega), ?_⟩
   conv => whnf
   exact atq_next ⟨(j + 1, i2, us2, Q2), by show j + 1 ≤ _; omega, hus2, hQ2, hat3, hev2⟩ (ent_same rfl (aI rfl (aI rfl (aI rfl (aI rfl (aI rfl (aI rfl trivial)))))) (aI sM (aI sM (aI sM (aI sM (aI sM (aI sM (aI sM (aI sM (aI sM (aI sM trivial))))))))))) (by show b.ops.length - (j + 1) < b.ops.length - j; omega)
 ·have hje : j = b.ops.length := by simp at hc; omega
  rw [hje, List.drop_length] at hev
  conv => whnf
  refine atq_out (atq_exit (atq_on ?_))
  refine satq_vc ?_
  conv => whnf
  refine atq_ret (out_ret (x := Outc.zero) (M := Q) rfl ⟨rfl, fun x hx => by rw [List.eq_of_mem_replicate hx]; exact word0⟩ rfl rfl memL_sub fun w' k1 k2 => ?_)
  unfold EvalR
  rw [← hev]
  exact ⟨rfl, k1, k2⟩
end Go.Proofs.YtnhdcclpjildjaaGreat
namespace Go.Proofs.YtnhdcclpjildjaaGreat
open Go.RowKit

set_option maxRecDepth 100000 in
theorem sign_ref (n : Int) (b : Nat) (w : World) (hn : word n) (hb : sbits b) : Calls Tryz.prog 23 #[.int .u32 n, .int .i64 (b : Int)] w fun e w' => e = .returned (.int .u32 (sgnW n b)) ∧ Below w.heap.size w w' := by
 have hn2 := hn
 obtain ⟨h0, h1⟩ := hn
 have key : ∀ (B H : Int), n.tmod B = n % B → (IntKind.u32.wrap (1 * 2 ^ (min (b : Int).toNat IntKind.u32.bits)) = B) → (IntKind.i64.wrap ((b : Int) - 1) = (b : Int) - 1) → (IntKind.u32.wrap (1 * 2 ^ (min ((b : Int) - 1).toNat IntKind.u32.bits)) = H) → (1 ≤ (b : Int) ∧ (b : Int) < 32) → B ≠ 0 →
   (∀ x : Int, x = n % B → sgnW n b = if H ≤ x then IntKind.u32.wrap (x - B) else x) → Calls Tryz.prog 23 #[.int .u32 n, .int .i64 (b : Int)] w fun e w' => e = .returned (.int .u32 (sgnW n b)) ∧ Below w.heap.size w w' := by
  intro B H hm hB hb1 hH hbr hB0 hs
  refine calls_val [.int .u32 n, .int .i64 (b : Int)] Tryz.func23 Tryz.ntmps23 rfl (by simp) ?_
  conv => whnf
  refine ⟨fun hc => absurd hc (by simp; omega), fun _ => ?_⟩
  conv => whnf
  refine ⟨fun hc => absurd hc (by simp; omega), fun _ => ?_⟩
  conv => whnf
  refine ⟨by omega, B, hB, ?_⟩
  conv => whnf
  refine ⟨hB0, n % B, hm, ?_⟩
  conv => whnf
  refine ⟨_, hb1, ?_⟩
  conv => whnf
  refine ⟨by omega, H, hH, ?_⟩
  conv => whnf
  refine ⟨fun hc => ?_, fun hc => ?_⟩
  ·conv => whnf
   refine ⟨by omega, B, hB, ?_⟩
   conv => whnf
   refine ⟨_, rfl, ?_⟩
   conv => whnf
   refine fin_val rfl fun w' hB => ⟨?_, hB⟩
   have : H ≤ n % B := by simpa using hc
   rw [hs _ rfl, if_pos this]
  ·conv => whnf
   refine fin_val rfl fun w' hB => ⟨?_, hB⟩
   have : ¬ H ≤ n % B := by simpa using hc
   rw [hs _ rfl, if_neg this]
 rcases hb with rfl | rfl | rfl
 ·refine key 4096 2048 (Int.tmod_eq_emod_of_nonneg h0) (by decide) (by decide) (by decide) (by omega) (by omega) fun x hx => ?_
  rw [sgn12, ← hx]; split
  ·rw [wr32]; omega
  ·rfl
 ·refine key 262144 131072 (Int.tmod_eq_emod_of_nonneg h0) (by decide) (by decide) (by decide) (by omega) (by omega) fun x hx => ?_
  rw [sgn18, ← hx]; split
  ·rw [wr32]; omega
  ·rfl
 ·refine key 4194304 2097152 (Int.tmod_eq_emod_of_nonneg h0) (by decide) (by decide) (by decide) (by omega) (by omega) fun x hx => ?_
  rw [sgn22, ← hx]; split
  ·rw [wr32]; omega
  ·rfl
theorem fits_ref (n : Int) (b : Nat) (w : World) (hn : word n) (hb : sbits b) : Calls Tryz.prog 92 #[.int .u32 n, .int .i64 (b : Int)] w fun e w' => e = .returned (.bool (decide (sgnW n b = n))) ∧ Below w.heap.size w w' := by
 refine calls_val [.int .u32 n, .int .i64 (b : Int)] Tryz.func92 Tryz.ntmps92 rfl (by simp) ?_
 conv => whnf
 refine call_con rfl (by kernel_rfl) (fun r w' _ => sign_ref n b w' hn hb) ?_
 conv => whnf
 exact fin_val rfl fun w' hB => ⟨rfl, hB⟩
end Go.Proofs.YtnhdcclpjildjaaGreat
