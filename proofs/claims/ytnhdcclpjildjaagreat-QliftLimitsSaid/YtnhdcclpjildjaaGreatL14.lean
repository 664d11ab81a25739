/- Walks: an operation of a block is performed. The lifter's block: what is known of it; add. Walks: the reference's memory: Sync. Walks: the program's memory: what is known of it; Pages, at. -/
import Derived.Test.YtnhdcclpjildjaaGreatL1
import Derived.Test.YtnhdcclpjildjaaGreatL10
import Derived.Test.YtnhdcclpjildjaaGreatL11
import Derived.Test.YtnhdcclpjildjaaGreatL12
import Derived.Test.YtnhdcclpjildjaaGreatL13
import Derived.Test.YtnhdcclpjildjaaGreatL3
import Derived.Test.YtnhdcclpjildjaaGreatL4
import Derived.Test.YtnhdcclpjildjaaGreatL5
import Derived.Test.YtnhdcclpjildjaaGreatL6
import Derived.Test.YtnhdcclpjildjaaGreatL7
import Derived.Test.YtnhdcclpjildjaaGreatL8
import Derived.Test.YtnhdcclpjildjaaGreatL9
namespace Go.Proofs.YtnhdcclpjildjaaGreat
open Go.RowKit

theorem grp_T2 (g g1 g2 g3 g4 g5 n p : Nat) (M : MemP) (t1 t2 : TypeId) (us1 us2 : List Value) : grpOk ⟨[g, g1, g2, g3, g4, g5], []⟩ (memL 0 n p M [.cells t1 (us1.map .v), .cells t2 (us2.map .v)]) = true :=
  grp_memT g g1 g2 g3 g4 g5 n p M _ (by simp only [sbnd, Ow.bnd, bndL_vals])
theorem memL_bnd2 (n p : Nat) (M : MemP) (t1 t2 : TypeId) (us1 us2 : List Value) : sbnd 8 (memL 0 n p M [.cells t1 (us1.map .v), .cells t2 (us2.map .v)]) = true := by
  simp only [sbnd, Ow.bnd, bndL_vals, bndL, CV.bnd]
  rfl
theorem eight {gs : List Nat} (h : gs.length = 8) : ∃ x0 x1 x2 x3 x4 x5 x6 x7, gs = [x0, x1, x2, x3, x4, x5, x6, x7] := by
  match gs, h with
  | [x0, x1, x2, x3, x4, x5, x6, x7], _ => exact ⟨x0, x1, x2, x3, x4, x5, x6, x7, rfl⟩
/-- What performing an operation comes to. -/
def ApplyR (o : BOp) (vs : List Int) (n p : Nat) (M : MemP) (g : Nat) (gs : List Nat) (w : World) : Ending → World → Prop := fun e w' => e = .returned (.tuple #[varsV (applyP o vs M).vs, .bool (applyP o vs M).stays]) ∧ ObjsAt w' (g :: gs) (memS 0 n p (applyP o vs M).mem) ∧ GrownBys w w' (g :: gs)
set_option maxRecDepth 100000 in
set_option maxHeartbeats 1000000 in
theorem apply_walk (o : BOp) (vs : List Int) (n p : Nat) (M : MemP) (w : World) (g : Nat) (gs : List Nat) (hU : ObjsAt w (g :: gs) (memS 0 n p M)) (hM : M.ok n p) (hf : formedB o = true) (ho : o.ok) (hvs : VarsOk vs) :
    Calls Tryz.prog 59 #[opV o, varsV vs, .pointer (some ⟨g, 0, none⟩)] w (ApplyR o vs n p M g gs w) := by
  obtain ⟨g0, g1, g2, g3, g4, g5, hg⟩ := six_blocks hU
  injection hg with hg0 hgs
  subst hgs; subst hg0
  have ha := formed_a hf
  have hb := formed_b hf
  have hd := formed_d' hf
  have hvl := varsC_length hvs
  have hz := zeroC_length
  refine calls_objs_satq [AV.of (opV o), AV.of (varsV vs), .p (.c (.ref 0 0))] [opV o, varsV vs, .pointer (some ⟨g, 0, none⟩)] Tryz.func59 Tryz.ntmps59 rfl (by simp) hU ⟨_, _, rfl, AV.of_den _ _, _, _, rfl, AV.of_den _ _, _, _, rfl, den_mk_ref rfl, rfl⟩ ?_
  refine satq_seq ?_
  conv => whnf
  refine satq_seq ?_
  conv => whnf
  refine ⟨⟨by omega, by omega⟩, ?_⟩
  conv => whnf
  erw [var_at hvs ha]
  conv => whnf
  refine satq_seq ?_
  conv => whnf
  refine ⟨⟨by omega, by omega⟩, ?_⟩
  conv => whnf
  erw [var_at hvs hb]
  conv => whnf
  refine satq_seq ?_
  conv => whnf
  refine call_con (x := .agg #[.bool (isOp o.code), .bool (hasD o.code), .bool (hasA o.code), .bool (hasB o.code), .bool (hasN o.code), .bool (leaves o.code)]) rfl (by kernel_rfl) (fun r w' hR => shapeOf_ref o.code w') ?_
  conv => whnf
  obtain ⟨a, hae⟩ : ∃ a, a = getV vs o.a := ⟨_, rfl⟩
  obtain ⟨b, hbe⟩ : ∃ b, b = getV vs o.b := ⟨_, rfl⟩
  have haw : word a := by rw [hae]; exact getV_word hvs _
  have hbw : word b := by rw [hbe]; exact getV_word hvs _
  rw [← hae, ← hbe]
  refine satq_as (f' := [(2, .p (.c (.ref 0 0))), (3, .p (.c (.ref 6 0))), (4, .p (.c (.ref 7 0))), (6, .p (.c (.ref 8 0))), (7, one (.bool false)), (8, one (.int .u32 a)), (9, one (.int .u32 b)), (10, .p (.c (.ref 9 0)))])
    (S' := memL 0 n p M [.cells 45 ((opC o).map .v), .cells 53 (varsC vs), .cells 53 (varsC (List.replicate 28 0)), .cells 100 [.v (.bool (isOp o.code)), .v (.bool (hasD o.code)), .v (.bool (hasA o.code)), .v (.bool (hasB o.code)), .v (.bool (hasN o.code)), .v (.bool (leaves o.code))]])
    (ent_same rfl (aI rfl (aI rfl (aI rfl (aI rfl (aI rfl (aI rfl (aI rfl (aI rfl trivial)))))))) (aI ((aI rfl (Or.inl rfl))) (aI ((aI rfl (Or.inl rfl))) (aI ((aI rfl (Or.inl rfl))) (aI ((aI rfl (Or.inl rfl))) (aI ((aI rfl (Or.inl rfl))) (aI ((aI rfl (Or.inl rfl))) (aI ((aI rfl (Or.inl rfl))) (aI ((aI rfl (Or.inl rfl))) (aI ((aI rfl (Or.inl rfl))) (aI ((aI rfl (Or.inl rfl))) trivial))))))))))) ?_
  have hent : ∀ (f : Fr) (us : List Int) (Z : List CV), Z = varsC us → f.get 4 = .p (.c (.ref 7 0)) → f.get 6 = .p (.c (.ref 8 0)) → Ent w ⟨[g, g1, g2, g3, g4, g5], []⟩ ⟨101, []⟩ f (memL 0 n p M [.cells 45 ((opC o).map .v), .cells 53 Z, .cells 53 (varsC (List.replicate 28 0)), .cells 100 [.v (.bool (isOp o.code)), .v (.bool (hasD o.code)), .v (.bool (hasA o.code)), .v (.bool (hasB o.code)), .v (.bool (hasN o.code)), .v (.bool (leaves o.code))]]) [(4, .p (.c (.ref 6 0))), (6, .p (.c (.ref 7 0)))] (memL 0 n p M [.cells 53 (varsC us), .cells 53 (varsC (List.replicate 28 0))]) := fun f us Z hZ h4 h6 => by
    subst hZ
    exact ent_ren [0, 1, 2, 3, 4, 5, 7, 8] (aI (h4) (aI (h6) trivial)) (aI ((Exists.intro _ (aI rfl (aI rfl (Or.inl rfl))))) (aI ((Exists.intro _ (aI rfl (aI rfl (Or.inl (renL_vals _ _).symm))))) (aI ((Exists.intro _ (aI rfl (aI rfl (Or.inl (renL_vals _ _).symm))))) (aI ((Exists.intro _ (aI rfl (aI rfl (Or.inl (renL_vals _ _).symm))))) (aI ((Exists.intro _ (aI rfl (aI rfl (Or.inl (renL_vals _ _).symm))))) (aI ((Exists.intro _ (aI rfl (aI rfl (Or.inl (renL_vals _ _).symm))))) (aI ((Exists.intro _ (aI rfl (aI rfl (Or.inl (renL_vals _ _).symm))))) (aI ((Exists.intro _ (aI rfl (aI rfl (Or.inl (renL_vals _ _).symm))))) trivial)))))))) rfl (memL_bnd2 n p M _ _ _ _) rfl rfl rfl
  refine satq_mid (α := { y : List Int × MemP // VarsOk y.1 ∧ applyP o vs M = ⟨y.1, true, y.2⟩ }) (fun _ => [(4, .p (.c (.ref 6 0))), (6, .p (.c (.ref 7 0)))]) (fun y => memL 0 n p y.1.2 [.cells 53 (varsC y.1.1), .cells 53 (varsC (List.replicate 28 0))]) ?_ fun y => ?_
  · by_cases c1 : o.code = 1
    · refine satq_vc ?_
      conv => whnf
      refine ⟨fun _ => ?_, fun h => absurd h (by simp [c1])⟩
      conv => whnf
      refine ⟨⟨by omega, by omega⟩, ?_⟩
      conv => whnf
      erw [var_ble hvs hd]
      conv => whnf
      erw [var_ble8 hvs]
      conv => whnf
      exact atq_mid ⟨(vs.set o.d.toNat o.n, M), set_ok hvs _ ho.n, applyP_const c1 vs M⟩ (hent _ _ _ (var_set _ _ _) rfl rfl)
    by_cases c2 : o.code = 2
    · refine satq_vc ?_
      conv => whnf
      refine ⟨fun h => absurd h (by simp [c2]), fun _ => ?_⟩
      conv => whnf
      refine ⟨fun _ => ?_, fun h => absurd h (by simp [c2])⟩
      conv => whnf
      refine ⟨⟨by omega, by omega⟩, ?_⟩
      conv => whnf
      erw [var_ble hvs hd]
      conv => whnf
      erw [var_ble8 hvs]
      conv => whnf
      exact atq_mid ⟨(vs.set o.d.toNat a, M), set_ok hvs _ haw, by rw [applyP_move c2, hae]⟩ (hent _ _ _ (var_set _ _ _) rfl rfl)
    have n1 : (o.code == 1) = false := by simp [c1]
    have n2 : (o.code == 2) = false := by simp [c2]
    by_cases c3 : o.code = 16 ∨ o.code = 17
    · have hsz : (szN o.code : Int) = sizeI o.code := by unfold szN sizeI; rcases c3 with h | h <;> rw [h] <;> rfl
      have hsb : 1 ≤ szN o.code ∧ szN o.code ≤ 4 := by unfold szN; split <;> omega
      have hAP : applyP o vs M = (match M.bad ((a + o.n) % 4294967296) 1 0 (szN o.code) with
          | none => ⟨vs.set o.d.toNat (M.load ((a + o.n) % 4294967296) 0 (szN o.code)), true, M⟩
          | some _ => ⟨vs, false, M⟩) := by
        rw [hae]; unfold applyP; rw [if_neg c1, if_neg c2, if_pos c3]
        cases M.bad ((getV vs o.a + o.n) % 4294967296) 1 0 (szN o.code) <;> rfl
      obtain ⟨x, y, k, hX, hxw, hk⟩ : ∃ x y k, M.loadV ((a + o.n) % 4294967296) (szN o.code) = valV x y k ∧ word x ∧ applyP o vs M = (if k = true then ⟨vs.set o.d.toNat x, true, M⟩ else ⟨vs, false, M⟩) := by
        rw [hAP]
        unfold MemP.loadV
        cases M.bad ((a + o.n) % 4294967296) 1 0 (szN o.code) with
        | none => exact ⟨_, _, true, rfl, load_word M _ _ _, rfl⟩
        | some z => exact ⟨0, z, false, rfl, word0, rfl⟩
      refine satq_seq ?_
      conv => whnf
      refine satq_block ?_
      refine satq_seq ?_
      conv => whnf
      refine satq_cond rfl (fun h => absurd h (by rw [n1]; decide)) fun _ => ?_
      refine satq_seq ?_
      conv => whnf
      refine satq_cond rfl (fun h => absurd h (by rw [n2]; decide)) fun _ => ?_
      refine satq_mid (α := Unit) (fun _ => [(2, .p (.c (.ref 0 0))), (3, .p (.c (.ref 6 0))), (4, .p (.c (.ref 7 0))), (6, .p (.c (.ref 8 0))), (7, one (.bool false)), (8, one (.int .u32 a)), (9, one (.int .u32 b)), (10, .p (.c (.ref 9 0))), (25, one (.int .i64 o.code)), (49, one (.bool true))]) (fun _ => memL 0 n p M [.cells 45 ((opC o).map .v), .cells 53 (varsC vs), .cells 53 (varsC (List.replicate 28 0)), .cells 100 [.v (.bool (isOp o.code)), .v (.bool (hasD o.code)), .v (.bool (hasA o.code)), .v (.bool (hasB o.code)), .v (.bool (hasN o.code)), .v (.bool (leaves o.code))]]) ?_ fun _ => ?_
      · refine satq_vc ?_
        conv => whnf
        refine ⟨fun h => ?_, fun h => ?_⟩
        · conv => whnf
          exact atq_mid () (ent_same rfl (aI rfl (aI rfl (aI rfl (aI rfl (aI rfl (aI rfl (aI rfl (aI rfl (aI rfl (aI ((congrArg (fun z => one (.bool z)) h)) trivial)))))))))) (aI ((aI rfl (Or.inl rfl))) (aI ((aI rfl (Or.inl rfl))) (aI ((aI rfl (Or.inl rfl))) (aI ((aI rfl (Or.inl rfl))) (aI ((aI rfl (Or.inl rfl))) (aI ((aI rfl (Or.inl rfl))) (aI ((aI rfl (Or.inl rfl))) (aI ((aI rfl (Or.inl rfl))) (aI ((aI rfl (Or.inl rfl))) (aI ((aI rfl (Or.inl rfl))) trivial)))))))))))
        · have h17 : (o.code == 17) = true := by
            rcases c3 with e | e
            · rw [e] at h; cases h
            · rw [e]; rfl
          conv => whnf
          exact atq_mid () (ent_same rfl (aI rfl (aI rfl (aI rfl (aI rfl (aI rfl (aI rfl (aI rfl (aI rfl (aI rfl (aI ((congrArg (fun z => one (.bool z)) h17)) trivial)))))))))) (aI ((aI rfl (Or.inl rfl))) (aI ((aI rfl (Or.inl rfl))) (aI ((aI rfl (Or.inl rfl))) (aI ((aI rfl (Or.inl rfl))) (aI ((aI rfl (Or.inl rfl))) (aI ((aI rfl (Or.inl rfl))) (aI ((aI rfl (Or.inl rfl))) (aI ((aI rfl (Or.inl rfl))) (aI ((aI rfl (Or.inl rfl))) (aI ((aI rfl (Or.inl rfl))) trivial)))))))))))
      refine satq_cond rfl (fun _ => ?_) (fun h => absurd h (by decide))
      refine satq_mid (α := Unit) (fun _ => [(2, .p (.c (.ref 0 0))), (3, .p (.c (.ref 6 0))), (4, .p (.c (.ref 7 0))), (6, .p (.c (.ref 8 0))), (7, one (.bool false)), (8, one (.int .u32 a)), (9, one (.int .u32 b)), (10, .p (.c (.ref 9 0))), (25, one (.int .i64 o.code))]) (fun _ => memL 0 n p M [.cells 45 ((opC o).map .v), .cells 53 (varsC vs), .cells 53 (varsC (List.replicate 28 0)), .cells 100 [.v (.bool (isOp o.code)), .v (.bool (hasD o.code)), .v (.bool (hasA o.code)), .v (.bool (hasB o.code)), .v (.bool (hasN o.code)), .v (.bool (leaves o.code))]]) ?_ fun _ => ?_
      · refine satq_vc ?_
        conv => whnf
        refine q_not_nil rfl rfl rfl rfl ?_
        conv => whnf
        refine ⟨fun h => absurd h (by decide), fun _ => ?_⟩
        conv => whnf
        exact atq_mid () (ent_same rfl (aI rfl (aI rfl (aI rfl (aI rfl (aI rfl (aI rfl (aI rfl (aI rfl (aI rfl trivial))))))))) (aI ((aI rfl (Or.inl rfl))) (aI ((aI rfl (Or.inl rfl))) (aI ((aI rfl (Or.inl rfl))) (aI ((aI rfl (Or.inl rfl))) (aI ((aI rfl (Or.inl rfl))) (aI ((aI rfl (Or.inl rfl))) (aI ((aI rfl (Or.inl rfl))) (aI ((aI rfl (Or.inl rfl))) (aI ((aI rfl (Or.inl rfl))) (aI ((aI rfl (Or.inl rfl))) trivial)))))))))))
      refine satq_anew (memL 0 n p M [.cells 53 (varsC vs), .cells 53 (varsC (List.replicate 28 0))]) [0, 1, 2, 3, 4, 5, 7, 8] (aI ((Exists.intro _ (aI rfl (aI rfl (Or.inl rfl))))) (aI ((Exists.intro _ (aI rfl (aI rfl (Or.inl (renL_vals _ _).symm))))) (aI ((Exists.intro _ (aI rfl (aI rfl (Or.inl (renL_vals _ _).symm))))) (aI ((Exists.intro _ (aI rfl (aI rfl (Or.inl (renL_vals _ _).symm))))) (aI ((Exists.intro _ (aI rfl (aI rfl (Or.inl (renL_vals _ _).symm))))) (aI ((Exists.intro _ (aI rfl (aI rfl (Or.inl (renL_vals _ _).symm))))) (aI ((Exists.intro _ (aI rfl (aI rfl (Or.inl (renL_vals _ _).symm))))) (aI ((Exists.intro _ (aI rfl (aI rfl (Or.inl (renL_vals _ _).symm))))) trivial)))))))) (memL_bnd2 n p M _ _ _ _) rfl rfl rfl rfl fun r w1 gs hR hgl hgs hback => ?_
      obtain ⟨g6, e6, hcell⟩ := anew_cells (us := opC o) hR hgl hgs rfl 6 rfl rfl
      have hmv : ∀ (r2 : Env), (∀ i, r2.blk i = gs[i]?) → ∀ j, j < 8 → ∀ b, r.blk ([0, 1, 2, 3, 4, 5, 7, 8].getD j 0) = some b → r2.blk j = some b := fun r2 hr2 j hj b hb => by
        rw [hr2, ← hgs j hj]; exact hb
      refine ⟨[(2, .p (.c (.ref 0 0))), (3, one (.pointer (some ⟨g6, 0, none⟩))), (4, .p (.c (.ref 6 0))), (6, .p (.c (.ref 7 0))), (7, one (.bool false)), (8, one (.int .u32 a))], fun act r2 hr2 hfd => frDen ⟨slot_moved hfd 2 rfl (hmv r2 hr2 0 (by omega)), slot_plain hfd 3 rfl e6, slot_moved hfd 4 rfl (hmv r2 hr2 6 (by omega)), slot_moved hfd 6 rfl (hmv r2 hr2 7 (by omega)), slot_same hfd 7 rfl, slot_same hfd 8 rfl, trivial⟩, ?_⟩
      obtain ⟨x0, x1, x2, x3, x4, x5, x6, x7, rfl⟩ := eight hgl
      refine satq_mid (α := Unit) (fun _ => [(3, one (.pointer (some ⟨g6, 0, none⟩))), (4, .p (.c (.ref 6 0))), (6, .p (.c (.ref 7 0))), (7, one (.bool false)), (11, .p (.c (.ref 8 0)))]) (fun _ => memL 0 n p M [.cells 53 (varsC vs), .cells 53 (varsC (List.replicate 28 0)), .cells 120 [.v (.int .u32 x), .v (.int .u32 y), .v (.bool k)]]) ?_ fun _ => ?_
      · refine satq_vc ?_
        refine sat_anyG (.q 0 (.q 1 (.q 2 (.q 3 (.q 4 (.q 5 (.q 6 (.alt 7 (.alt 8 (.alt 9 (.alt 10 .done .no) .no) (.alt 9 (.alt 8 (.alt 10 .done .no) .no) .no)) (.alt 9 (.alt 7 (.alt 8 (.alt 10 .done .no) .no) .no) .no))))))))) mixed (by kernel_rfl) (by kernel_rfl) ?_
        conv => whnf
        refine ⟨_, hcell 4 [.int .u32 o.n] (fun k u hu => by cases k with | zero => exact hu | succ k => simp at hu), ?_⟩
        conv => whnf
        refine ⟨_, wr32 _, ?_⟩
        conv => whnf
        refine ⟨_, hcell 0 [.int .i64 o.code] (fun k u hu => by cases k with | zero => exact hu | succ k => simp at hu), ?_⟩
        conv => whnf
        refine ⟨?_, ?_, trivial⟩
        · conv => whnf
          refine call_con (x := .int .i64 (szN o.code : Int)) rfl (by kernel_rfl) (fun r w' hR => by rw [hsz]; exact size_walk o.code w') ?_
          conv => whnf
          refine ⟨?_, ?_, trivial⟩
          · conv => whnf
            refine call_memR (pre := []) (suf := [one (.int .u32 ((a + o.n) % 4294967296)), one (.int .i64 (szN o.code : Int))]) 0 n p M (valV x y k) memL_six rfl rfl (by kernel_rfl) (fun w' g gs hk hU => by rw [← hX]; exact mem_load M n p _ (szN o.code) w' g gs hU hM (word_mod _) hsb) ?_
            conv => whnf
            refine ⟨?_, trivial⟩
            conv => whnf
            refine ⟨?_, trivial⟩
            conv => whnf
            exact atq_mid () (ent_same rfl (aI rfl (aI rfl (aI rfl (aI rfl (aI rfl trivial))))) (aI ((aI rfl (Or.inl rfl))) (aI ((aI rfl (Or.inl rfl))) (aI ((aI rfl (Or.inl rfl))) (aI ((aI rfl (Or.inl rfl))) (aI ((aI rfl (Or.inl rfl))) (aI ((aI rfl (Or.inl rfl))) (aI ((aI rfl (Or.inl rfl))) (aI ((aI rfl (Or.inl rfl))) (aI ((aI rfl (Or.inl rfl))) trivial))))))))))
          · conv => whnf
            refine ⟨?_, trivial⟩
            conv => whnf
            refine call_memR (pre := []) (suf := [one (.int .u32 ((a + o.n) % 4294967296)), one (.int .i64 (szN o.code : Int))]) 0 n p M (valV x y k) memL_six rfl rfl (by kernel_rfl) (fun w' g gs hk hU => by rw [← hX]; exact mem_load M n p _ (szN o.code) w' g gs hU hM (word_mod _) hsb) ?_
            conv => whnf
            refine ⟨?_, trivial⟩
            conv => whnf
            exact atq_mid () (ent_same rfl (aI rfl (aI rfl (aI rfl (aI rfl (aI rfl trivial))))) (aI ((aI rfl (Or.inl rfl))) (aI ((aI rfl (Or.inl rfl))) (aI ((aI rfl (Or.inl rfl))) (aI ((aI rfl (Or.inl rfl))) (aI ((aI rfl (Or.inl rfl))) (aI ((aI rfl (Or.inl rfl))) (aI ((aI rfl (Or.inl rfl))) (aI ((aI rfl (Or.inl rfl))) (aI ((aI rfl (Or.inl rfl))) trivial))))))))))
        · conv => whnf
          refine ⟨?_, trivial⟩
          conv => whnf
          refine call_con (x := .int .i64 (szN o.code : Int)) rfl (by kernel_rfl) (fun r w' hR => by rw [hsz]; exact size_walk o.code w') ?_
          conv => whnf
          refine ⟨?_, trivial⟩
          conv => whnf
          refine call_memR (pre := []) (suf := [one (.int .u32 ((a + o.n) % 4294967296)), one (.int .i64 (szN o.code : Int))]) 0 n p M (valV x y k) memL_six rfl rfl (by kernel_rfl) (fun w' g gs hk hU => by rw [← hX]; exact mem_load M n p _ (szN o.code) w' g gs hU hM (word_mod _) hsb) ?_
          conv => whnf
          refine ⟨?_, trivial⟩
          conv => whnf
          exact atq_mid () (ent_same rfl (aI rfl (aI rfl (aI rfl (aI rfl (aI rfl trivial))))) (aI ((aI rfl (Or.inl rfl))) (aI ((aI rfl (Or.inl rfl))) (aI ((aI rfl (Or.inl rfl))) (aI ((aI rfl (Or.inl rfl))) (aI ((aI rfl (Or.inl rfl))) (aI ((aI rfl (Or.inl rfl))) (aI ((aI rfl (Or.inl rfl))) (aI ((aI rfl (Or.inl rfl))) (aI ((aI rfl (Or.inl rfl))) trivial))))))))))
      refine satq_vc ?_
      conv => whnf
      refine ⟨fun h => ?_, fun h => ?_⟩
      · have hkf : k = false := by simpa using h
        rw [hkf, if_neg (by decide)] at hk
        conv => whnf
        erw [cut_all hvl]
        conv => whnf
        erw [beq_len hvl, onesL_u32]
        conv => whnf
        erw [ble_of (hvl.trans hz.symm)]
        conv => whnf
        erw [vars_put hvs _ hz]
        conv => whnf
        refine hback _ _ _ (atq_ret_block (atq_ret_mid (atq_ret ?_)))
        conv => whnf
        erw [cut_all hvl]
        conv => whnf
        refine fin_objs (val_tup2 _ _) rfl (memL_sub (M := M)) (memS_ob n p M) fun w' h1 h2 => ?_
        unfold ApplyR
        rw [hk]
        exact ⟨rfl, h1, h2⟩
      · have hkt : k = true := by simpa using h
        rw [hkt, if_pos rfl] at hk
        conv => whnf
        refine ⟨_, unflat <| hcell 1 [.int .i64 o.d] (fun k u hu => by cases k with | zero => exact hu | succ k => simp at hu), ?_⟩
        conv => whnf
        refine ⟨⟨by omega, by omega⟩, ?_⟩
        conv => whnf
        erw [var_ble hvs hd]
        conv => whnf
        erw [var_ble8 hvs]
        conv => whnf
        refine hback _ _ _ (atq_block ?_)
        exact atq_mid ⟨(vs.set o.d.toNat x, M), set_ok hvs _ hxw, hk⟩ (ent_drop (aI rfl (aI rfl trivial)) (aI ((aI rfl (Or.inl rfl))) (aI ((aI rfl (Or.inl rfl))) (aI ((aI rfl (Or.inl rfl))) (aI ((aI rfl (Or.inl rfl))) (aI ((aI rfl (Or.inl rfl))) (aI ((aI rfl (Or.inl rfl))) (aI ((aI rfl (Or.inl (var_set _ _ _)))) (aI ((aI rfl (Or.inl rfl))) trivial)))))))) rfl (grp_T2 _ _ _ _ _ _ _ _ _ _ _ _ _))
    by_cases c4 : o.code = 18 ∨ o.code = 19
    · have hsz : (szN o.code : Int) = sizeI o.code := by unfold szN sizeI; rcases c4 with h | h <;> rw [h] <;> rfl
      have hsb : 1 ≤ szN o.code ∧ szN o.code ≤ 4 := by unfold szN; split <;> omega
      have hAP : applyP o vs M = ⟨vs, (M.bad ((a + o.n) % 4294967296) 2 0 (szN o.code)).isNone, M.storeM ((a + o.n) % 4294967296) (szN o.code) b⟩ := by
        rw [hae, hbe]; unfold applyP; rw [if_neg c1, if_neg c2, if_neg c3, if_pos c4]
      obtain ⟨x, y, k, hX, hk⟩ : ∃ x y k, checkV (M.bad ((a + o.n) % 4294967296) 2 0 (szN o.code)) = valV x y k ∧ (M.bad ((a + o.n) % 4294967296) 2 0 (szN o.code)).isNone = k := by
        cases M.bad ((a + o.n) % 4294967296) 2 0 (szN o.code) with
        | none => exact ⟨0, 0, true, rfl, rfl⟩
        | some z => exact ⟨0, z, false, rfl, rfl⟩
      rw [hk] at hAP
      obtain ⟨M2, hM2⟩ : ∃ M2, M2 = M.storeM ((a + o.n) % 4294967296) (szN o.code) b := ⟨_, rfl⟩
      rw [← hM2] at hAP
      refine satq_seq ?_
      conv => whnf
      refine satq_block ?_
      refine satq_seq ?_
      conv => whnf
      refine satq_cond rfl (fun h => absurd h (by rw [n1]; decide)) fun _ => ?_
      refine satq_seq ?_
      conv => whnf
      refine satq_cond rfl (fun h => absurd h (by rw [n2]; decide)) fun _ => ?_
      refine satq_mid (α := Unit) (fun _ => [(2, .p (.c (.ref 0 0))), (3, .p (.c (.ref 6 0))), (4, .p (.c (.ref 7 0))), (6, .p (.c (.ref 8 0))), (7, one (.bool false)), (8, one (.int .u32 a)), (9, one (.int .u32 b)), (10, .p (.c (.ref 9 0))), (25, one (.int .i64 o.code)), (49, one (.bool false))]) (fun _ => memL 0 n p M [.cells 45 ((opC o).map .v), .cells 53 (varsC vs), .cells 53 (varsC (List.replicate 28 0)), .cells 100 [.v (.bool (isOp o.code)), .v (.bool (hasD o.code)), .v (.bool (hasA o.code)), .v (.bool (hasB o.code)), .v (.bool (hasN o.code)), .v (.bool (leaves o.code))]]) ?_ fun _ => ?_
      · refine satq_vc ?_
        conv => whnf
        refine ⟨fun h => absurd h (by simp; omega), fun _ => ?_⟩
        have h17 : (o.code == 17) = false := by simp; omega
        conv => whnf
        exact atq_mid () (ent_same rfl (aI rfl (aI rfl (aI rfl (aI rfl (aI rfl (aI rfl (aI rfl (aI rfl (aI rfl (aI ((congrArg (fun z => one (.bool z)) h17)) trivial)))))))))) (aI ((aI rfl (Or.inl rfl))) (aI ((aI rfl (Or.inl rfl))) (aI ((aI rfl (Or.inl rfl))) (aI ((aI rfl (Or.inl rfl))) (aI ((aI rfl (Or.inl rfl))) (aI ((aI rfl (Or.inl rfl))) (aI ((aI rfl (Or.inl rfl))) (aI ((aI rfl (Or.inl rfl))) (aI ((aI rfl (Or.inl rfl))) (aI ((aI rfl (Or.inl rfl))) trivial)))))))))))
      refine satq_cond rfl (fun h => absurd h (by decide)) (fun _ => ?_)
      refine satq_mid (α := Unit) (fun _ => [(2, .p (.c (.ref 0 0))), (3, .p (.c (.ref 6 0))), (4, .p (.c (.ref 7 0))), (6, .p (.c (.ref 8 0))), (7, one (.bool false)), (8, one (.int .u32 a)), (9, one (.int .u32 b)), (10, .p (.c (.ref 9 0))), (25, one (.int .i64 o.code)), (73, one (.bool true))]) (fun _ => memL 0 n p M [.cells 45 ((opC o).map .v), .cells 53 (varsC vs), .cells 53 (varsC (List.replicate 28 0)), .cells 100 [.v (.bool (isOp o.code)), .v (.bool (hasD o.code)), .v (.bool (hasA o.code)), .v (.bool (hasB o.code)), .v (.bool (hasN o.code)), .v (.bool (leaves o.code))]]) ?_ fun _ => ?_
      · refine satq_vc ?_
        conv => whnf
        refine ⟨fun h => ?_, fun h => ?_⟩
        · conv => whnf
          exact atq_mid () (ent_same rfl (aI rfl (aI rfl (aI rfl (aI rfl (aI rfl (aI rfl (aI rfl (aI rfl (aI rfl (aI ((congrArg (fun z => one (.bool z)) h)) trivial)))))))))) (aI ((aI rfl (Or.inl rfl))) (aI ((aI rfl (Or.inl rfl))) (aI ((aI rfl (Or.inl rfl))) (aI ((aI rfl (Or.inl rfl))) (aI ((aI rfl (Or.inl rfl))) (aI ((aI rfl (Or.inl rfl))) (aI ((aI rfl (Or.inl rfl))) (aI ((aI rfl (Or.inl rfl))) (aI ((aI rfl (Or.inl rfl))) (aI ((aI rfl (Or.inl rfl))) trivial)))))))))))
        · have h17 : (o.code == 19) = true := by
            rcases c4 with e | e
            · rw [e] at h; cases h
            · rw [e]; rfl
          conv => whnf
          exact atq_mid () (ent_same rfl (aI rfl (aI rfl (aI rfl (aI rfl (aI rfl (aI rfl (aI rfl (aI rfl (aI rfl (aI ((congrArg (fun z => one (.bool z)) h17)) trivial)))))))))) (aI ((aI rfl (Or.inl rfl))) (aI ((aI rfl (Or.inl rfl))) (aI ((aI rfl (Or.inl rfl))) (aI ((aI rfl (Or.inl rfl))) (aI ((aI rfl (Or.inl rfl))) (aI ((aI rfl (Or.inl rfl))) (aI ((aI rfl (Or.inl rfl))) (aI ((aI rfl (Or.inl rfl))) (aI ((aI rfl (Or.inl rfl))) (aI ((aI rfl (Or.inl rfl))) trivial)))))))))))
      refine satq_cond rfl (fun _ => ?_) (fun h => absurd h (by decide))
      refine satq_mid (α := Unit) (fun _ => [(2, .p (.c (.ref 0 0))), (3, .p (.c (.ref 6 0))), (4, .p (.c (.ref 7 0))), (6, .p (.c (.ref 8 0))), (7, one (.bool false)), (8, one (.int .u32 a)), (9, one (.int .u32 b)), (10, .p (.c (.ref 9 0))), (25, one (.int .i64 o.code))]) (fun _ => memL 0 n p M [.cells 45 ((opC o).map .v), .cells 53 (varsC vs), .cells 53 (varsC (List.replicate 28 0)), .cells 100 [.v (.bool (isOp o.code)), .v (.bool (hasD o.code)), .v (.bool (hasA o.code)), .v (.bool (hasB o.code)), .v (.bool (hasN o.code)), .v (.bool (leaves o.code))]]) ?_ fun _ => ?_
      · refine satq_vc ?_
        conv => whnf
        refine q_not_nil rfl rfl rfl rfl ?_
        conv => whnf
        refine ⟨fun h => absurd h (by decide), fun _ => ?_⟩
        conv => whnf
        exact atq_mid () (ent_same rfl (aI rfl (aI rfl (aI rfl (aI rfl (aI rfl (aI rfl (aI rfl (aI rfl (aI rfl trivial))))))))) (aI ((aI rfl (Or.inl rfl))) (aI ((aI rfl (Or.inl rfl))) (aI ((aI rfl (Or.inl rfl))) (aI ((aI rfl (Or.inl rfl))) (aI ((aI rfl (Or.inl rfl))) (aI ((aI rfl (Or.inl rfl))) (aI ((aI rfl (Or.inl rfl))) (aI ((aI rfl (Or.inl rfl))) (aI ((aI rfl (Or.inl rfl))) (aI ((aI rfl (Or.inl rfl))) trivial)))))))))))
      refine satq_anew (memL 0 n p M [.cells 53 (varsC vs), .cells 53 (varsC (List.replicate 28 0))]) [0, 1, 2, 3, 4, 5, 7, 8] (aI ((Exists.intro _ (aI rfl (aI rfl (Or.inl rfl))))) (aI ((Exists.intro _ (aI rfl (aI rfl (Or.inl (renL_vals _ _).symm))))) (aI ((Exists.intro _ (aI rfl (aI rfl (Or.inl (renL_vals _ _).symm))))) (aI ((Exists.intro _ (aI rfl (aI rfl (Or.inl (renL_vals _ _).symm))))) (aI ((Exists.intro _ (aI rfl (aI rfl (Or.inl (renL_vals _ _).symm))))) (aI ((Exists.intro _ (aI rfl (aI rfl (Or.inl (renL_vals _ _).symm))))) (aI ((Exists.intro _ (aI rfl (aI rfl (Or.inl (renL_vals _ _).symm))))) (aI ((Exists.intro _ (aI rfl (aI rfl (Or.inl (renL_vals _ _).symm))))) trivial)))))))) (memL_bnd2 n p M _ _ _ _) rfl rfl rfl rfl fun r w1 gs hR hgl hgs hback => ?_
      obtain ⟨g6, e6, hcell⟩ := anew_cells (us := opC o) hR hgl hgs rfl 6 rfl rfl
      have hmv : ∀ (r2 : Env), (∀ i, r2.blk i = gs[i]?) → ∀ j, j < 8 → ∀ b, r.blk ([0, 1, 2, 3, 4, 5, 7, 8].getD j 0) = some b → r2.blk j = some b := fun r2 hr2 j hj b hb => by
        rw [hr2, ← hgs j hj]; exact hb
      refine ⟨[(2, .p (.c (.ref 0 0))), (3, one (.pointer (some ⟨g6, 0, none⟩))), (4, .p (.c (.ref 6 0))), (6, .p (.c (.ref 7 0))), (7, one (.bool false)), (8, one (.int .u32 a)), (9, one (.int .u32 b))], fun act r2 hr2 hfd => frDen ⟨slot_moved hfd 2 rfl (hmv r2 hr2 0 (by omega)), slot_plain hfd 3 rfl e6, slot_moved hfd 4 rfl (hmv r2 hr2 6 (by omega)), slot_moved hfd 6 rfl (hmv r2 hr2 7 (by omega)), slot_same hfd 7 rfl, slot_same hfd 8 rfl, slot_same hfd 9 rfl, trivial⟩, ?_⟩
      obtain ⟨x0, x1, x2, x3, x4, x5, x6, x7, rfl⟩ := eight hgl
      refine satq_mid (α := Unit) (fun _ => [(3, one (.pointer (some ⟨g6, 0, none⟩))), (4, .p (.c (.ref 6 0))), (6, .p (.c (.ref 7 0))), (7, one (.bool false)), (12, .p (.c (.ref 8 0)))]) (fun _ => memL 0 n p M2 [.cells 53 (varsC vs), .cells 53 (varsC (List.replicate 28 0)), .cells 120 [.v (.int .u32 x), .v (.int .u32 y), .v (.bool k)]]) ?_ fun _ => ?_
      · refine satq_vc ?_
        refine sat_anyG (.q 0 (.q 1 (.q 2 (.q 3 (.q 4 (.q 5 (.q 6 (.q 8 (.alt 7 (.alt 9 (.alt 10 (.alt 11 .done .no) .no) (.alt 10 (.alt 9 (.alt 11 .done .no) .no) .no)) (.alt 10 (.alt 7 (.alt 9 (.alt 11 .done .no) .no) .no) .no)))))))))) mixed (by kernel_rfl) (by kernel_rfl) ?_
        conv => whnf
        refine ⟨_, hcell 4 [.int .u32 o.n] (fun k u hu => by cases k with | zero => exact hu | succ k => simp at hu), ?_⟩
        conv => whnf
        refine ⟨_, wr32 _, ?_⟩
        conv => whnf
        refine ⟨_, hcell 0 [.int .i64 o.code] (fun k u hu => by cases k with | zero => exact hu | succ k => simp at hu), ?_⟩
        conv => whnf
        refine ⟨?_, ?_, trivial⟩
        · conv => whnf
          refine call_con (x := .int .i64 (szN o.code : Int)) rfl (by kernel_rfl) (fun r w' hR => by rw [hsz]; exact size_walk o.code w') ?_
          conv => whnf
          refine ⟨?_, ?_, trivial⟩
          · conv => whnf
            refine call_memW (pre := []) (suf := [one (.int .u32 ((a + o.n) % 4294967296)), one (.int .i64 (szN o.code : Int)), one (.int .u32 b)]) 0 n p M M2 (valV x y k) memL_six rfl rfl (by kernel_rfl) (fun w' g gs hk hU => by rw [← hX, hM2]; exact mem_store M n p _ (szN o.code) b w' g gs hU hM (word_mod _) hsb hbw) ?_
            conv => whnf
            refine ⟨?_, trivial⟩
            conv => whnf
            refine ⟨?_, trivial⟩
            conv => whnf
            exact atq_mid () (ent_same rfl (aI rfl (aI rfl (aI rfl (aI rfl (aI rfl trivial))))) (aI ((aI rfl (Or.inl rfl))) (aI ((aI rfl (Or.inl rfl))) (aI ((aI rfl (Or.inl rfl))) (aI ((aI rfl (Or.inl rfl))) (aI ((aI rfl (Or.inl rfl))) (aI ((aI rfl (Or.inl rfl))) (aI ((aI rfl (Or.inl rfl))) (aI ((aI rfl (Or.inl rfl))) (aI ((aI rfl (Or.inl rfl))) trivial))))))))))
          · conv => whnf
            refine ⟨?_, trivial⟩
            conv => whnf
            refine call_memW (pre := []) (suf := [one (.int .u32 ((a + o.n) % 4294967296)), one (.int .i64 (szN o.code : Int)), one (.int .u32 b)]) 0 n p M M2 (valV x y k) memL_six rfl rfl (by kernel_rfl) (fun w' g gs hk hU => by rw [← hX, hM2]; exact mem_store M n p _ (szN o.code) b w' g gs hU hM (word_mod _) hsb hbw) ?_
            conv => whnf
            refine ⟨?_, trivial⟩
            conv => whnf
            exact atq_mid () (ent_same rfl (aI rfl (aI rfl (aI rfl (aI rfl (aI rfl trivial))))) (aI ((aI rfl (Or.inl rfl))) (aI ((aI rfl (Or.inl rfl))) (aI ((aI rfl (Or.inl rfl))) (aI ((aI rfl (Or.inl rfl))) (aI ((aI rfl (Or.inl rfl))) (aI ((aI rfl (Or.inl rfl))) (aI ((aI rfl (Or.inl rfl))) (aI ((aI rfl (Or.inl rfl))) (aI ((aI rfl (Or.inl rfl))) trivial))))))))))
        · conv => whnf
          refine ⟨?_, trivial⟩
          conv => whnf
          refine call_con (x := .int .i64 (szN o.code : Int)) rfl (by kernel_rfl) (fun r w' hR => by rw [hsz]; exact size_walk o.code w') ?_
          conv => whnf
          refine ⟨?_, trivial⟩
          conv => whnf
          refine call_memW (pre := []) (suf := [one (.int .u32 ((a + o.n) % 4294967296)), one (.int .i64 (szN o.code : Int)), one (.int .u32 b)]) 0 n p M M2 (valV x y k) memL_six rfl rfl (by kernel_rfl) (fun w' g gs hk hU => by rw [← hX, hM2]; exact mem_store M n p _ (szN o.code) b w' g gs hU hM (word_mod _) hsb hbw) ?_
          conv => whnf
          refine ⟨?_, trivial⟩
          conv => whnf
          exact atq_mid () (ent_same rfl (aI rfl (aI rfl (aI rfl (aI rfl (aI rfl trivial))))) (aI ((aI rfl (Or.inl rfl))) (aI ((aI rfl (Or.inl rfl))) (aI ((aI rfl (Or.inl rfl))) (aI ((aI rfl (Or.inl rfl))) (aI ((aI rfl (Or.inl rfl))) (aI ((aI rfl (Or.inl rfl))) (aI ((aI rfl (Or.inl rfl))) (aI ((aI rfl (Or.inl rfl))) (aI ((aI rfl (Or.inl rfl))) trivial))))))))))
      refine satq_mid (α := Unit) (fun _ => [(4, .p (.c (.ref 6 0))), (6, .p (.c (.ref 7 0))), (7, one (.bool k))]) (fun _ => memL 0 n p M2 [.cells 53 (varsC vs), .cells 53 (varsC vs), .cells 120 [.v (.int .u32 x), .v (.int .u32 y), .v (.bool k)]]) ?_ fun _ => ?_
      · refine satq_vc ?_
        refine sat_anyG (.q 1 (.alt 0 (.alt 2 (.alt 3 (.q 4 .done) .no) (.alt 3 (.alt 2 (.q 4 .done) .no) .no)) (.alt 2 (.alt 0 (.alt 3 (.q 4 .done) .no) .no) .no))) mixed (by kernel_rfl) (by kernel_rfl) ?_
        conv => whnf
        refine ⟨?_, ?_, trivial⟩
        · conv => whnf
          erw [cut_all hvl]
          conv => whnf
          refine ⟨?_, ?_, trivial⟩
          · conv => whnf
            refine ⟨?_, trivial⟩
            conv => whnf
            erw [beq_len hvl, onesL_u32]
            conv => whnf
            erw [ble_of (hvl.trans hz.symm)]
            conv => whnf
            erw [vars_put hvs _ hz]
            conv => whnf
            exact atq_mid () (ent_same rfl (aI rfl (aI rfl (aI rfl trivial))) (aI ((aI rfl (Or.inl rfl))) (aI ((aI rfl (Or.inl rfl))) (aI ((aI rfl (Or.inl rfl))) (aI ((aI rfl (Or.inl rfl))) (aI ((aI rfl (Or.inl rfl))) (aI ((aI rfl (Or.inl rfl))) (aI ((aI rfl (Or.inl rfl))) (aI ((aI rfl (Or.inl rfl))) (aI ((aI rfl (Or.inl rfl))) trivial))))))))))
          · conv => whnf
            erw [beq_len hvl, onesL_u32]
            conv => whnf
            erw [ble_of (hvl.trans hz.symm)]
            conv => whnf
            erw [vars_put hvs _ hz]
            conv => whnf
            refine ⟨?_, trivial⟩
            conv => whnf
            exact atq_mid () (ent_same rfl (aI rfl (aI rfl (aI rfl trivial))) (aI ((aI rfl (Or.inl rfl))) (aI ((aI rfl (Or.inl rfl))) (aI ((aI rfl (Or.inl rfl))) (aI ((aI rfl (Or.inl rfl))) (aI ((aI rfl (Or.inl rfl))) (aI ((aI rfl (Or.inl rfl))) (aI ((aI rfl (Or.inl rfl))) (aI ((aI rfl (Or.inl rfl))) (aI ((aI rfl (Or.inl rfl))) trivial))))))))))
        · conv => whnf
          refine ⟨?_, trivial⟩
          conv => whnf
          erw [cut_all hvl]
          conv => whnf
          refine ⟨?_, trivial⟩
          conv => whnf
          erw [beq_len hvl, onesL_u32]
          conv => whnf
          erw [ble_of (hvl.trans hz.symm)]
          conv => whnf
          erw [vars_put hvs _ hz]
          conv => whnf
          exact atq_mid () (ent_same rfl (aI rfl (aI rfl (aI rfl trivial))) (aI ((aI rfl (Or.inl rfl))) (aI ((aI rfl (Or.inl rfl))) (aI ((aI rfl (Or.inl rfl))) (aI ((aI rfl (Or.inl rfl))) (aI ((aI rfl (Or.inl rfl))) (aI ((aI rfl (Or.inl rfl))) (aI ((aI rfl (Or.inl rfl))) (aI ((aI rfl (Or.inl rfl))) (aI ((aI rfl (Or.inl rfl))) trivial))))))))))
      refine satq_vc ?_
      conv => whnf
      refine hback _ _ _ (atq_ret_block (atq_ret_mid (atq_ret ?_)))
      conv => whnf
      erw [cut_all hvl]
      conv => whnf
      refine fin_objs (val_tup2 _ _) rfl (memL_sub (M := M2)) (memS_ob n p M2) fun w' h1 h2 => ?_
      unfold ApplyR
      rw [hAP]
      exact ⟨rfl, h1, h2⟩
    have m3 : (o.code == 16) = false := by simp; omega
    have m4 : (o.code == 17) = false := by simp; omega
    have m5 : (o.code == 18) = false := by simp; omega
    have m6 : (o.code == 19) = false := by simp; omega
    refine satq_vc ?_
    conv => whnf
    refine ⟨fun h => absurd h (by rw [n1]; decide), fun _ => ?_⟩
    conv => whnf
    refine ⟨fun h => absurd h (by rw [n2]; decide), fun _ => ?_⟩
    conv => whnf
    refine ⟨fun h => absurd h (by rw [m3]; decide), fun _ => ?_⟩
    conv => whnf
    refine ⟨fun h => absurd h (by rw [m4]; decide), fun _ => ?_⟩
    conv => whnf
    refine ⟨fun h => absurd h (by rw [m5]; decide), fun _ => ?_⟩
    conv => whnf
    refine ⟨fun h => absurd h (by rw [m6]; decide), fun _ => ?_⟩
    conv => whnf
    refine ⟨fun h => ?_, fun h => ?_⟩
    · have c5 : o.code = 21 := by simpa using h
      conv => whnf
      erw [cut_all hvl]
      conv => whnf
      erw [beq_len hvl, onesL_u32]
      conv => whnf
      erw [ble_of (hvl.trans hz.symm)]
      conv => whnf
      erw [vars_put hvs _ hz]
      conv => whnf
      refine atq_ret_mid (atq_ret ?_)
      conv => whnf
      erw [cut_all hvl]
      conv => whnf
      refine fin_objs (val_tup2 _ _) rfl (memL_sub (M := M)) (memS_ob n p M) fun w' h1 h2 => ?_
      unfold ApplyR
      rw [applyP_guard c5, ← hae]
      exact ⟨rfl, h1, h2⟩
    have c5 : o.code ≠ 21 := by simpa using h
    conv => whnf
    refine ⟨fun h => ?_, fun h => ?_⟩
    · have c6 : o.code = 22 := by simpa using h
      have hAP : applyP o vs M = ⟨vs, false, M⟩ := by
        unfold applyP; rw [if_neg c1, if_neg c2, if_neg c3, if_neg c4, if_neg c5, if_pos c6]
      conv => whnf
      erw [cut_all hvl]
      conv => whnf
      erw [beq_len hvl, onesL_u32]
      conv => whnf
      erw [ble_of (hvl.trans hz.symm)]
      conv => whnf
      erw [vars_put hvs _ hz]
      conv => whnf
      refine atq_ret_mid (atq_ret ?_)
      conv => whnf
      erw [cut_all hvl]
      conv => whnf
      refine fin_objs (val_tup2 _ _) rfl (memL_sub (M := M)) (memS_ob n p M) fun w' h1 h2 => ?_
      unfold ApplyR
      rw [hAP]
      exact ⟨rfl, h1, h2⟩
    have c6 : o.code ≠ 22 := by simpa using h
    conv => whnf
    have h17 : hasD o.code = true → isBin o.code = true := fun h => by
      unfold hasD at h; unfold isBin
      rw [decide_eq_true_eq] at h ⊢
      omega
    refine ⟨fun h => ?_, fun h => ?_⟩
    · have c7 := h17 h
      conv => whnf
      refine sat_tail 8 mixed (by kernel_rfl) ?_
      conv => whnf
      refine q_same (xs := [.int .i64 o.code, .int .u32 a, .int .u32 b]) (x := .int .u32 (wordOp o.code a b)) rfl (by kernel_rfl) (fun r w' hR => op_ref o.code a b w' haw hbw) ?_
      conv => whnf
      refine ⟨⟨by omega, by omega⟩, ?_⟩
      conv => whnf
      erw [var_ble hvs hd]
      conv => whnf
      erw [var_ble8 hvs]
      conv => whnf
      exact atq_mid ⟨(vs.set o.d.toNat (wordOp o.code a b), M), set_ok hvs _ (wordOp_word haw hbw), by rw [applyP_bin c7, hae, hbe]⟩ (hent _ _ _ (var_set _ _ _) rfl rfl)
    · have c7 : ¬ isBin o.code = true := fun hb => by
        have h' : 3 ≤ o.code ∧ o.code ≤ 15 := by unfold isBin at hb; simpa using hb
        have : hasD o.code = true := by unfold hasD; rw [decide_eq_true_eq]; omega
        rw [this] at h; cases h
      conv => whnf
      exact atq_mid ⟨(vs, M), hvs, by unfold applyP; rw [if_neg c1, if_neg c2, if_neg c3, if_neg c4, if_neg c5, if_neg c6, if_neg c7]⟩ (hent _ _ _ rfl rfl rfl)
  · obtain ⟨⟨vs', M'⟩, hvs', hA⟩ := y
    dsimp only at hvs' hA ⊢
    refine satq_vc ?_
    conv => whnf
    erw [cut_all (varsC_length hvs')]
    conv => whnf
    erw [beq_len (varsC_length hvs'), onesL_u32]
    conv => whnf
    erw [ble_of ((varsC_length hvs').trans hz.symm)]
    conv => whnf
    erw [vars_put hvs' _ hz]
    conv => whnf
    refine atq_ret ?_
    conv => whnf
    erw [cut_all (varsC_length hvs')]
    conv => whnf
    refine fin_objs (val_tup2 _ _) rfl (memL_sub (M := M')) (memS_ob n p M') fun w' h1 h2 => ?_
    unfold ApplyR
    rw [hA]
    exact ⟨rfl, h1, h2⟩
end Go.Proofs.YtnhdcclpjildjaaGreat
namespace Go.Proofs.YtnhdcclpjildjaaGreat
open Go.RowKit

structure LiftAt (w : World) (g : Nat) (vA vP vO : Value) (l : List BOp) : Prop where
  blk : w.heap[g]? = some (.cells #[vA, vP, vO] 138 (0, 0))
  row : w.ownsRow 0 45 5 vO l.length (l.flatMap opC)
  far : vO.ownBlock ≠ some g
structure LiftTo (w w' : World) (g : Nat) (vA vP vO : Value) (l' : List BOp) : Prop where
  out : ∃ vO', LiftAt w' g vA vP vO' l' ∧ ∀ b, vO'.ownBlock = some b → vO.ownBlock = some b ∨ w.heap.size ≤ b
  os : w'.os = w.os
  tape : w'.tape = w.tape
  output : w'.output = w.output
  size : w.heap.size ≤ w'.heap.size
  block : ∀ b, b < w.heap.size → b ≠ g → vO.ownBlock ≠ some b → w'.heap[b]? = w.heap[b]?
section
variable {w : World} {g : Nat} {vA vP vO : Value} {l : List BOp}
end
end Go.Proofs.YtnhdcclpjildjaaGreat
namespace Go.Proofs.YtnhdcclpjildjaaGreat
open Go.RowKit

def MemP.syncM (M : MemP) (a : Int) : MemP := if a < (M.data.length : Int) then M.syncTo (a / 256 * 256).toNat 256 else M
theorem syncM_ok {M : MemP} {n p : Nat} (hM : M.ok n p) (a : Int) : (M.syncM a).ok n p := by
  unfold MemP.syncM; split
  · exact syncTo_ok hM _ _
  · exact hM
set_option maxRecDepth 100000 in
set_option maxHeartbeats 1000000 in
theorem mem_sync (M : MemP) (n p : Nat) (a : Int) (w : World) (g : Nat) (gs : List Nat) (hU : ObjsAt w (g :: gs) (memS 0 n p M)) (hM : M.ok n p) (ha : word a) :
    Calls Tryz.prog 36 #[.pointer (some ⟨g, 0, none⟩), .int .u32 a] w fun e w' => e = .returned (.bool (decide (a < (n : Int)))) ∧ ObjsAt w' (g :: gs) (memS 0 n p (M.syncM a)) ∧ GrownBys w w' (g :: gs) := by
  obtain ⟨g0, g1, g2, g3, g4, g5, hg⟩ := six_blocks hU
  injection hg with hg0 hgs
  subst hgs; subst hg0
  have hnp := hM.np
  have hpm := hM.pmax
  have ha' := ha
  obtain ⟨ha0, ha1⟩ := ha
  refine calls_objs [.p (.c (.ref 0 0)), one (.int .u32 a)] [.pointer (some ⟨g, 0, none⟩), .int .u32 a] Tryz.func36 Tryz.ntmps36 rfl (by simp) hU ⟨_, _, rfl, den_mk_ref rfl, avdenL_of [.int .u32 a]⟩ ?_
  conv => whnf
  refine call_memR (pre := []) (suf := [one (.int .u32 a)]) 0 n p M (.bool (decide (a < (n : Int)))) (fun i hi => by rw [Nat.zero_add]) rfl rfl (by kernel_rfl) (fun w' g gs hk hU => mem_in M n p a w' g gs hU hM ha') ?_
  conv => whnf
  refine ⟨true, fun _ => ?_, ?_⟩
  · conv => whnf
    exact ⟨rfl, rfl, rfl, rfl, grp_mem _ _ _ _ _ _ _ _ _⟩
  unfold MemP.syncM
  rw [hM.ld]
  by_cases hlt : a < (n : Int)
  · rw [if_pos hlt, show cmb true (decide (a < (n : Int))) true = true by simp [cmb, hlt]]
    obtain ⟨b, hb⟩ : ∃ b : Nat, (a / 256 * 256).toNat = b := ⟨_, rfl⟩
    rw [hb]
    have hb2 : (b : Int) = a / 256 * 256 := by omega
    have hbn : b + 256 ≤ n := by omega
    conv => whnf
    (repeat (first | (refine ⟨fun _ => ?_, (fun h => Bool.noConfusion (show true = false from h))⟩; (conv => whnf)) | (refine ⟨fun _ => ?_, (fun h => Bool.noConfusion (show false = true from h))⟩; (conv => whnf)) | (refine ⟨(fun h => Bool.noConfusion (show false = true from h)), fun _ => ?_⟩; (conv => whnf)) | (refine ⟨(fun h => Bool.noConfusion (show true = false from h)), fun _ => ?_⟩; (conv => whnf)) | (refine ⟨fun _ => ?_, (fun h => absurd h (by decide))⟩; (conv => whnf)) | (refine ⟨(fun h => absurd h (by decide)), fun _ => ?_⟩; (conv => whnf))))
    conv => whnf
    refine ⟨a, wr64 (by omega), ?_⟩
    conv => whnf
    refine ⟨by decide, a / 256, by rw [Int.tdiv_eq_ediv_of_nonneg ha0]; exact wr64 (by omega), ?_⟩
    conv => whnf
    refine ⟨(b : Int), by rw [hb2]; exact wr64 (by omega), ?_⟩
    conv => whnf
    refine ⟨{ j : Nat // j ≤ 256 }, fun x => [(0, .p (.c (.ref 0 0))), (5, one (.bool (decide (a < (n : Int))))), (6, one (intV (b : Int))), (7, one (intV ((b + x.1 : Nat) : Int)))], fun x => memS 0 n p (M.syncTo b x.1), fun x => 256 - x.1,
      ⟨⟨0, by omega⟩, ent_same rfl (aI rfl (aI rfl (aI rfl (aI rfl trivial)))) (aI ((aI rfl (Or.inl rfl))) (aI ((aI rfl (Or.inl rfl))) (aI ((aI rfl (Or.inl rfl))) (aI ((aI rfl (Or.inl rfl))) (aI ((aI rfl (Or.inl rfl))) (aI ((aI rfl (Or.inl rfl))) trivial))))))⟩, fun x => ?_⟩
    obtain ⟨j, hj⟩ := x
    dsimp only
    conv => whnf
    refine ⟨(b + 256 : Nat), by rw [show (b : Int) + 256 = ((b + 256 : Nat) : Int) by omega]; exact wr64 (by omega), ?_⟩
    conv => whnf
    refine ⟨fun hc => ?_, fun hc => ?_⟩
    · have hlt2 : j < 256 := by simp at hc; omega
      have hQ := syncTo_ok hM b j
      obtain ⟨hd, _⟩ := syncTo_data M b j
      have hnext : M.syncTo b (j + 1) = (M.syncTo b j).setI (b + j) (M.get ((b + j : Nat) : Int)) := rfl
      generalize M.syncTo b j = Q at hQ hnext hd ⊢
      have hlenQ : n ≤ (List.map CV.v Q.iV).length := tail_le hQ.li
      have hgb := get_byte hQ (x := ((b + j : Nat) : Int)) (by omega) (by omega)
      have hge : Q.get ((b + j : Nat) : Int) = M.get ((b + j : Nat) : Int) := by unfold MemP.get; rw [hd]
      rw [hge] at hgb
      conv => whnf
      refine sat_tail 13 mixed (by kernel_rfl) ?_
      conv => whnf
      (refine ⟨⟨by omega, by omega⟩, ?_⟩; (conv => whnf))
      rw [show (List.map CV.v Q.dV)[0 + ((b + j : Nat) : Int).toNat * tsz Tryz.prog 5]? = some (.v (byteV (M.get ((b + j : Nat) : Int)))) by show (List.map CV.v Q.dV)[0 + ((b + j : Nat) : Int).toNat * 1]? = _; rw [Nat.zero_add, Nat.mul_one]; exact hgb.1]
      conv => whnf
      (refine ⟨⟨by omega, by omega⟩, ?_⟩; (conv => whnf))
      rw [show Nat.ble (0 + ((b + j : Nat) : Int).toNat * tsz Tryz.prog 5 + [CV.v (byteV (M.get ((b + j : Nat) : Int)))].length) (List.map CV.v Q.iV).length = true from Nat.ble_eq_true_of_le (by refine Nat.le_trans ?_ hlenQ; show 0 + _ * 1 + 1 ≤ n; omega)]
      conv => whnf
      rw [show Nat.ble (List.map CV.v Q.iV).length 8 = false from ble_no (by omega)]
      conv => whnf
      refine ⟨((b + (j + 1) : Nat) : Int), by rw [show ((b + j : Nat) : Int) + 1 = ((b + (j + 1) : Nat) : Int) by omega]; exact wr64 (by omega), ?_⟩
      conv => whnf
      have hset : setAll (List.map CV.v Q.iV) (0 + ((b + j : Nat) : Int).toNat * tsz Tryz.prog 5) [CV.v (byteV (M.get ((b + j : Nat) : Int)))] = List.map CV.v (M.syncTo b (j + 1)).iV := by
        rw [set_vals, hnext]
        show List.map CV.v (Q.iV.set (0 + ((b + j : Nat) : Int).toNat * 1) _) = List.map CV.v ((Q.setI (b + j) _).iV)
        rw [Nat.zero_add, Nat.mul_one, Int.toNat_natCast, ← setI_iV Q _ (by rw [hQ.li]; omega)]
      exact ⟨⟨j + 1, by omega⟩, ent_same rfl (aI rfl (aI rfl (aI rfl (aI rfl trivial)))) (aI ((aI rfl (Or.inl (by rw [hnext]; rfl)))) (aI ((aI rfl (Or.inl (by rw [hnext]; rfl)))) (aI ((aI rfl (Or.inl hset))) (aI ((aI rfl (Or.inl (by rw [hnext]; rfl)))) (aI ((aI rfl (Or.inl (by rw [hnext]; rfl)))) (aI ((aI rfl (Or.inl (by rw [hnext]; rfl)))) trivial)))))), by show 256 - (j + 1) < 256 - j; omega⟩
    · have hje : j = 256 := by simp at hc; omega
      subst hje
      conv => whnf
      refine ⟨_, _, ent_refl, ?_⟩
      conv => whnf
      exact fin_objs rfl rfl (fun i o h => h) (memS_ob n p _) fun w' h1 h2 => ⟨rfl, h1, h2⟩
  · rw [if_neg hlt, show cmb true (decide (a < (n : Int))) true = false by simp [cmb, hlt]]
    conv => whnf
    (repeat (first | (refine ⟨fun _ => ?_, (fun h => Bool.noConfusion (show true = false from h))⟩; (conv => whnf)) | (refine ⟨fun _ => ?_, (fun h => Bool.noConfusion (show false = true from h))⟩; (conv => whnf)) | (refine ⟨(fun h => Bool.noConfusion (show false = true from h)), fun _ => ?_⟩; (conv => whnf)) | (refine ⟨(fun h => Bool.noConfusion (show true = false from h)), fun _ => ?_⟩; (conv => whnf)) | (refine ⟨fun _ => ?_, (fun h => absurd h (by decide))⟩; (conv => whnf)) | (refine ⟨(fun h => absurd h (by decide)), fun _ => ?_⟩; (conv => whnf))))
    conv => whnf
    exact fin_objs rfl rfl (fun i o h => h) (memS_ob n p M) fun w' h1 h2 => ⟨rfl, h1, h2⟩
end Go.Proofs.YtnhdcclpjildjaaGreat
namespace Go.Proofs.YtnhdcclpjildjaaGreat
open Go.RowKit

structure Slt where
  d : Nat
  c : Nat
  od : Bool
  oc : Bool
  cd : Nat
  cc : Nat
  r : Int
abbrev ptrV (b : Nat) : Value := .pointer (some ⟨b, 0, none⟩)
abbrev slotL (s : Slt) : List Value := [ptrV s.d, ptrV s.c, .bool s.od, .bool s.oc, ptrV s.cd, ptrV s.cc, intV s.r]
def slotsL (l : List Slt) : List Value := l.flatMap slotL
structure PageAt (w : World) (b : Nat) (us : List Int) : Prop where
  at_ : w.heap[b]? = some (.cells (us.map byteV).toArray 166 (0, 0))
  len : us.length = 256
  byte : ∀ x ∈ us, 0 ≤ x ∧ x < 256
structure MemAt2 (w : World) (B m sb : Nat) (l : List Slt) (img : Nat → List Int) : Prop where
  hm : w.heap[m]? = some (.cells #[.slice (some ⟨sb, 0, none⟩) l.length l.length, .bool false] 163 (0, 0))
  hs : w.heap[sb]? = some (.cells (slotsL l).toArray 168 (0, 0))
  Bm : B ≤ m
  Bs : B ≤ sb
  dp : ∀ s ∈ l, (∃ us, PageAt w s.d us) ∧ B ≤ s.d
  cp : ∀ k s, l[k]? = some s → PageAt w s.c (img k) ∧ B ≤ s.c
  sep : ∀ s ∈ l, ∀ s' ∈ l, s.od = true → s.d ≠ s'.c
theorem PageAt.later {w w' : World} {b : Nat} {us : List Int} (h : PageAt w b us) (hb : w'.heap[b]? = w.heap[b]?) : PageAt w' b us := ⟨hb.trans h.at_, h.len, h.byte⟩
theorem heap_lt {w : World} {b : Nat} {o : Obj} (h : w.heap[b]? = some o) : b < w.heap.size := by
  rcases Nat.lt_or_ge b w.heap.size with h1 | h1
  · exact h1
  · rw [Array.getElem?_eq_none h1] at h; cases h
theorem MemAt2.later {w w' : World} {B m sb : Nat} {l : List Slt} {img : Nat → List Int} (h : MemAt2 w B m sb l img) (hB : Below w.heap.size w w') : MemAt2 w' B m sb l img := by
  have key : ∀ {b : Nat} {o : Obj}, w.heap[b]? = some o → w'.heap[b]? = w.heap[b]? := fun hb => hB.block _ (heap_lt hb)
  exact ⟨(key h.hm).trans h.hm, (key h.hs).trans h.hs, h.Bm, h.Bs, fun s hs => by obtain ⟨⟨us, hu⟩, hb⟩ := h.dp s hs; exact ⟨⟨us, hu.later (key hu.at_)⟩, hb⟩,
    fun k s hk => by obtain ⟨hu, hb⟩ := h.cp k s hk; exact ⟨hu.later (key hu.at_), hb⟩, h.sep⟩
section
variable {w : World} {B m sb : Nat} {l : List Slt} {img : Nat → List Int}
end
end Go.Proofs.YtnhdcclpjildjaaGreat
