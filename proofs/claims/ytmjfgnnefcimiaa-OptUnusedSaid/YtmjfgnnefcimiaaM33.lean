/- Walks: an operation of a block is performed. Walks: two blocks have the same outcome; one may be the result for the other. -/
import Derived.Test.YtmjfgnnefcimiaaM1
import Derived.Test.YtmjfgnnefcimiaaM13
import Derived.Test.YtmjfgnnefcimiaaM14
import Derived.Test.YtmjfgnnefcimiaaM15
import Derived.Test.YtmjfgnnefcimiaaM16
import Derived.Test.YtmjfgnnefcimiaaM17
import Derived.Test.YtmjfgnnefcimiaaM18
import Derived.Test.YtmjfgnnefcimiaaM19
import Derived.Test.YtmjfgnnefcimiaaM20
import Derived.Test.YtmjfgnnefcimiaaM21
import Derived.Test.YtmjfgnnefcimiaaM22
import Derived.Test.YtmjfgnnefcimiaaM23
import Derived.Test.YtmjfgnnefcimiaaM24
import Derived.Test.YtmjfgnnefcimiaaM27
import Derived.Test.YtmjfgnnefcimiaaM28
import Derived.Test.YtmjfgnnefcimiaaM29
import Derived.Test.YtmjfgnnefcimiaaM3
import Derived.Test.YtmjfgnnefcimiaaM30
import Derived.Test.YtmjfgnnefcimiaaM31
import Derived.Test.YtmjfgnnefcimiaaM32
import Derived.Test.YtmjfgnnefcimiaaM5
import Derived.Test.YtmjfgnnefcimiaaM6
import Derived.Test.YtmjfgnnefcimiaaM7
namespace Go.Proofs.Ytmjfgnnefcimiaa
open Go.RowKit

theorem grp_T2 (g g1 g2 g3 g4 g5 n p : Nat) (M : MemP) (t1 t2 : TypeId) (us1 us2 : List Value) : grpOk ⟨[g, g1, g2, g3, g4, g5], []⟩ (memL 0 n p M [.cells t1 (us1.map .v), .cells t2 (us2.map .v)]) = true :=
  grp_memT g g1 g2 g3 g4 g5 n p M _ (by simp only [sbnd, Ow.bnd, bndL_vals])
theorem memL_bnd2 (n p : Nat) (M : MemP) (t1 t2 : TypeId) (us1 us2 : List Value) : sbnd 8 (memL 0 n p M [.cells t1 (us1.map .v), .cells t2 (us2.map .v)]) = true := by
  simp only [sbnd, Ow.bnd, bndL_vals, bndL, CV.bnd]
  rfl
theorem eight {gs : List Nat} (h : gs.length = 8) : ∃ x0 x1 x2 x3 x4 x5 x6 x7, gs = [x0, x1, x2, x3, x4, x5, x6, x7] := by
  match gs, h with
  | [x0, x1, x2, x3, x4, x5, x6, x7], _ => exact ⟨x0, x1, x2, x3, x4, x5, x6, x7, rfl⟩
/-- What performing an operation comes to. -/
def ApplyR (o : BOp) (vs : List Int) (n p : Nat) (M : MemP) (g : Nat) (gs : List Nat) (w : World) : Ending → World → Prop := fun e w' => e = .returned (.tuple #[varsV (applyP o vs M).vs, .bool (applyP o vs M).stays]) ∧ ObjsAt w' (g :: gs) (memS 0 n p (applyP o vs M).mem) ∧ GrownBys w w' (g :: gs)
set_option maxRecDepth 100000 in
set_option maxHeartbeats 1000000 in
theorem apply_walk (o : BOp) (vs : List Int) (n p : Nat) (M : MemP) (w : World) (g : Nat) (gs : List Nat) (hU : ObjsAt w (g :: gs) (memS 0 n p M)) (hM : M.ok n p) (hf : formedB o = true) (ho : o.ok) (hvs : VarsOk vs) :
    Calls Try.prog 66 #[opV o, varsV vs, .pointer (some ⟨g, 0, none⟩)] w (ApplyR o vs n p M g gs w) := by
  obtain ⟨g0, g1, g2, g3, g4, g5, hg⟩ := six_blocks hU
  injection hg with hg0 hgs
  subst hgs; subst hg0
  have ha := formed_a hf
  have hb := formed_b hf
  have hd := formed_d' hf
  have hvl := varsC_length hvs
  have hz := zeroC_length
  refine calls_objs_satq [AV.of (opV o), AV.of (varsV vs), .p (.c (.ref 0 0))] [opV o, varsV vs, .pointer (some ⟨g, 0, none⟩)] Try.func66 Try.ntmps66 rfl (by simp) hU ⟨_, _, rfl, AV.of_den _ _, _, _, rfl, AV.of_den _ _, _, _, rfl, den_mk_ref rfl, rfl⟩ ?_
  refine satq_seq ?_
  conv => whnf
  refine satq_seq ?_
  conv => whnf
  refine ⟨⟨by omega, by omega⟩, ?_⟩
  conv => whnf
  erw [var_at hvs ha]
  conv => whnf
  refine satq_seq ?_
  conv => whnf
  refine ⟨⟨by omega, by omega⟩, ?_⟩
  conv => whnf
  erw [var_at hvs hb]
  conv => whnf
  refine satq_seq ?_
  conv => whnf
  refine call_con (x := .agg #[.bool (isOp o.code), .bool (hasD o.code), .bool (hasA o.code), .bool (hasB o.code), .bool (hasN o.code), .bool (leaves o.code)]) rfl (by kernel_rfl) (fun r w' hR => shapeOf_ref o.code w') ?_
  conv => whnf
  obtain ⟨a, hae⟩ : ∃ a, a = getV vs o.a := ⟨_, rfl⟩
  obtain ⟨b, hbe⟩ : ∃ b, b = getV vs o.b := ⟨_, rfl⟩
  have haw : word a := by rw [hae]; exact getV_word hvs _
  have hbw : word b := by rw [hbe]; exact getV_word hvs _
  rw [← hae, ← hbe]
  refine satq_as (f' := [(2, .p (.c (.ref 0 0))), (3, .p (.c (.ref 6 0))), (4, .p (.c (.ref 7 0))), (6, .p (.c (.ref 8 0))), (7, one (.bool false)), (8, one (.int .u32 a)), (9, one (.int .u32 b)), (10, .p (.c (.ref 9 0)))])
    (S' := memL 0 n p M [.cells 53 ((opC o).map .v), .cells 45 (varsC vs), .cells 45 (varsC (List.replicate 28 0)), .cells 112 [.v (.bool (isOp o.code)), .v (.bool (hasD o.code)), .v (.bool (hasA o.code)), .v (.bool (hasB o.code)), .v (.bool (hasN o.code)), .v (.bool (leaves o.code))]])
    (ent_same rfl (aI rfl (aI rfl (aI rfl (aI rfl (aI rfl (aI rfl (aI rfl (aI rfl trivial)))))))) (aI ((aI rfl (Or.inl rfl))) (aI ((aI rfl (Or.inl rfl))) (aI ((aI rfl (Or.inl rfl))) (aI ((aI rfl (Or.inl rfl))) (aI ((aI rfl (Or.inl rfl))) (aI ((aI rfl (Or.inl rfl))) (aI ((aI rfl (Or.inl rfl))) (aI ((aI rfl (Or.inl rfl))) (aI ((aI rfl (Or.inl rfl))) (aI ((aI rfl (Or.inl rfl))) trivial))))))))))) ?_
  have hent : ∀ (f : Fr) (us : List Int) (Z : List CV), Z = varsC us → f.get 4 = .p (.c (.ref 7 0)) → f.get 6 = .p (.c (.ref 8 0)) → Ent w ⟨[g, g1, g2, g3, g4, g5], []⟩ ⟨101, []⟩ f (memL 0 n p M [.cells 53 ((opC o).map .v), .cells 45 Z, .cells 45 (varsC (List.replicate 28 0)), .cells 112 [.v (.bool (isOp o.code)), .v (.bool (hasD o.code)), .v (.bool (hasA o.code)), .v (.bool (hasB o.code)), .v (.bool (hasN o.code)), .v (.bool (leaves o.code))]]) [(4, .p (.c (.ref 6 0))), (6, .p (.c (.ref 7 0)))] (memL 0 n p M [.cells 45 (varsC us), .cells 45 (varsC (List.replicate 28 0))]) := fun f us Z hZ h4 h6 => by
    subst hZ
    exact ent_ren [0, 1, 2, 3, 4, 5, 7, 8] (aI (h4) (aI (h6) trivial)) (aI ((Exists.intro _ (aI rfl (aI rfl (Or.inl rfl))))) (aI ((Exists.intro _ (aI rfl (aI rfl (Or.inl (renL_vals _ _).symm))))) (aI ((Exists.intro _ (aI rfl (aI rfl (Or.inl (renL_vals _ _).symm))))) (aI ((Exists.intro _ (aI rfl (aI rfl (Or.inl (renL_vals _ _).symm))))) (aI ((Exists.intro _ (aI rfl (aI rfl (Or.inl (renL_vals _ _).symm))))) (aI ((Exists.intro _ (aI rfl (aI rfl (Or.inl (renL_vals _ _).symm))))) (aI ((Exists.intro _ (aI rfl (aI rfl (Or.inl (renL_vals _ _).symm))))) (aI ((Exists.intro _ (aI rfl (aI rfl (Or.inl (renL_vals _ _).symm))))) trivial)))))))) rfl (memL_bnd2 n p M _ _ _ _) rfl rfl rfl
  refine satq_mid (α := { y : List Int × MemP // VarsOk y.1 ∧ applyP o vs M = ⟨y.1, true, y.2⟩ }) (fun _ => [(4, .p (.c (.ref 6 0))), (6, .p (.c (.ref 7 0)))]) (fun y => memL 0 n p y.1.2 [.cells 45 (varsC y.1.1), .cells 45 (varsC (List.replicate 28 0))]) ?_ fun y => ?_
  · by_cases c1 : o.code = 1
    · refine satq_vc ?_
      conv => whnf
      refine ⟨fun _ => ?_, fun h => absurd h (by simp [c1])⟩
      conv => whnf
      refine ⟨⟨by omega, by omega⟩, ?_⟩
      conv => whnf
      erw [var_ble hvs hd]
      conv => whnf
      erw [var_ble8 hvs]
      conv => whnf
      exact atq_mid ⟨(vs.set o.d.toNat o.n, M), set_ok hvs _ ho.n, applyP_const c1 vs M⟩ (hent _ _ _ (var_set _ _ _) rfl rfl)
    by_cases c2 : o.code = 2
    · refine satq_vc ?_
      conv => whnf
      refine ⟨fun h => absurd h (by simp [c2]), fun _ => ?_⟩
      conv => whnf
      refine ⟨fun _ => ?_, fun h => absurd h (by simp [c2])⟩
      conv => whnf
      refine ⟨⟨by omega, by omega⟩, ?_⟩
      conv => whnf
      erw [var_ble hvs hd]
      conv => whnf
      erw [var_ble8 hvs]
      conv => whnf
      exact atq_mid ⟨(vs.set o.d.toNat a, M), set_ok hvs _ haw, by rw [applyP_move c2, hae]⟩ (hent _ _ _ (var_set _ _ _) rfl rfl)
    have n1 : (o.code == 1) = false := by simp [c1]
    have n2 : (o.code == 2) = false := by simp [c2]
    by_cases c3 : o.code = 16 ∨ o.code = 17
    · have hsz : (szN o.code : Int) = sizeI o.code := by unfold szN sizeI; rcases c3 with h | h <;> rw [h] <;> rfl
      have hsb : 1 ≤ szN o.code ∧ szN o.code ≤ 4 := by unfold szN; split <;> omega
      have hAP : applyP o vs M = (match M.bad ((a + o.n) % 4294967296) 1 0 (szN o.code) with
          | none => ⟨vs.set o.d.toNat (M.load ((a + o.n) % 4294967296) 0 (szN o.code)), true, M⟩
          | some _ => ⟨vs, false, M⟩) := by
        rw [hae]; unfold applyP; rw [if_neg c1, if_neg c2, if_pos c3]
        cases M.bad ((getV vs o.a + o.n) % 4294967296) 1 0 (szN o.code) <;> rfl
      obtain ⟨x, y, k, hX, hxw, hk⟩ : ∃ x y k, M.loadV ((a + o.n) % 4294967296) (szN o.code) = valV x y k ∧ word x ∧ applyP o vs M = (if k = true then ⟨vs.set o.d.toNat x, true, M⟩ else ⟨vs, false, M⟩) := by
        rw [hAP]
        unfold MemP.loadV
        cases M.bad ((a + o.n) % 4294967296) 1 0 (szN o.code) with
        | none => exact ⟨_, _, true, rfl, load_word M _ _ _, rfl⟩
        | some z => exact ⟨0, z, false, rfl, word0, rfl⟩
      refine satq_seq ?_
      conv => whnf
      refine satq_block ?_
      refine satq_seq ?_
      conv => whnf
      refine satq_cond rfl (fun h => absurd h (by rw [n1]; decide)) fun _ => ?_
      refine satq_seq ?_
      conv => whnf
      refine satq_cond rfl (fun h => absurd h (by rw [n2]; decide)) fun _ => ?_
      refine satq_mid (α := Unit) (fun _ => [(2, .p (.c (.ref 0 0))), (3, .p (.c (.ref 6 0))), (4, .p (.c (.ref 7 0))), (6, .p (.c (.ref 8 0))), (7, one (.bool false)), (8, one (.int .u32 a)), (9, one (.int .u32 b)), (10, .p (.c (.ref 9 0))), (25, one (.int .i64 o.code)), (49, one (.bool true))]) (fun _ => memL 0 n p M [.cells 53 ((opC o).map .v), .cells 45 (varsC vs), .cells 45 (varsC (List.replicate 28 0)), .cells 112 [.v (.bool (isOp o.code)), .v (.bool (hasD o.code)), .v (.bool (hasA o.code)), .v (.bool (hasB o.code)), .v (.bool (hasN o.code)), .v (.bool (leaves o.code))]]) ?_ fun _ => ?_
      · refine satq_vc ?_
        conv => whnf
        refine ⟨fun h => ?_, fun h => ?_⟩
        · conv => whnf
          exact atq_mid () (ent_same rfl (aI rfl (aI rfl (aI rfl (aI rfl (aI rfl (aI rfl (aI rfl (aI rfl (aI rfl (aI ((congrArg (fun z => one (.bool z)) h)) trivial)))))))))) (aI ((aI rfl (Or.inl rfl))) (aI ((aI rfl (Or.inl rfl))) (aI ((aI rfl (Or.inl rfl))) (aI ((aI rfl (Or.inl rfl))) (aI ((aI rfl (Or.inl rfl))) (aI ((aI rfl (Or.inl rfl))) (aI ((aI rfl (Or.inl rfl))) (aI ((aI rfl (Or.inl rfl))) (aI ((aI rfl (Or.inl rfl))) (aI ((aI rfl (Or.inl rfl))) trivial)))))))))))
        · have h17 : (o.code == 17) = true := by
            rcases c3 with e | e
            · rw [e] at h; cases h
            · rw [e]; rfl
          conv => whnf
          exact atq_mid () (ent_same rfl (aI rfl (aI rfl (aI rfl (aI rfl (aI rfl (aI rfl (aI rfl (aI rfl (aI rfl (aI ((congrArg (fun z => one (.bool z)) h17)) trivial)))))))))) (aI ((aI rfl (Or.inl rfl))) (aI ((aI rfl (Or.inl rfl))) (aI ((aI rfl (Or.inl rfl))) (aI ((aI rfl (Or.inl rfl))) (aI ((aI rfl (Or.inl rfl))) (aI ((aI rfl (Or.inl rfl))) (aI ((aI rfl (Or.inl rfl))) (aI ((aI rfl (Or.inl rfl))) (aI ((aI rfl (Or.inl rfl))) (aI ((aI rfl (Or.inl rfl))) trivial)))))))))))
      refine satq_cond rfl (fun _ => ?_) (fun h => absurd h (by decide))
      refine satq_mid (α := Unit) (fun _ => [(2, .p (.c (.ref 0 0))), (3, .p (.c (.ref 6 0))), (4, .p (.c (.ref 7 0))), (6, .p (.c (.ref 8 0))), (7, one (.bool false)), (8, one (.int .u32 a)), (9, one (.int .u32 b)), (10, .p (.c (.ref 9 0))), (25, one (.int .i64 o.code))]) (fun _ => memL 0 n p M [.cells 53 ((opC o).map .v), .cells 45 (varsC vs), .cells 45 (varsC (List.replicate 28 0)), .cells 112 [.v (.bool (isOp o.code)), .v (.bool (hasD o.code)), .v (.bool (hasA o.code)), .v (.bool (hasB o.code)), .v (.bool (hasN o.code)), .v (.bool (leaves o.code))]]) ?_ fun _ => ?_
      · refine satq_vc ?_
        conv => whnf
        refine q_not_nil rfl rfl rfl rfl ?_
        conv => whnf
        refine ⟨fun h => absurd h (by decide), fun _ => ?_⟩
        conv => whnf
        exact atq_mid () (ent_same rfl (aI rfl (aI rfl (aI rfl (aI rfl (aI rfl (aI rfl (aI rfl (aI rfl (aI rfl trivial))))))))) (aI ((aI rfl (Or.inl rfl))) (aI ((aI rfl (Or.inl rfl))) (aI ((aI rfl (Or.inl rfl))) (aI ((aI rfl (Or.inl rfl))) (aI ((aI rfl (Or.inl rfl))) (aI ((aI rfl (Or.inl rfl))) (aI ((aI rfl (Or.inl rfl))) (aI ((aI rfl (Or.inl rfl))) (aI ((aI rfl (Or.inl rfl))) (aI ((aI rfl (Or.inl rfl))) trivial)))))))))))
      refine satq_anew (memL 0 n p M [.cells 45 (varsC vs), .cells 45 (varsC (List.replicate 28 0))]) [0, 1, 2, 3, 4, 5, 7, 8] (aI ((Exists.intro _ (aI rfl (aI rfl (Or.inl rfl))))) (aI ((Exists.intro _ (aI rfl (aI rfl (Or.inl (renL_vals _ _).symm))))) (aI ((Exists.intro _ (aI rfl (aI rfl (Or.inl (renL_vals _ _).symm))))) (aI ((Exists.intro _ (aI rfl (aI rfl (Or.inl (renL_vals _ _).symm))))) (aI ((Exists.intro _ (aI rfl (aI rfl (Or.inl (renL_vals _ _).symm))))) (aI ((Exists.intro _ (aI rfl (aI rfl (Or.inl (renL_vals _ _).symm))))) (aI ((Exists.intro _ (aI rfl (aI rfl (Or.inl (renL_vals _ _).symm))))) (aI ((Exists.intro _ (aI rfl (aI rfl (Or.inl (renL_vals _ _).symm))))) trivial)))))))) (memL_bnd2 n p M _ _ _ _) rfl rfl rfl rfl fun r w1 gs hR hgl hgs hback => ?_
      obtain ⟨g6, e6, hcell⟩ := anew_cells (us := opC o) hR hgl hgs rfl 6 rfl rfl
      have hmv : ∀ (r2 : Env), (∀ i, r2.blk i = gs[i]?) → ∀ j, j < 8 → ∀ b, r.blk ([0, 1, 2, 3, 4, 5, 7, 8].getD j 0) = some b → r2.blk j = some b := fun r2 hr2 j hj b hb => by
        rw [hr2, ← hgs j hj]; exact hb
      refine ⟨[(2, .p (.c (.ref 0 0))), (3, one (.pointer (some ⟨g6, 0, none⟩))), (4, .p (.c (.ref 6 0))), (6, .p (.c (.ref 7 0))), (7, one (.bool false)), (8, one (.int .u32 a))], fun act r2 hr2 hfd => frDen ⟨slot_moved hfd 2 rfl (hmv r2 hr2 0 (by omega)), slot_plain hfd 3 rfl e6, slot_moved hfd 4 rfl (hmv r2 hr2 6 (by omega)), slot_moved hfd 6 rfl (hmv r2 hr2 7 (by omega)), slot_same hfd 7 rfl, slot_same hfd 8 rfl, trivial⟩, ?_⟩
      obtain ⟨x0, x1, x2, x3, x4, x5, x6, x7, rfl⟩ := eight hgl
      refine satq_mid (α := Unit) (fun _ => [(3, one (.pointer (some ⟨g6, 0, none⟩))), (4, .p (.c (.ref 6 0))), (6, .p (.c (.ref 7 0))), (7, one (.bool false)), (11, .p (.c (.ref 8 0)))]) (fun _ => memL 0 n p M [.cells 45 (varsC vs), .cells 45 (varsC (List.replicate 28 0)), .cells 119 [.v (.int .u32 x), .v (.int .u32 y), .v (.bool k)]]) ?_ fun _ => ?_
      · refine satq_vc ?_
        refine sat_anyG (.q 0 (.q 1 (.q 2 (.q 3 (.q 4 (.q 5 (.q 6 (.alt 7 (.alt 8 (.alt 9 (.alt 10 .done .no) .no) (.alt 9 (.alt 8 (.alt 10 .done .no) .no) .no)) (.alt 9 (.alt 7 (.alt 8 (.alt 10 .done .no) .no) .no) .no))))))))) mixed (by kernel_rfl) (by kernel_rfl) ?_
        conv => whnf
        refine ⟨_, hcell 4 [.int .u32 o.n] (fun k u hu => by cases k with | zero => exact hu | succ k => simp at hu), ?_⟩
        conv => whnf
        refine ⟨_, wr32 _, ?_⟩
        conv => whnf
        refine ⟨_, hcell 0 [.int .i64 o.code] (fun k u hu => by cases k with | zero => exact hu | succ k => simp at hu), ?_⟩
        conv => whnf
        refine ⟨?_, ?_, trivial⟩
        · conv => whnf
          refine call_con (x := .int .i64 (szN o.code : Int)) rfl (by kernel_rfl) (fun r w' hR => by rw [hsz]; exact size_walk o.code w') ?_
          conv => whnf
          refine ⟨?_, ?_, trivial⟩
          · conv => whnf
            refine call_memR (pre := []) (suf := [one (.int .u32 ((a + o.n) % 4294967296)), one (.int .i64 (szN o.code : Int))]) 0 n p M (valV x y k) memL_six rfl rfl (by kernel_rfl) (fun w' g gs hk hU => by rw [← hX]; exact mem_load M n p _ (szN o.code) w' g gs hU hM (word_mod _) hsb) ?_
            conv => whnf
            refine ⟨?_, trivial⟩
            conv => whnf
            refine ⟨?_, trivial⟩
            conv => whnf
            exact atq_mid () (ent_same rfl (aI rfl (aI rfl (aI rfl (aI rfl (aI rfl trivial))))) (aI ((aI rfl (Or.inl rfl))) (aI ((aI rfl (Or.inl rfl))) (aI ((aI rfl (Or.inl rfl))) (aI ((aI rfl (Or.inl rfl))) (aI ((aI rfl (Or.inl rfl))) (aI ((aI rfl (Or.inl rfl))) (aI ((aI rfl (Or.inl rfl))) (aI ((aI rfl (Or.inl rfl))) (aI ((aI rfl (Or.inl rfl))) trivial))))))))))
          · conv => whnf
            refine ⟨?_, trivial⟩
            conv => whnf
            refine call_memR (pre := []) (suf := [one (.int .u32 ((a + o.n) % 4294967296)), one (.int .i64 (szN o.code : Int))]) 0 n p M (valV x y k) memL_six rfl rfl (by kernel_rfl) (fun w' g gs hk hU => by rw [← hX]; exact mem_load M n p _ (szN o.code) w' g gs hU hM (word_mod _) hsb) ?_
            conv => whnf
            refine ⟨?_, trivial⟩
            conv => whnf
            exact atq_mid () (ent_same rfl (aI rfl (aI rfl (aI rfl (aI rfl (aI rfl trivial))))) (aI ((aI rfl (Or.inl rfl))) (aI ((aI rfl (Or.inl rfl))) (aI ((aI rfl (Or.inl rfl))) (aI ((aI rfl (Or.inl rfl))) (aI ((aI rfl (Or.inl rfl))) (aI ((aI rfl (Or.inl rfl))) (aI ((aI rfl (Or.inl rfl))) (aI ((aI rfl (Or.inl rfl))) (aI ((aI rfl (Or.inl rfl))) trivial))))))))))
        · conv => whnf
          refine ⟨?_, trivial⟩
          conv => whnf
          refine call_con (x := .int .i64 (szN o.code : Int)) rfl (by kernel_rfl) (fun r w' hR => by rw [hsz]; exact size_walk o.code w') ?_
          conv => whnf
          refine ⟨?_, trivial⟩
          conv => whnf
          refine call_memR (pre := []) (suf := [one (.int .u32 ((a + o.n) % 4294967296)), one (.int .i64 (szN o.code : Int))]) 0 n p M (valV x y k) memL_six rfl rfl (by kernel_rfl) (fun w' g gs hk hU => by rw [← hX]; exact mem_load M n p _ (szN o.code) w' g gs hU hM (word_mod _) hsb) ?_
          conv => whnf
          refine ⟨?_, trivial⟩
          conv => whnf
          exact atq_mid () (ent_same rfl (aI rfl (aI rfl (aI rfl (aI rfl (aI rfl trivial))))) (aI ((aI rfl (Or.inl rfl))) (aI ((aI rfl (Or.inl rfl))) (aI ((aI rfl (Or.inl rfl))) (aI ((aI rfl (Or.inl rfl))) (aI ((aI rfl (Or.inl rfl))) (aI ((aI rfl (Or.inl rfl))) (aI ((aI rfl (Or.inl rfl))) (aI ((aI rfl (Or.inl rfl))) (aI ((aI rfl (Or.inl rfl))) trivial))))))))))
      refine satq_vc ?_
      conv => whnf
      refine ⟨fun h => ?_, fun h => ?_⟩
      · have hkf : k = false := by simpa using h
        rw [hkf, if_neg (by decide)] at hk
        conv => whnf
        erw [cut_all hvl]
        conv => whnf
        erw [beq_len hvl, onesL_u32]
        conv => whnf
        erw [ble_of (hvl.trans hz.symm)]
        conv => whnf
        erw [vars_put hvs _ hz]
        conv => whnf
        refine hback _ _ _ (atq_ret_block (atq_ret_mid (atq_ret ?_)))
        conv => whnf
        erw [cut_all hvl]
        conv => whnf
        refine fin_objs (val_tup2 _ _) rfl (memL_sub (M := M)) (memS_ob n p M) fun w' h1 h2 => ?_
        unfold ApplyR
        rw [hk]
        exact ⟨rfl, h1, h2⟩
      · have hkt : k = true := by simpa using h
        rw [hkt, if_pos rfl] at hk
        conv => whnf
        refine ⟨_, unflat <| hcell 1 [.int .i64 o.d] (fun k u hu => by cases k with | zero => exact hu | succ k => simp at hu), ?_⟩
        conv => whnf
        refine ⟨⟨by omega, by omega⟩, ?_⟩
        conv => whnf
        erw [var_ble hvs hd]
        conv => whnf
        erw [var_ble8 hvs]
        conv => whnf
        refine hback _ _ _ (atq_block ?_)
        exact atq_mid ⟨(vs.set o.d.toNat x, M), set_ok hvs _ hxw, hk⟩ (ent_drop (aI rfl (aI rfl trivial)) (aI ((aI rfl (Or.inl rfl))) (aI ((aI rfl (Or.inl rfl))) (aI ((aI rfl (Or.inl rfl))) (aI ((aI rfl (Or.inl rfl))) (aI ((aI rfl (Or.inl rfl))) (aI ((aI rfl (Or.inl rfl))) (aI ((aI rfl (Or.inl (var_set _ _ _)))) (aI ((aI rfl (Or.inl rfl))) trivial)))))))) rfl (grp_T2 _ _ _ _ _ _ _ _ _ _ _ _ _))
    by_cases c4 : o.code = 18 ∨ o.code = 19
    · have hsz : (szN o.code : Int) = sizeI o.code := by unfold szN sizeI; rcases c4 with h | h <;> rw [h] <;> rfl
      have hsb : 1 ≤ szN o.code ∧ szN o.code ≤ 4 := by unfold szN; split <;> omega
      have hAP : applyP o vs M = ⟨vs, (M.bad ((a + o.n) % 4294967296) 2 0 (szN o.code)).isNone, M.storeM ((a + o.n) % 4294967296) (szN o.code) b⟩ := by
        rw [hae, hbe]; unfold applyP; rw [if_neg c1, if_neg c2, if_neg c3, if_pos c4]
      obtain ⟨x, y, k, hX, hk⟩ : ∃ x y k, checkV (M.bad ((a + o.n) % 4294967296) 2 0 (szN o.code)) = valV x y k ∧ (M.bad ((a + o.n) % 4294967296) 2 0 (szN o.code)).isNone = k := by
        cases M.bad ((a + o.n) % 4294967296) 2 0 (szN o.code) with
        | none => exact ⟨0, 0, true, rfl, rfl⟩
        | some z => exact ⟨0, z, false, rfl, rfl⟩
      rw [hk] at hAP
      obtain ⟨M2, hM2⟩ : ∃ M2, M2 = M.storeM ((a + o.n) % 4294967296) (szN o.code) b := ⟨_, rfl⟩
      rw [← hM2] at hAP
      refine satq_seq ?_
      conv => whnf
      refine satq_block ?_
      refine satq_seq ?_
      conv => whnf
      refine satq_cond rfl (fun h => absurd h (by rw [n1]; decide)) fun _ => ?_
      refine satq_seq ?_
      conv => whnf
      refine satq_cond rfl (fun h => absurd h (by rw [n2]; decide)) fun _ => ?_
      refine satq_mid (α := Unit) (fun _ => [(2, .p (.c (.ref 0 0))), (3, .p (.c (.ref 6 0))), (4, .p (.c (.ref 7 0))), (6, .p (.c (.ref 8 0))), (7, one (.bool false)), (8, one (.int .u32 a)), (9, one (.int .u32 b)), (10, .p (.c (.ref 9 0))), (25, one (.int .i64 o.code)), (49, one (.bool false))]) (fun _ => memL 0 n p M [.cells 53 ((opC o).map .v), .cells 45 (varsC vs), .cells 45 (varsC (List.replicate 28 0)), .cells 112 [.v (.bool (isOp o.code)), .v (.bool (hasD o.code)), .v (.bool (hasA o.code)), .v (.bool (hasB o.code)), .v (.bool (hasN o.code)), .v (.bool (leaves o.code))]]) ?_ fun _ => ?_
      · refine satq_vc ?_
        conv => whnf
        refine ⟨fun h => absurd h (by simp; omega), fun _ => ?_⟩
        have h17 : (o.code == 17) = false := by simp; omega
        conv => whnf
        exact atq_mid () (ent_same rfl (aI rfl (aI rfl (aI rfl (aI rfl (aI rfl (aI rfl (aI rfl (aI rfl (aI rfl (aI ((congrArg (fun z => one (.bool z)) h17)) trivial)))))))))) (aI ((aI rfl (Or.inl rfl))) (aI ((aI rfl (Or.inl rfl))) (aI ((aI rfl (Or.inl rfl))) (aI ((aI rfl (Or.inl rfl))) (aI ((aI rfl (Or.inl rfl))) (aI ((aI rfl (Or.inl rfl))) (aI ((aI rfl (Or.inl rfl))) (aI ((aI rfl (Or.inl rfl))) (aI ((aI rfl (Or.inl rfl))) (aI ((aI rfl (Or.inl rfl))) trivial)))))))))))
      refine satq_cond rfl (fun h => absurd h (by decide)) (fun _ => ?_)
      refine satq_mid (α := Unit) (fun _ => [(2, .p (.c (.ref 0 0))), (3, .p (.c (.ref 6 0))), (4, .p (.c (.ref 7 0))), (6, .p (.c (.ref 8 0))), (7, one (.bool false)), (8, one (.int .u32 a)), (9, one (.int .u32 b)), (10, .p (.c (.ref 9 0))), (25, one (.int .i64 o.code)), (73, one (.bool true))]) (fun _ => memL 0 n p M [.cells 53 ((opC o).map .v), .cells 45 (varsC vs), .cells 45 (varsC (List.replicate 28 0)), .cells 112 [.v (.bool (isOp o.code)), .v (.bool (hasD o.code)), .v (.bool (hasA o.code)), .v (.bool (hasB o.code)), .v (.bool (hasN o.code)), .v (.bool (leaves o.code))]]) ?_ fun _ => ?_
      · refine satq_vc ?_
        conv => whnf
        refine ⟨fun h => ?_, fun h => ?_⟩
        · conv => whnf
          exact atq_mid () (ent_same rfl (aI rfl (aI rfl (aI rfl (aI rfl (aI rfl (aI rfl (aI rfl (aI rfl (aI rfl (aI ((congrArg (fun z => one (.bool z)) h)) trivial)))))))))) (aI ((aI rfl (Or.inl rfl))) (aI ((aI rfl (Or.inl rfl))) (aI ((aI rfl (Or.inl rfl))) (aI ((aI rfl (Or.inl rfl))) (aI ((aI rfl (Or.inl rfl))) (aI ((aI rfl (Or.inl rfl))) (aI ((aI rfl (Or.inl rfl))) (aI ((aI rfl (Or.inl rfl))) (aI ((aI rfl (Or.inl rfl))) (aI ((aI rfl (Or.inl rfl))) trivial)))))))))))
        · have h17 : (o.code == 19) = true := by
            rcases c4 with e | e
            · rw [e] at h; cases h
            · rw [e]; rfl
          conv => whnf
          exact atq_mid () (ent_same rfl (aI rfl (aI rfl (aI rfl (aI rfl (aI rfl (aI rfl (aI rfl (aI rfl (aI rfl (aI ((congrArg (fun z => one (.bool z)) h17)) trivial)))))))))) (aI ((aI rfl (Or.inl rfl))) (aI ((aI rfl (Or.inl rfl))) (aI ((aI rfl (Or.inl rfl))) (aI ((aI rfl (Or.inl rfl))) (aI ((aI rfl (Or.inl rfl))) (aI ((aI rfl (Or.inl rfl))) (aI ((aI rfl (Or.inl rfl))) (aI ((aI rfl (Or.inl rfl))) (aI ((aI rfl (Or.inl rfl))) (aI ((aI rfl (Or.inl rfl))) trivial)))))))))))
      refine satq_cond rfl (fun _ => ?_) (fun h => absurd h (by decide))
      refine satq_mid (α := Unit) (fun _ => [(2, .p (.c (.ref 0 0))), (3, .p (.c (.ref 6 0))), (4, .p (.c (.ref 7 0))), (6, .p (.c (.ref 8 0))), (7, one (.bool false)), (8, one (.int .u32 a)), (9, one (.int .u32 b)), (10, .p (.c (.ref 9 0))), (25, one (.int .i64 o.code))]) (fun _ => memL 0 n p M [.cells 53 ((opC o).map .v), .cells 45 (varsC vs), .cells 45 (varsC (List.replicate 28 0)), .cells 112 [.v (.bool (isOp o.code)), .v (.bool (hasD o.code)), .v (.bool (hasA o.code)), .v (.bool (hasB o.code)), .v (.bool (hasN o.code)), .v (.bool (leaves o.code))]]) ?_ fun _ => ?_
      · refine satq_vc ?_
        conv => whnf
        refine q_not_nil rfl rfl rfl rfl ?_
        conv => whnf
        refine ⟨fun h => absurd h (by decide), fun _ => ?_⟩
        conv => whnf
        exact atq_mid () (ent_same rfl (aI rfl (aI rfl (aI rfl (aI rfl (aI rfl (aI rfl (aI rfl (aI rfl (aI rfl trivial))))))))) (aI ((aI rfl (Or.inl rfl))) (aI ((aI rfl (Or.inl rfl))) (aI ((aI rfl (Or.inl rfl))) (aI ((aI rfl (Or.inl rfl))) (aI ((aI rfl (Or.inl rfl))) (aI ((aI rfl (Or.inl rfl))) (aI ((aI rfl (Or.inl rfl))) (aI ((aI rfl (Or.inl rfl))) (aI ((aI rfl (Or.inl rfl))) (aI ((aI rfl (Or.inl rfl))) trivial)))))))))))
      refine satq_anew (memL 0 n p M [.cells 45 (varsC vs), .cells 45 (varsC (List.replicate 28 0))]) [0, 1, 2, 3, 4, 5, 7, 8] (aI ((Exists.intro _ (aI rfl (aI rfl (Or.inl rfl))))) (aI ((Exists.intro _ (aI rfl (aI rfl (Or.inl (renL_vals _ _).symm))))) (aI ((Exists.intro _ (aI rfl (aI rfl (Or.inl (renL_vals _ _).symm))))) (aI ((Exists.intro _ (aI rfl (aI rfl (Or.inl (renL_vals _ _).symm))))) (aI ((Exists.intro _ (aI rfl (aI rfl (Or.inl (renL_vals _ _).symm))))) (aI ((Exists.intro _ (aI rfl (aI rfl (Or.inl (renL_vals _ _).symm))))) (aI ((Exists.intro _ (aI rfl (aI rfl (Or.inl (renL_vals _ _).symm))))) (aI ((Exists.intro _ (aI rfl (aI rfl (Or.inl (renL_vals _ _).symm))))) trivial)))))))) (memL_bnd2 n p M _ _ _ _) rfl rfl rfl rfl fun r w1 gs hR hgl hgs hback => ?_
      obtain ⟨g6, e6, hcell⟩ := anew_cells (us := opC o) hR hgl hgs rfl 6 rfl rfl
      have hmv : ∀ (r2 : Env), (∀ i, r2.blk i = gs[i]?) → ∀ j, j < 8 → ∀ b, r.blk ([0, 1, 2, 3, 4, 5, 7, 8].getD j 0) = some b → r2.blk j = some b := fun r2 hr2 j hj b hb => by
        rw [hr2, ← hgs j hj]; exact hb
      refine ⟨[(2, .p (.c (.ref 0 0))), (3, one (.pointer (some ⟨g6, 0, none⟩))), (4, .p (.c (.ref 6 0))), (6, .p (.c (.ref 7 0))), (7, one (.bool false)), (8, one (.int .u32 a)), (9, one (.int .u32 b))], fun act r2 hr2 hfd => frDen ⟨slot_moved hfd 2 rfl (hmv r2 hr2 0 (by omega)), slot_plain hfd 3 rfl e6, slot_moved hfd 4 rfl (hmv r2 hr2 6 (by omega)), slot_moved hfd 6 rfl (hmv r2 hr2 7 (by omega)), slot_same hfd 7 rfl, slot_same hfd 8 rfl, slot_same hfd 9 rfl, trivial⟩, ?_⟩
      obtain ⟨x0, x1, x2, x3, x4, x5, x6, x7, rfl⟩ := eight hgl
      refine satq_mid (α := Unit) (fun _ => [(3, one (.pointer (some ⟨g6, 0, none⟩))), (4, .p (.c (.ref 6 0))), (6, .p (.c (.ref 7 0))), (7, one (.bool false)), (12, .p (.c (.ref 8 0)))]) (fun _ => memL 0 n p M2 [.cells 45 (varsC vs), .cells 45 (varsC (List.replicate 28 0)), .cells 119 [.v (.int .u32 x), .v (.int .u32 y), .v (.bool k)]]) ?_ fun _ => ?_
      · refine satq_vc ?_
        refine sat_anyG (.q 0 (.q 1 (.q 2 (.q 3 (.q 4 (.q 5 (.q 6 (.q 8 (.alt 7 (.alt 9 (.alt 10 (.alt 11 .done .no) .no) (.alt 10 (.alt 9 (.alt 11 .done .no) .no) .no)) (.alt 10 (.alt 7 (.alt 9 (.alt 11 .done .no) .no) .no) .no)))))))))) mixed (by kernel_rfl) (by kernel_rfl) ?_
        conv => whnf
        refine ⟨_, hcell 4 [.int .u32 o.n] (fun k u hu => by cases k with | zero => exact hu | succ k => simp at hu), ?_⟩
        conv => whnf
        refine ⟨_, wr32 _, ?_⟩
        conv => whnf
        refine ⟨_, hcell 0 [.int .i64 o.code] (fun k u hu => by cases k with | zero => exact hu | succ k => simp at hu), ?_⟩
        conv => whnf
        refine ⟨?_, ?_, trivial⟩
        · conv => whnf
          refine call_con (x := .int .i64 (szN o.code : Int)) rfl (by kernel_rfl) (fun r w' hR => by rw [hsz]; exact size_walk o.code w') ?_
          conv => whnf
          refine ⟨?_, ?_, trivial⟩
          · conv => whnf
            refine call_memW (pre := []) (suf := [one (.int .u32 ((a + o.n) % 4294967296)), one (.int .i64 (szN o.code : Int)), one (.int .u32 b)]) 0 n p M M2 (valV x y k) memL_six rfl rfl (by kernel_rfl) (fun w' g gs hk hU => by rw [← hX, hM2]; exact mem_store M n p _ (szN o.code) b w' g gs hU hM (word_mod _) hsb hbw) ?_
            conv => whnf
            refine ⟨?_, trivial⟩
            conv => whnf
            refine ⟨?_, trivial⟩
            conv => whnf
            exact atq_mid () (ent_same rfl (aI rfl (aI rfl (aI rfl (aI rfl (aI rfl trivial))))) (aI ((aI rfl (Or.inl rfl))) (aI ((aI rfl (Or.inl rfl))) (aI ((aI rfl (Or.inl rfl))) (aI ((aI rfl (Or.inl rfl))) (aI ((aI rfl (Or.inl rfl))) (aI ((aI rfl (Or.inl rfl))) (aI ((aI rfl (Or.inl rfl))) (aI ((aI rfl (Or.inl rfl))) (aI ((aI rfl (Or.inl rfl))) trivial))))))))))
          · conv => whnf
            refine ⟨?_, trivial⟩
            conv => whnf
            refine call_memW (pre := []) (suf := [one (.int .u32 ((a + o.n) % 4294967296)), one (.int .i64 (szN o.code : Int)), one (.int .u32 b)]) 0 n p M M2 (valV x y k) memL_six rfl rfl (by kernel_rfl) (fun w' g gs hk hU => by rw [← hX, hM2]; exact mem_store M n p _ (szN o.code) b w' g gs hU hM (word_mod _) hsb hbw) ?_
            conv => whnf
            refine ⟨?_, trivial⟩
            conv => whnf
            exact atq_mid () (ent_same rfl (aI rfl (aI rfl (aI rfl (aI rfl (aI rfl trivial))))) (aI ((aI rfl (Or.inl rfl))) (aI ((aI rfl (Or.inl rfl))) (aI ((aI rfl (Or.inl rfl))) (aI ((aI rfl (Or.inl rfl))) (aI ((aI rfl (Or.inl rfl))) (aI ((aI rfl (Or.inl rfl))) (aI ((aI rfl (Or.inl rfl))) (aI ((aI rfl (Or.inl rfl))) (aI ((aI rfl (Or.inl rfl))) trivial))))))))))
        · conv => whnf
          refine ⟨?_, trivial⟩
          conv => whnf
          refine call_con (x := .int .i64 (szN o.code : Int)) rfl (by kernel_rfl) (fun r w' hR => by rw [hsz]; exact size_walk o.code w') ?_
          conv => whnf
          refine ⟨?_, trivial⟩
          conv => whnf
          refine call_memW (pre := []) (suf := [one (.int .u32 ((a + o.n) % 4294967296)), one (.int .i64 (szN o.code : Int)), one (.int .u32 b)]) 0 n p M M2 (valV x y k) memL_six rfl rfl (by kernel_rfl) (fun w' g gs hk hU => by rw [← hX, hM2]; exact mem_store M n p _ (szN o.code) b w' g gs hU hM (word_mod _) hsb hbw) ?_
          conv => whnf
          refine ⟨?_, trivial⟩
          conv => whnf
          exact atq_mid () (ent_same rfl (aI rfl (aI rfl (aI rfl (aI rfl (aI rfl trivial))))) (aI ((aI rfl (Or.inl rfl))) (aI ((aI rfl (Or.inl rfl))) (aI ((aI rfl (Or.inl rfl))) (aI ((aI rfl (Or.inl rfl))) (aI ((aI rfl (Or.inl rfl))) (aI ((aI rfl (Or.inl rfl))) (aI ((aI rfl (Or.inl rfl))) (aI ((aI rfl (Or.inl rfl))) (aI ((aI rfl (Or.inl rfl))) trivial))))))))))
      refine satq_mid (α := Unit) (fun _ => [(4, .p (.c (.ref 6 0))), (6, .p (.c (.ref 7 0))), (7, one (.bool k))]) (fun _ => memL 0 n p M2 [.cells 45 (varsC vs), .cells 45 (varsC vs), .cells 119 [.v (.int .u32 x), .v (.int .u32 y), .v (.bool k)]]) ?_ fun _ => ?_
      · refine satq_vc ?_
        refine sat_anyG (.q 1 (.alt 0 (.alt 2 (.alt 3 (.q 4 .done) .no) (.alt 3 (.alt 2 (.q 4 .done) .no) .no)) (.alt 2 (.alt 0 (.alt 3 (.q 4 .done) .no) .no) .no))) mixed (by kernel_rfl) (by kernel_rfl) ?_
        conv => whnf
        refine ⟨?_, ?_, trivial⟩
        · conv => whnf
          erw [cut_all hvl]
          conv => whnf
          refine ⟨?_, ?_, trivial⟩
          · conv => whnf
            refine ⟨?_, trivial⟩
            conv => whnf
            erw [beq_len hvl, onesL_u32]
            conv => whnf
            erw [ble_of (hvl.trans hz.symm)]
            conv => whnf
            erw [vars_put hvs _ hz]
            conv => whnf
            exact atq_mid () (ent_same rfl (aI rfl (aI rfl (aI rfl trivial))) (aI ((aI rfl (Or.inl rfl))) (aI ((aI rfl (Or.inl rfl))) (aI ((aI rfl (Or.inl rfl))) (aI ((aI rfl (Or.inl rfl))) (aI ((aI rfl (Or.inl rfl))) (aI ((aI rfl (Or.inl rfl))) (aI ((aI rfl (Or.inl rfl))) (aI ((aI rfl (Or.inl rfl))) (aI ((aI rfl (Or.inl rfl))) trivial))))))))))
          · conv => whnf
            erw [beq_len hvl, onesL_u32]
            conv => whnf
            erw [ble_of (hvl.trans hz.symm)]
            conv => whnf
            erw [vars_put hvs _ hz]
            conv => whnf
            refine ⟨?_, trivial⟩
            conv => whnf
            exact atq_mid () (ent_same rfl (aI rfl (aI rfl (aI rfl trivial))) (aI ((aI rfl (Or.inl rfl))) (aI ((aI rfl (Or.inl rfl))) (aI ((aI rfl (Or.inl rfl))) (aI ((aI rfl (Or.inl rfl))) (aI ((aI rfl (Or.inl rfl))) (aI ((aI rfl (Or.inl rfl))) (aI ((aI rfl (Or.inl rfl))) (aI ((aI rfl (Or.inl rfl))) (aI ((aI rfl (Or.inl rfl))) trivial))))))))))
        · conv => whnf
          refine ⟨?_, trivial⟩
          conv => whnf
          erw [cut_all hvl]
          conv => whnf
          refine ⟨?_, trivial⟩
          conv => whnf
          erw [beq_len hvl, onesL_u32]
          conv => whnf
          erw [ble_of (hvl.trans hz.symm)]
          conv => whnf
          erw [vars_put hvs _ hz]
          conv => whnf
          exact atq_mid () (ent_same rfl (aI rfl (aI rfl (aI rfl trivial))) (aI ((aI rfl (Or.inl rfl))) (aI ((aI rfl (Or.inl rfl))) (aI ((aI rfl (Or.inl rfl))) (aI ((aI rfl (Or.inl rfl))) (aI ((aI rfl (Or.inl rfl))) (aI ((aI rfl (Or.inl rfl))) (aI ((aI rfl (Or.inl rfl))) (aI ((aI rfl (Or.inl rfl))) (aI ((aI rfl (Or.inl rfl))) trivial))))))))))
      refine satq_vc ?_
      conv => whnf
      refine hback _ _ _ (atq_ret_block (atq_ret_mid (atq_ret ?_)))
      conv => whnf
      erw [cut_all hvl]
      conv => whnf
      refine fin_objs (val_tup2 _ _) rfl (memL_sub (M := M2)) (memS_ob n p M2) fun w' h1 h2 => ?_
      unfold ApplyR
      rw [hAP]
      exact ⟨rfl, h1, h2⟩
    have m3 : (o.code == 16) = false := by simp; omega
    have m4 : (o.code == 17) = false := by simp; omega
    have m5 : (o.code == 18) = false := by simp; omega
    have m6 : (o.code == 19) = false := by simp; omega
    refine satq_vc ?_
    conv => whnf
    refine ⟨fun h => absurd h (by rw [n1]; decide), fun _ => ?_⟩
    conv => whnf
    refine ⟨fun h => absurd h (by rw [n2]; decide), fun _ => ?_⟩
    conv => whnf
    refine ⟨fun h => absurd h (by rw [m3]; decide), fun _ => ?_⟩
    conv => whnf
    refine ⟨fun h => absurd h (by rw [m4]; decide), fun _ => ?_⟩
    conv => whnf
    refine ⟨fun h => absurd h (by rw [m5]; decide), fun _ => ?_⟩
    conv => whnf
    refine ⟨fun h => absurd h (by rw [m6]; decide), fun _ => ?_⟩
    conv => whnf
    refine ⟨fun h => ?_, fun h => ?_⟩
    · have c5 : o.code = 21 := by simpa using h
      conv => whnf
      erw [cut_all hvl]
      conv => whnf
      erw [beq_len hvl, onesL_u32]
      conv => whnf
      erw [ble_of (hvl.trans hz.symm)]
      conv => whnf
      erw [vars_put hvs _ hz]
      conv => whnf
      refine atq_ret_mid (atq_ret ?_)
      conv => whnf
      erw [cut_all hvl]
      conv => whnf
      refine fin_objs (val_tup2 _ _) rfl (memL_sub (M := M)) (memS_ob n p M) fun w' h1 h2 => ?_
      unfold ApplyR
      rw [applyP_guard c5, ← hae]
      exact ⟨rfl, h1, h2⟩
    have c5 : o.code ≠ 21 := by simpa using h
    conv => whnf
    refine ⟨fun h => ?_, fun h => ?_⟩
    · have c6 : o.code = 22 := by simpa using h
      have hAP : applyP o vs M = ⟨vs, false, M⟩ := by
        unfold applyP; rw [if_neg c1, if_neg c2, if_neg c3, if_neg c4, if_neg c5, if_pos c6]
      conv => whnf
      erw [cut_all hvl]
      conv => whnf
      erw [beq_len hvl, onesL_u32]
      conv => whnf
      erw [ble_of (hvl.trans hz.symm)]
      conv => whnf
      erw [vars_put hvs _ hz]
      conv => whnf
      refine atq_ret_mid (atq_ret ?_)
      conv => whnf
      erw [cut_all hvl]
      conv => whnf
      refine fin_objs (val_tup2 _ _) rfl (memL_sub (M := M)) (memS_ob n p M) fun w' h1 h2 => ?_
      unfold ApplyR
      rw [hAP]
      exact ⟨rfl, h1, h2⟩
    have c6 : o.code ≠ 22 := by simpa using h
    conv => whnf
    have h17 : hasD o.code = true → isBin o.code = true := fun h => by
      unfold hasD at h; unfold isBin
      rw [decide_eq_true_eq] at h ⊢
      omega
    refine ⟨fun h => ?_, fun h => ?_⟩
    · have c7 := h17 h
      conv => whnf
      refine sat_tail 8 mixed (by kernel_rfl) ?_
      conv => whnf
      refine q_same (xs := [.int .i64 o.code, .int .u32 a, .int .u32 b]) (x := .int .u32 (wordOp o.code a b)) rfl (by kernel_rfl) (fun r w' hR => op_ref o.code a b w' haw hbw) ?_
      conv => whnf
      refine ⟨⟨by omega, by omega⟩, ?_⟩
      conv => whnf
      erw [var_ble hvs hd]
      conv => whnf
      erw [var_ble8 hvs]
      conv => whnf
      exact atq_mid ⟨(vs.set o.d.toNat (wordOp o.code a b), M), set_ok hvs _ (wordOp_word haw hbw), by rw [applyP_bin c7, hae, hbe]⟩ (hent _ _ _ (var_set _ _ _) rfl rfl)
    · have c7 : ¬ isBin o.code = true := fun hb => by
        have h' : 3 ≤ o.code ∧ o.code ≤ 15 := by unfold isBin at hb; simpa using hb
        have : hasD o.code = true := by unfold hasD; rw [decide_eq_true_eq]; omega
        rw [this] at h; cases h
      conv => whnf
      exact atq_mid ⟨(vs, M), hvs, by unfold applyP; rw [if_neg c1, if_neg c2, if_neg c3, if_neg c4, if_neg c5, if_neg c6, if_neg c7]⟩ (hent _ _ _ rfl rfl rfl)
  · obtain ⟨⟨vs', M'⟩, hvs', hA⟩ := y
    dsimp only at hvs' hA ⊢
    refine satq_vc ?_
    conv => whnf
    erw [cut_all (varsC_length hvs')]
    conv => whnf
    erw [beq_len (varsC_length hvs'), onesL_u32]
    conv => whnf
    erw [ble_of ((varsC_length hvs').trans hz.symm)]
    conv => whnf
    erw [vars_put hvs' _ hz]
    conv => whnf
    refine atq_ret ?_
    conv => whnf
    erw [cut_all (varsC_length hvs')]
    conv => whnf
    refine fin_objs (val_tup2 _ _) rfl (memL_sub (M := M')) (memS_ob n p M') fun w' h1 h2 => ?_
    unfold ApplyR
    rw [hA]
    exact ⟨rfl, h1, h2⟩
end Go.Proofs.Ytmjfgnnefcimiaa
namespace Go.Proofs.Ytmjfgnnefcimiaa
open Go.RowKit

theorem slAt_keeps {w0 w : World} {gs : List Nat} {A : Option Addr} {xs : List Value} (hk : OldKeeps w0 Gs.nil w gs) (h : SlAt w0 w0.heap.size A xs) : SlOld w ⟨gs, []⟩ A xs := fun j u hj => by
  obtain ⟨b, off, e1, e2, e3⟩ := h j u hj
  obtain ⟨k1, k2, k3⟩ := hk b e2 (by simp)
  refine ⟨b, off, e1, k1, ?_, ?_⟩
  · rintro (h4 | h4)
    · exact k2 h4
    · cases h4
  · rw [show w.cell? ⟨b, off + j, none⟩ = w0.cell? ⟨b, off + j, none⟩ from World.cell?_of_block (w := w0) (a := ⟨b, off + j, none⟩) k3]; exact e3
theorem avals_blk_vars (s1 s2 s3 : Value) (vs : List Int) : avals [.p (.agg [.v s1, .v s2, .v s3]), .p (.agg (varsC vs))] = some [.agg #[s1, s2, s3], varsV vs] := by
  simp only [avals, AV.val, Pc.val, valL_vals, valL, CV.val]
theorem avals_set (x : SetP) : avals [.p (.agg ((setL x).map .v))] = some [setV x] := by
  simp only [avals, AV.val, Pc.val, valL_vals]
theorem setL_length {x : SetP} (h : x.ok) : (setL x).length = 23 := by simp [h.len]
/-- A block in plain memory. -/
structure BlkAt (w : World) (b : Blk) (A1 A2 A3 : Option Addr) : Prop where
  at_ : SlAt w w.heap.size A1 (b.at_.map (.int .u32))
  pages : SlAt w w.heap.size A2 (b.pages.map (.int .i64))
  ops : OpsAt w w.heap.size A3 b.ops
theorem BlkAt.later {w w' : World} {b : Blk} {A1 A2 A3 : Option Addr} (h : BlkAt w b A1 A2 A3) (hB : Below w.heap.size w w') : BlkAt w' b A1 A2 A3 := ⟨sl_later h.at_ hB, sl_later h.pages hB, sl_later h.ops hB⟩
/-- A call that compares two memories. -/
theorem call_mem2 {w0 : World} {G : Gs} {S : List Ow} {K : AV → List Ow → Prop} (k k' n p : Nat) (M : MemP) (hM : M.ok n p) (hS : ∀ i, i < 6 → S[k + i]? = (memS k n p M)[i]?) (hS' : ∀ i, i < 6 → S[k' + i]? = (memS k' n p M)[i]?) (hK : K (one (.bool true)) S) :
    CallS Try.prog w0 G 32 [.p (.c (.ref k 0)), .p (.c (.ref k' 0))] S K := by
  refine ⟨by kernel_rfl, fun r w us hR hd => ?_⟩
  obtain ⟨u1, l1, rfl, d1, u2, l2, rfl, d2, d3⟩ := hd
  obtain rfl : l2 = [] := d3
  obtain ⟨g, hg, rfl⟩ := den_ref d1
  obtain ⟨h, hh, rfl⟩ := den_ref d2
  obtain ⟨g', gs, e1, e2⟩ := hR.objsAt k (memS 0 n p M) (memS k n p M) (by simp) hS (memS_sh k n p M) (memS_ob n p M)
  obtain ⟨h', hs, f1, f2⟩ := hR.objsAt k' (memS 0 n p M) (memS k' n p M) (by simp) hS' (memS_sh k' n p M) (memS_ob n p M)
  rw [hg] at e1; injection e1 with e1; subst e1
  rw [hh] at f1; injection f1 with f1; subst f1
  exact (mem_same M n p w g h gs hs e2 f2 hM).mono fun e w' ⟨he, hB⟩ => ⟨_, _, S, r, he, AV.of_den r _, hR.below hB, Env.le.refl r, hK⟩
theorem mem2_get (_k : Nat) (n p : Nat) (M M' : MemP) (i : Nat) (hi : i < 6) : (memS 0 n p M ++ memS 6 n p M')[0 + i]? = (memS 0 n p M)[i]? := by
  rw [Nat.zero_add]
  exact List.getElem?_append_left (l₁ := memS 0 n p M) hi
end Go.Proofs.Ytmjfgnnefcimiaa
