/- Walks: forget. -/
import Derived.Test.YtmjfgnnefcimiaaK1
import Derived.Test.YtmjfgnnefcimiaaK13
import Derived.Test.YtmjfgnnefcimiaaK3
import Derived.Test.YtmjfgnnefcimiaaK5
namespace Go.Proofs.Ytmjfgnnefcimiaa
open Go.RowKit
attribute [local irreducible] wpStill wpQuiet

section
variable {R : Value → Option (DataW Unit × List MemPlace)} {cd : Int → DataW Unit} {b n : Nat} {f : Int → Option Int} (w : World)
set_option maxHeartbeats 800000 in
theorem forget_u32 (h : IMap R cd w b n f) :
    Calls Try.prog 38 #[.map (some b)] w fun e w' => e = .returned (.tuple #[]) ∧ IMap R cd w' b n (fdel f 8) ∧ w.grownBy w' (some b) := by
  go_enter Try.func38, Try.ntmps38
  go_wp2
  go_loopw [2] (fun t W => ∃ k : Nat, k ≤ 8 ∧ t = .int .i64 (20 + (k : Int)) ∧ IMap R cd W b n (fdel f k) ∧ w.grownBy W (some b)) (fun t _ => 28 - (intOf t).toNat)
  case atStart => exact ⟨0, Nat.zero_le _, rfl, by rw [fdel_zero]; exact h, World.grownBy.refl _ _⟩
  case round =>
    obtain ⟨k, hk, rfl, hm, hg⟩ := hrel
    by_cases hlt : k < 8
    · have hkw : (Lit.int .i64 (20 + (k : Int))).wf = true := WalkArith.wf_i64 (by omega)
      have g1 : (20 : Int) + (k : Int) < 28 := by omega
      go_wp2_with (at_delete; refine wpList_imap_del _ rfl _ _ _ rfl _ Try.underlying56 rfl hm _ rfl hkw ?_; intro w1 hm1 hg1)
      go_roundw
      case rel => exact ⟨k + 1, by omega, by go_num, hm1.is (fdel_succ f k), hg.trans hg1⟩
      case measure => simp [intOf]; omega
    · have hkn : k = 8 := by omega
      have g1 : ¬ ((20 : Int) + (k : Int) < 28) := by omega
      subst hkn
      go_wp2
      go_end0
      exact ⟨rfl, hm, hg⟩
set_option maxHeartbeats 800000 in
theorem forget_int (h : IMap R cd w b n f) :
    Calls Try.prog 43 #[.map (some b)] w fun e w' => e = .returned (.tuple #[]) ∧ IMap R cd w' b n (fdel f 8) ∧ w.grownBy w' (some b) := by
  go_enter Try.func43, Try.ntmps43
  go_wp2
  go_loopw [2] (fun t W => ∃ k : Nat, k ≤ 8 ∧ t = .int .i64 (20 + (k : Int)) ∧ IMap R cd W b n (fdel f k) ∧ w.grownBy W (some b)) (fun t _ => 28 - (intOf t).toNat)
  case atStart => exact ⟨0, Nat.zero_le _, rfl, by rw [fdel_zero]; exact h, World.grownBy.refl _ _⟩
  case round =>
    obtain ⟨k, hk, rfl, hm, hg⟩ := hrel
    by_cases hlt : k < 8
    · have hkw : (Lit.int .i64 (20 + (k : Int))).wf = true := WalkArith.wf_i64 (by omega)
      have g1 : (20 : Int) + (k : Int) < 28 := by omega
      go_wp2_with (at_delete; refine wpList_imap_del _ rfl _ _ _ rfl _ Try.underlying64 rfl hm _ rfl hkw ?_; intro w1 hm1 hg1)
      go_roundw
      case rel => exact ⟨k + 1, by omega, by go_num, hm1.is (fdel_succ f k), hg.trans hg1⟩
      case measure => simp [intOf]; omega
    · have hkn : k = 8 := by omega
      have g1 : ¬ ((20 : Int) + (k : Int) < 28) := by omega
      subst hkn
      go_wp2
      go_end0
      exact ⟨rfl, hm, hg⟩
end
end Go.Proofs.Ytmjfgnnefcimiaa
