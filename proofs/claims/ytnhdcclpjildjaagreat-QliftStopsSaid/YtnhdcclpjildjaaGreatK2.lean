/- Walks: the reference's formed, first. -/
import Derived.Test.YtnhdcclpjildjaaGreatK1
namespace Go.Proofs.YtnhdcclpjildjaaGreat
open Go.RowKit

set_option maxRecDepth 100000 in
set_option maxHeartbeats 400000 in
theorem formed_ref (o : BOp) (w : World) :
  Calls Tryz.prog 75 #[opV o] w fun e w' => e = .returned (.bool (formedB o)) ∧ Below w.heap.size w w' := by
 unfold opV
 go_enter Tryz.func75, Tryz.ntmps75
 go_wp2_with (first | (go_at_call 42; refine (shapeOf_ref _ _).mono ?_; rintro e w1 ⟨rfl, hb1⟩; obtain ⟨hc1, hf1⟩ := bcell hb1; have hz1 := hb1.size; try simp only [World.size_alloc] at hz1; have hy1_0 : w.heap.size < w1.heap.size := (by omega); have hc1_0 := fun o => hc1 (w.heap.size) o (by first | omega | (simp; done) | (simp; omega)); have hf1_0 := fun o => hf1 (w.heap.size) o (by first | omega | (simp; done) | (simp; omega))) | (go_at_call 104; refine (field_ref _ _ _).mono ?_; rintro e w' ⟨rfl, rfl⟩))
 all_goals go_ret
 all_goals exact ⟨ret_bool (by simp [formedB, *]), (by repeat (first | exact Below.refl _ _ | assumption | (with_reducible refine Below.drew ?_) | (with_reducible refine below_drewN ?_ _) | (with_reducible refine Below.alloc ?_ (by first | exact Nat.le_refl _ | assumption | (simp; done) | (simp; omega) | omega) _) | (with_reducible refine Below.setCell ?_ (by first | exact Nat.le_refl _ | assumption | (simp; done) | (simp; omega) | omega) _) | (with_reducible refine below_call ?_ (by assumption) (by first | exact Nat.le_refl _ | assumption | (simp; done) | (simp; omega) | omega)) | (with_reducible refine below_only ?_ (by assumption) (by first | exact Nat.le_refl _ | assumption | (simp; done) | (simp; omega) | omega) (by first | exact Nat.le_refl _ | assumption | (simp; done) | (simp; omega) | omega))))⟩

theorem firstI_le (l : List BOp) : ∀ k : Nat, -1 ≤ firstI l k ∧ firstI l k ≤ k
 | 0 => by unfold firstI; split <;> simp
 | k + 1 => by
  unfold firstI
  have := firstI_le l k
  split
  ·omega
  ·omega
theorem firstI_nonneg {l : List BOp} (h : (l[0]?.map (·.code)) = some 20) : ∀ k : Nat, 0 ≤ firstI l k
 | 0 => by unfold firstI; rw [if_pos h]; omega
 | k + 1 => by
  unfold firstI
  have := firstI_nonneg h k
  split
  ·omega
  ·exact this
theorem firstI_hit {l : List BOp} {k : Nat} {o : BOp} (h : l[k]? = some o) (hc : o.code = 20) : firstI l k = k := by
 cases k <;> simp [firstI, h, hc]
theorem firstI_miss {l : List BOp} {k : Nat} {o : BOp} (h : l[k]? = some o) (hc : o.code ≠ 20) : firstI l k = if k = 0 then -1 else firstI l (k - 1) := by
 cases k <;> simp [firstI, h, hc]

section
variable (A1 A2 A3 : Option Addr) (n1 n2 n3 c1 c2 c3 : Nat) (l : List BOp) (i : Nat) (w : World)

set_option maxRecDepth 100000 in
set_option maxHeartbeats 400000 in
theorem first_ref (h3 : OpsAt w w.heap.size A3 l) (hl : l.length = n3) (hm : n3 ≤ 1000000) (hi : i < n3) (hz : (l[0]?.map (·.code)) = some 20) :
  Calls Tryz.prog 105 #[.agg #[.slice A1 n1 c1, .slice A2 n2 c2, .slice A3 n3 c3], .int .i64 (i : Int)] w fun e w' => e = .returned (.int .i64 (firstI l i)) ∧ Below w.heap.size w w' := by
 have HL := Lib.hid hl
 have HZ := Lib.hid hz
 clear hl hz
 go_enter Tryz.func105, Tryz.ntmps105
 go_wp2
 go_loop [1] (fun t => ∃ k : Nat, k < n3 ∧ t = .int .i64 k ∧ Hid (firstI l i = firstI l k)) (fun t => (intOf t).toNat)
 case atStart => exact ⟨i, hi, rfl, rfl⟩
 case round =>
  obtain ⟨k, hk, rfl, hq⟩ := hrel
  obtain ⟨b, off, o, rfl, hb, hx, hc, -⟩ := ops_at (k := k) h3 (by rw [HL.out]; exact hk)
  have HX := Lib.hid hx
  have g1 : (0 : Int) ≤ (k : Int) := by omega
  have g2 : (k : Int) < (n3 : Int) := by omega
  clear hx h3
  by_cases h20 : o.code = 20
  ·have e1 : (o.code != 20) = false := by simp [h20]
   have H20 := Lib.hid h20
   clear h20
   go_wp2
   go_ret
   exact ⟨ret_int (by rw [hq.out, firstI_hit HX.out H20.out]), (by repeat (first | exact Below.refl _ _ | assumption | (with_reducible refine Below.drew ?_) | (with_reducible refine below_drewN ?_ _) | (with_reducible refine Below.alloc ?_ (by first | exact Nat.le_refl _ | assumption | (simp; done) | (simp; omega) | omega) _) | (with_reducible refine Below.setCell ?_ (by first | exact Nat.le_refl _ | assumption | (simp; done) | (simp; omega) | omega) _) | (with_reducible refine below_call ?_ (by assumption) (by first | exact Nat.le_refl _ | assumption | (simp; done) | (simp; omega) | omega)) | (with_reducible refine below_only ?_ (by assumption) (by first | exact Nat.le_refl _ | assumption | (simp; done) | (simp; omega) | omega) (by first | exact Nat.le_refl _ | assumption | (simp; done) | (simp; omega) | omega))))⟩
  ·have e1 : (o.code != 20) = true := by simp [h20]
   have H20 := Lib.hid h20
   clear h20
   have hk0 : k ≠ 0 := by
    rintro rfl
    have := HZ.out
    rw [HX.out] at this
    simp at this
    exact H20.out this
   go_wp2
   go_round
   case rel =>
    refine ⟨k - 1, by omega, by congr 1; omega, ?_⟩
    unfold Hid
    rw [hq.out, firstI_miss HX.out H20.out, if_neg hk0]
   case measure => simp [intOf]; omega
end
end Go.Proofs.YtnhdcclpjildjaaGreat
