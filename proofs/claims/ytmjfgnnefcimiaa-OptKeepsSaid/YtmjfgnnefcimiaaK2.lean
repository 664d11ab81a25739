/- Walks: small tests on operations and numbers; a list that contains a number. -/
import Derived.Test.YtmjfgnnefcimiaaK1
namespace Go.Proofs.Ytmjfgnnefcimiaa
open Go.RowKit

set_option maxHeartbeats 400000 in
theorem pure_ir (o : BOp) (w : World) :
    Calls Try.prog 48 #[opV o] w fun e w' => e = .returned (.bool (pureB o)) ∧ Below w.heap.size w w' := by
  unfold opV
  go_enter Try.func48, Try.ntmps48
  go_wp2_with (first | (go_at_call 40; refine (writes_ir o _).mono ?_; rintro e w1 ⟨rfl, hb1⟩; obtain ⟨hc1, hf1⟩ := bcell hb1; have hz1 := hb1.size; try simp only [World.size_alloc] at hz1; have hy1_0 : w.heap.size < w1.heap.size := (by omega); have hc1_0 := fun o => hc1 (w.heap.size) o (by first | omega | (simp; done) | (simp; omega)); have hf1_0 := fun o => hf1 (w.heap.size) o (by first | omega | (simp; done) | (simp; omega))) | (go_at_call 76; refine (mayLeave_ir o _).mono ?_; rintro e w2 ⟨rfl, hb2⟩; obtain ⟨hc2, hf2⟩ := bcell hb2; have hz2 := hb2.size; try simp only [World.size_alloc, World.size_setCell, World.heap_drewN, World.size_drew] at hz2; have hy2_0 : w.heap.size < w2.heap.size := (by omega); have hc2_0 := fun o => hc2 (w.heap.size) o (by first | omega | (simp; done) | (simp; omega)); have hf2_0 := fun o => hf2 (w.heap.size) o (by first | omega | (simp; done) | (simp; omega))))
  all_goals go_ret
  all_goals exact ⟨ret_bool (by rw [Bool.eq_iff_iff]; simp [pureB, *]; try (intros; omega)), (by repeat (first | exact Below.refl _ _ | assumption | (with_reducible refine Below.drew ?_) | (with_reducible refine below_drewN ?_ _) | (with_reducible refine Below.alloc ?_ (by first | exact Nat.le_refl _ | assumption | (simp; done) | (simp; omega) | omega) _) | (with_reducible refine Below.setCell ?_ (by first | exact Nat.le_refl _ | assumption | (simp; done) | (simp; omega) | omega) _) | (with_reducible refine below_call ?_ (by assumption) (by first | exact Nat.le_refl _ | assumption | (simp; done) | (simp; omega) | omega)) | (with_reducible refine below_only ?_ (by assumption) (by first | exact Nat.le_refl _ | assumption | (simp; done) | (simp; omega) | omega) (by first | exact Nat.le_refl _ | assumption | (simp; done) | (simp; omega) | omega))))⟩

set_option maxHeartbeats 400000 in
theorem pure_ref (o : BOp) (w : World) :
    Calls Try.prog 58 #[opV o] w fun e w' => e = .returned (.bool (pureB o)) ∧ Below w.heap.size w w' := by
  unfold opV
  go_enter Try.func58, Try.ntmps58
  go_wp2_with (first | (go_at_call 81; refine (writes_ref o _).mono ?_; rintro e w2 ⟨rfl, hb2⟩; obtain ⟨hc2, hf2⟩ := bcell hb2; have hz2 := hb2.size; try simp only [World.size_alloc, World.size_setCell, World.heap_drewN, World.size_drew] at hz2; have hy2_0 : w.heap.size < w2.heap.size := (by omega); have hc2_0 := fun o => hc2 (w.heap.size) o (by first | omega | (simp; done) | (simp; omega)); have hf2_0 := fun o => hf2 (w.heap.size) o (by first | omega | (simp; done) | (simp; omega))) | (go_at_call 82; refine (mayLeave_ref o _).mono ?_; rintro e w1 ⟨rfl, hb1⟩; obtain ⟨hc1, hf1⟩ := bcell hb1; have hz1 := hb1.size; try simp only [World.size_alloc] at hz1; have hy1_0 : w.heap.size < w1.heap.size := (by omega); have hc1_0 := fun o => hc1 (w.heap.size) o (by first | omega | (simp; done) | (simp; omega)); have hf1_0 := fun o => hf1 (w.heap.size) o (by first | omega | (simp; done) | (simp; omega))))
  all_goals go_ret
  all_goals exact ⟨ret_bool (by rw [Bool.eq_iff_iff]; simp [pureB, *]; try (intros; omega)), (by repeat (first | exact Below.refl _ _ | assumption | (with_reducible refine Below.drew ?_) | (with_reducible refine below_drewN ?_ _) | (with_reducible refine Below.alloc ?_ (by first | exact Nat.le_refl _ | assumption | (simp; done) | (simp; omega) | omega) _) | (with_reducible refine Below.setCell ?_ (by first | exact Nat.le_refl _ | assumption | (simp; done) | (simp; omega) | omega) _) | (with_reducible refine below_call ?_ (by assumption) (by first | exact Nat.le_refl _ | assumption | (simp; done) | (simp; omega) | omega)) | (with_reducible refine below_only ?_ (by assumption) (by first | exact Nat.le_refl _ | assumption | (simp; done) | (simp; omega) | omega) (by first | exact Nat.le_refl _ | assumption | (simp; done) | (simp; omega) | omega))))⟩

set_option maxHeartbeats 400000 in
theorem binary_any (c : Int) (w : World) :
    Calls Try.prog 71 #[.int .i64 c] w fun e w' => e = .returned (.bool (isBin c)) ∧ w = w' := by
  go_enter Try.func71, Try.ntmps71
  go_wp2
  all_goals go_ret
  all_goals exact ⟨ret_bool (by rw [Bool.eq_iff_iff]; simp [isBin]; try omega), rfl⟩

set_option maxHeartbeats 400000 in
theorem two_any (c : Int) (w : World) :
    Calls Try.prog 46 #[.int .i64 c] w fun e w' => e = .returned (.bool (twoB c)) ∧ w = w' := by
  go_enter Try.func46, Try.ntmps46
  go_wp2_with (go_at_call 71; refine (binary_any _ _).mono ?_; rintro e w' ⟨rfl, rfl⟩)
  all_goals go_ret
  all_goals exact ⟨by simp [twoB, *], rfl⟩

set_option maxHeartbeats 400000 in
theorem guest_ref (v : Int) (w : World) :
    Calls Try.prog 83 #[.int .i64 v] w fun e w' => e = .returned (.bool (decide (0 ≤ v ∧ v ≤ 18))) ∧ w = w' := by
  go_enter Try.func83, Try.ntmps83
  go_wp2
  all_goals go_ret
  all_goals exact ⟨ret_bool (by rw [Bool.eq_iff_iff]; simp; try omega), rfl⟩

set_option maxHeartbeats 400000 in
theorem index_int (A : Option Addr) (n c : Nat) (v : Int) (xs : List Int) (w : World) (h : SlAt w w.heap.size A (xs.map (.int .i64))) (hn : xs.length = n) (hm : n ≤ 1000000000) :
    Calls Try.prog 74 #[.slice A n c, .int .i64 v] w fun e w' => ∃ r : Int, e = .returned (.int .i64 r) ∧ decide (0 ≤ r) = memI v xs ∧ w = w' := by
  have HN := Lib.hid hn
  clear hn
  go_enter Try.func74, Try.ntmps74
  go_wp2
  go_loop [8] (fun i => ∃ k : Nat, k ≤ n ∧ i = .int .i64 k ∧ Hid (∀ x ∈ xs.take k, (x == v) = false)) (fun i => n - (intOf i).toNat)
  case atStart => exact ⟨0, Nat.zero_le _, rfl, by unfold Hid; simp⟩
  case round =>
    obtain ⟨k, hk, rfl, hp⟩ := hrel
    by_cases hlt : k < n
    · obtain ⟨b, off, x, rfl, hb, hx, hc⟩ := ints_at h (by rw [HN.out]; exact hlt)
      have HX := Lib.hid hx
      clear hx h
      go_wp2
      · have hv : (v == x) = true := by assumption
        go_ret
        have he : v = x := by simpa using hv
        refine ⟨k, rfl, ?_, rfl⟩
        have hmem : x ∈ xs := List.mem_of_getElem? HX.out
        have : memI v xs = true := by unfold memI; rw [List.any_eq_true]; exact ⟨x, hmem, by simp [he]⟩
        rw [this]; simp
      · have hv : (v == x) = false := by assumption
        go_round
        case rel =>
          refine ⟨k + 1, by omega, by go_num, ?_⟩
          have hv' := hv
          have hxx := HX.out
          unfold Hid at hp ⊢
          intro y hy
          rw [List.take_add_one, List.mem_append] at hy
          rcases hy with hy | hy
          · exact hp y hy
          · rw [hxx] at hy
            simp at hy
            subst hy
            simp at hv' ⊢
            exact fun e => hv' e.symm
        case measure => simp [intOf]; omega
    · have hkn : k = n := by omega
      go_wp2
      go_ret
      refine ⟨-1, rfl, ?_, rfl⟩
      have : memI v xs = false := by
        unfold memI
        rw [List.any_eq_false]
        intro x hx
        have := hp.out x (by rw [List.take_of_length_le (by rw [HN.out]; omega)]; exact hx)
        simp [this]
      rw [this]; rfl

set_option maxHeartbeats 400000 in
theorem contains_int (A : Option Addr) (n c : Nat) (v : Int) (xs : List Int) (w : World) (h : SlAt w w.heap.size A (xs.map (.int .i64))) (hn : xs.length = n) (hm : n ≤ 1000000000) :
    Calls Try.prog 45 #[.slice A n c, .int .i64 v] w fun e w' => e = .returned (.bool (memI v xs)) ∧ w = w' := by
  have HN := Lib.hid hn
  clear hn
  have H := Lib.hid h
  clear h
  go_enter Try.func45, Try.ntmps45
  go_wp2_with (go_at_call 74; refine (index_int _ _ _ v xs _ H.out HN.out hm).mono ?_; rintro e w' ⟨r, rfl, hr, rfl⟩; have HR := Lib.hid hr; clear hr)
  go_ret
  exact ⟨by first | rfl | (simp; exact HR.out), rfl⟩

end Go.Proofs.Ytmjfgnnefcimiaa
