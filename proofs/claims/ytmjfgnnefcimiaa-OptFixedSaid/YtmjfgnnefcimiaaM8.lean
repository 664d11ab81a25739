/- Walks: one step of the program's validity check: an operation other than a mark (two of eight cases). Walks: the program's ir.header; the checker's step, all cases joined. Walks: the program's ir.Valid. Walks: the reference's formed, first. -/
import Derived.Test.YtmjfgnnefcimiaaM7
namespace Go.Proofs.Ytmjfgnnefcimiaa
open Go.RowKit

set_option maxRecDepth 100000 in
set_option maxHeartbeats 2000000 in
theorem next_plain6 (g : Nat) (s : Ck) (o : BOp) (w : World) (hg : Has w g (ckRow s)) (hw : s.written < 268435456) (hf : formedB o = true) (h20 : (o.code == 20) = false) (hp : placedB s o (endsB o.code) true = true)
    (h3 : (o.code == 23) = true) (h4 : leaves o.code = true) (h5 : s.changed = false) (hN' : hasN o.code = true) :
    Calls Try.prog 70 #[.pointer (some ⟨g, 0, none⟩), opV o, .bool (endsB o.code), .bool true] w (CkPost g w (ckNext s o (endsB o.code) true)) := by
  have hglt := hg.lt
  have hgl1 := lt_heap hglt
  have q0 : w.cell? ⟨g, 0, none⟩ = some (.int .i64 (s.marks : Int)) := (hg 0 _ rfl).1
  have q1 : w.cell? ⟨g, 1, none⟩ = some (.int .u32 (s.written : Int)) := (hg 1 _ rfl).1
  have q2 : w.cell? ⟨g, 2, none⟩ = some (.bool s.changed) := (hg 2 _ rfl).1
  have f0 := (hg 0 _ rfl).2
  have f1 := (hg 1 _ rfl).2
  have f2 := (hg 2 _ rfl).2
  clear hg
  have hl2 : (reads o).length ≤ 2 := by unfold reads; split <;> split <;> simp
  obtain ⟨hI, hd, ha, hb, -⟩ := formed_parts hf
  have HF := Lib.hid hf
  have HP := Lib.hid hp
  clear hf hp
  obtain ⟨n, hn⟩ : ∃ n, (reads o).length = n := ⟨_, rfl⟩
  rw [hn] at hl2
  have HN := Lib.hid hn
  clear hn
  unfold opV
  go_enter Try.func70, Try.ntmps70
  go_wp2_with (first | (go_at_call 73; refine (shapeOf_any _ _).mono ?_; rintro e w1 ⟨rfl, hb1⟩; obtain ⟨hc1, hf1⟩ := bcell hb1; have hz1 := hb1.size; try simp only [World.size_alloc] at hz1; have hy1_0 : w.heap.size < w1.heap.size := (by omega); have hc1_0 := fun o => hc1 (w.heap.size) o (by first | omega | (simp; done) | (simp; omega)); have hf1_0 := fun o => hf1 (w.heap.size) o (by first | omega | (simp; done) | (simp; omega)); have hy1_1 : g < w1.heap.size := (by omega); have hc1_1 := fun o => hc1 (g) o (by first | omega | (simp; done) | (simp; omega)); have hf1_1 := fun o => hf1 (g) o (by first | omega | (simp; done) | (simp; omega))) | (go_at_call 94; refine (field_ir _ _ _).mono ?_; rintro e w' ⟨rfl, rfl⟩) | (go_at_call 95; refine (ends_ir _ _).mono ?_; rintro e w' ⟨rfl, rfl⟩) | (go_at_call 44; refine (reads_ir o _).mono ?_; rintro e w2 ⟨r, rfl, hown, hb2⟩; rw [HN.out] at hown; obtain ⟨A, c, rfl, hs, -, -, -⟩ := own_slice hown; clear hown; obtain ⟨hc2, hf2⟩ := bcell hb2; have hz2 := hb2.size; try simp only [World.size_alloc] at hz2; have hy2_0 : w.heap.size < w2.heap.size := (by omega); have hc2_0 := fun o => hc2 (w.heap.size) o (by first | omega | (simp; done) | (simp; omega)); have hf2_0 := fun o => hf2 (w.heap.size) o (by first | omega | (simp; done) | (simp; omega)); have hy2_1 : w1.heap.size < w2.heap.size := (by omega); have hc2_1 := fun o => hc2 (w1.heap.size) o (by first | omega | (simp; done) | (simp; omega)); have hf2_1 := fun o => hf2 (w1.heap.size) o (by first | omega | (simp; done) | (simp; omega)); have hy2_2 : g < w2.heap.size := (by omega); have hc2_2 := fun o => hc2 (g) o (by first | omega | (simp; done) | (simp; omega)); have hf2_2 := fun o => hf2 (g) o (by first | omega | (simp; done) | (simp; omega))))
  go_loop [102] (fun i => ∃ k : Nat, k ≤ n ∧ i = .int .i64 k ∧ Hid (∀ x ∈ (reads o).take k, readB s x = true)) (fun i => n - (intOf i).toNat)
  case atStart => exact ⟨0, Nat.zero_le _, rfl, by unfold Hid; simp⟩
  case round =>
    obtain ⟨k, hk, rfl, hq⟩ := hrel
    by_cases hlt : k < n
    · obtain ⟨b, off, x, rfl, hbb, hx, hc⟩ := ints_at hs (by rw [HN.out]; exact hlt)
      have hx0 : 0 ≤ x := (reads_var HF.out x (List.mem_of_getElem? hx)).1
      have hx1 : x < 28 := (reads_var HF.out x (List.mem_of_getElem? hx)).2
      have HX := Lib.hid hx
      clear hx hs
      by_cases h20x : x < 20
      · go_wp2
        go_round
        case rel =>
          refine ⟨k + 1, by omega, by go_num, ?_⟩
          have hxx := HX.out
          unfold Hid at hq ⊢
          intro y hy
          rw [List.take_add_one, List.mem_append] at hy
          rcases hy with hy | hy
          · exact hq y hy
          · rw [hxx] at hy
            simp at hy
            subst hy
            simp [readB, h20x]
        case measure => simp [intOf]; omega
      · have h20y : 20 ≤ x := by omega
        clear h20x
        have hbt := bit_test s.written x.toNat (by omega)
        by_cases htb : s.written.testBit x.toNat = true
        · rw [htb] at hbt
          simp only [Bool.not_true] at hbt
          go_wp2
          go_round
          case rel =>
            refine ⟨k + 1, by omega, by go_num, ?_⟩
            have hxx := HX.out
            unfold Hid at hq ⊢
            intro y hy
            rw [List.take_add_one, List.mem_append] at hy
            rcases hy with hy | hy
            · exact hq y hy
            · rw [hxx] at hy
              simp at hy
              subst hy
              simp [readB, htb]
          case measure => simp [intOf]; omega
        · have htb' : s.written.testBit x.toNat = false := by simpa using htb
          rw [htb'] at hbt
          simp only [Bool.not_false] at hbt
          clear htb
          go_wp2
          go_ret
          refine post_none ?_ rfl (by repeat (first | exact World.grownBy.refl _ _ | assumption | (with_reducible refine only_drew ?_) | (with_reducible refine only_drewN ?_ _) | (with_reducible refine only_alloc ?_ _) | (with_reducible refine only_setCell ?_ (by first | exact .inl rfl | (right; simp; omega)) _) | (with_reducible refine only_below ?_ (by assumption) (by first | exact Nat.le_refl _ | assumption | (simp; done) | (simp; omega) | omega))))
          unfold ckNext
          rw [if_pos (by rw [HF.out, HP.out]; rfl), if_neg (by rw [h20]; simp), if_neg]
          intro hall
          rw [List.all_eq_true] at hall
          have := hall x (List.mem_of_getElem? HX.out)
          simp [readB, htb'] at this
          omega
    · have hall : Hid ((reads o).all (readB s) = true) := by
        unfold Hid
        rw [List.all_eq_true]
        intro x hx
        exact hq.out x (by rw [List.take_of_length_le (by rw [HN.out]; omega)]; exact hx)
      have hwv := writes_var HF.out
      clear hq
      obtain ⟨d, hd⟩ : ∃ d, writes o = d := ⟨_, rfl⟩
      have hwc := fun W => writes_ir o W
      rw [hd] at hwv
      simp only [hd] at hwc
      have HD := Lib.hid hd
      have HWC := Lib.hid hwc
      clear hd hwc
      by_cases hw20 : 20 ≤ d
      · have hd0 : 0 ≤ d := by omega
        have hor := bit_set s.written d.toNat (by omega) (by omega)
        cases hC : s.changed <;> cases hS : stores o.code
        · rw [hC] at q2
          have HC := Lib.hid hC
          clear hC
          go_wp2_with (go_at_call 40; refine (HWC.out _).mono ?_; rintro e w3 ⟨rfl, hb3⟩; obtain ⟨hc3, hf3⟩ := bcell hb3; have hz3 := hb3.size; try simp only [World.size_alloc, World.size_setCell, World.heap_drewN, World.size_drew] at hz3; have hy3_0 : w.heap.size < w3.heap.size := (by omega); have hc3_0 := fun o => hc3 (w.heap.size) o (by first | omega | (simp; done) | (simp; omega)); have hf3_0 := fun o => hf3 (w.heap.size) o (by first | omega | (simp; done) | (simp; omega)); have hy3_1 : w1.heap.size < w3.heap.size := (by omega); have hc3_1 := fun o => hc3 (w1.heap.size) o (by first | omega | (simp; done) | (simp; omega)); have hf3_1 := fun o => hf3 (w1.heap.size) o (by first | omega | (simp; done) | (simp; omega)); have hy3_2 : g < w3.heap.size := (by omega); have hc3_2 := fun o => hc3 (g) o (by first | omega | (simp; done) | (simp; omega)); have hf3_2 := fun o => hf3 (g) o (by first | omega | (simp; done) | (simp; omega)))
          go_region
          all_goals go_wp2
          go_ret
          exact post_some (s := ⟨s.marks, s.written ||| 2 ^ d.toNat, decide (d < 20)⟩) (by unfold ckNext; rw [if_pos (by rw [HF.out, HP.out]; rfl), if_neg (by rw [h20]; simp), if_pos hall.out, HD.out, HC.out, hS]; simp; try omega) rfl (by repeat (first | exact World.grownBy.refl _ _ | assumption | (with_reducible refine only_drew ?_) | (with_reducible refine only_drewN ?_ _) | (with_reducible refine only_alloc ?_ _) | (with_reducible refine only_setCell ?_ (by first | exact .inl rfl | (right; simp; omega)) _) | (with_reducible refine only_below ?_ (by assumption) (by first | exact Nat.le_refl _ | assumption | (simp; done) | (simp; omega) | omega)))) (has3 (by go_simp) (by go_simp) (by first | (go_simp; done) | exact World.cell?_setCell_same' _ _ _ (by go_simp)) (by go_simp) (by go_simp) (by go_simp))
        · rw [hC] at q2
          have HC := Lib.hid hC
          clear hC
          go_wp2_with (go_at_call 40; refine (HWC.out _).mono ?_; rintro e w3 ⟨rfl, hb3⟩; obtain ⟨hc3, hf3⟩ := bcell hb3; have hz3 := hb3.size; try simp only [World.size_alloc, World.size_setCell, World.heap_drewN, World.size_drew] at hz3; have hy3_0 : w.heap.size < w3.heap.size := (by omega); have hc3_0 := fun o => hc3 (w.heap.size) o (by first | omega | (simp; done) | (simp; omega)); have hf3_0 := fun o => hf3 (w.heap.size) o (by first | omega | (simp; done) | (simp; omega)); have hy3_1 : w1.heap.size < w3.heap.size := (by omega); have hc3_1 := fun o => hc3 (w1.heap.size) o (by first | omega | (simp; done) | (simp; omega)); have hf3_1 := fun o => hf3 (w1.heap.size) o (by first | omega | (simp; done) | (simp; omega)); have hy3_2 : g < w3.heap.size := (by omega); have hc3_2 := fun o => hc3 (g) o (by first | omega | (simp; done) | (simp; omega)); have hf3_2 := fun o => hf3 (g) o (by first | omega | (simp; done) | (simp; omega)))
          go_region
          all_goals go_wp2
          go_ret
          exact post_some (s := ⟨s.marks, s.written ||| 2 ^ d.toNat, true⟩) (by unfold ckNext; rw [if_pos (by rw [HF.out, HP.out]; rfl), if_neg (by rw [h20]; simp), if_pos hall.out, HD.out, HC.out, hS]; simp; try omega) rfl (by repeat (first | exact World.grownBy.refl _ _ | assumption | (with_reducible refine only_drew ?_) | (with_reducible refine only_drewN ?_ _) | (with_reducible refine only_alloc ?_ _) | (with_reducible refine only_setCell ?_ (by first | exact .inl rfl | (right; simp; omega)) _) | (with_reducible refine only_below ?_ (by assumption) (by first | exact Nat.le_refl _ | assumption | (simp; done) | (simp; omega) | omega)))) (has3 (by go_simp) (by go_simp) (by first | (go_simp; done) | exact World.cell?_setCell_same' _ _ _ (by go_simp)) (by go_simp) (by go_simp) (by go_simp))
        · rw [hC] at q2
          have HC := Lib.hid hC
          clear hC
          go_wp2_with (go_at_call 40; refine (HWC.out _).mono ?_; rintro e w3 ⟨rfl, hb3⟩; obtain ⟨hc3, hf3⟩ := bcell hb3; have hz3 := hb3.size; try simp only [World.size_alloc, World.size_setCell, World.heap_drewN, World.size_drew] at hz3; have hy3_0 : w.heap.size < w3.heap.size := (by omega); have hc3_0 := fun o => hc3 (w.heap.size) o (by first | omega | (simp; done) | (simp; omega)); have hf3_0 := fun o => hf3 (w.heap.size) o (by first | omega | (simp; done) | (simp; omega)); have hy3_1 : w1.heap.size < w3.heap.size := (by omega); have hc3_1 := fun o => hc3 (w1.heap.size) o (by first | omega | (simp; done) | (simp; omega)); have hf3_1 := fun o => hf3 (w1.heap.size) o (by first | omega | (simp; done) | (simp; omega)); have hy3_2 : g < w3.heap.size := (by omega); have hc3_2 := fun o => hc3 (g) o (by first | omega | (simp; done) | (simp; omega)); have hf3_2 := fun o => hf3 (g) o (by first | omega | (simp; done) | (simp; omega)))
          go_region
          all_goals go_wp2
          go_ret
          exact post_some (s := ⟨s.marks, s.written ||| 2 ^ d.toNat, true⟩) (by unfold ckNext; rw [if_pos (by rw [HF.out, HP.out]; rfl), if_neg (by rw [h20]; simp), if_pos hall.out, HD.out, HC.out, hS]; simp; try omega) rfl (by repeat (first | exact World.grownBy.refl _ _ | assumption | (with_reducible refine only_drew ?_) | (with_reducible refine only_drewN ?_ _) | (with_reducible refine only_alloc ?_ _) | (with_reducible refine only_setCell ?_ (by first | exact .inl rfl | (right; simp; omega)) _) | (with_reducible refine only_below ?_ (by assumption) (by first | exact Nat.le_refl _ | assumption | (simp; done) | (simp; omega) | omega)))) (has3 (by go_simp) (by go_simp) (by first | (go_simp; done) | exact World.cell?_setCell_same' _ _ _ (by go_simp)) (by go_simp) (by go_simp) (by go_simp))
        · rw [hC] at q2
          have HC := Lib.hid hC
          clear hC
          go_wp2_with (go_at_call 40; refine (HWC.out _).mono ?_; rintro e w3 ⟨rfl, hb3⟩; obtain ⟨hc3, hf3⟩ := bcell hb3; have hz3 := hb3.size; try simp only [World.size_alloc, World.size_setCell, World.heap_drewN, World.size_drew] at hz3; have hy3_0 : w.heap.size < w3.heap.size := (by omega); have hc3_0 := fun o => hc3 (w.heap.size) o (by first | omega | (simp; done) | (simp; omega)); have hf3_0 := fun o => hf3 (w.heap.size) o (by first | omega | (simp; done) | (simp; omega)); have hy3_1 : w1.heap.size < w3.heap.size := (by omega); have hc3_1 := fun o => hc3 (w1.heap.size) o (by first | omega | (simp; done) | (simp; omega)); have hf3_1 := fun o => hf3 (w1.heap.size) o (by first | omega | (simp; done) | (simp; omega)); have hy3_2 : g < w3.heap.size := (by omega); have hc3_2 := fun o => hc3 (g) o (by first | omega | (simp; done) | (simp; omega)); have hf3_2 := fun o => hf3 (g) o (by first | omega | (simp; done) | (simp; omega)))
          go_region
          all_goals go_wp2
          go_ret
          exact post_some (s := ⟨s.marks, s.written ||| 2 ^ d.toNat, true⟩) (by unfold ckNext; rw [if_pos (by rw [HF.out, HP.out]; rfl), if_neg (by rw [h20]; simp), if_pos hall.out, HD.out, HC.out, hS]; simp; try omega) rfl (by repeat (first | exact World.grownBy.refl _ _ | assumption | (with_reducible refine only_drew ?_) | (with_reducible refine only_drewN ?_ _) | (with_reducible refine only_alloc ?_ _) | (with_reducible refine only_setCell ?_ (by first | exact .inl rfl | (right; simp; omega)) _) | (with_reducible refine only_below ?_ (by assumption) (by first | exact Nat.le_refl _ | assumption | (simp; done) | (simp; omega) | omega)))) (has3 (by go_simp) (by go_simp) (by first | (go_simp; done) | exact World.cell?_setCell_same' _ _ _ (by go_simp)) (by go_simp) (by go_simp) (by go_simp))
      · have hd1 : d < 20 := by omega
        clear hw20
        by_cases hd0 : 0 ≤ d
        · cases hC : s.changed <;> cases hS : stores o.code
          · rw [hC] at q2
            have HC := Lib.hid hC
            clear hC
            go_wp2_with (go_at_call 40; refine (HWC.out _).mono ?_; rintro e w3 ⟨rfl, hb3⟩; obtain ⟨hc3, hf3⟩ := bcell hb3; have hz3 := hb3.size; try simp only [World.size_alloc, World.size_setCell, World.heap_drewN, World.size_drew] at hz3; have hy3_0 : w.heap.size < w3.heap.size := (by omega); have hc3_0 := fun o => hc3 (w.heap.size) o (by first | omega | (simp; done) | (simp; omega)); have hf3_0 := fun o => hf3 (w.heap.size) o (by first | omega | (simp; done) | (simp; omega)); have hy3_1 : w1.heap.size < w3.heap.size := (by omega); have hc3_1 := fun o => hc3 (w1.heap.size) o (by first | omega | (simp; done) | (simp; omega)); have hf3_1 := fun o => hf3 (w1.heap.size) o (by first | omega | (simp; done) | (simp; omega)); have hy3_2 : g < w3.heap.size := (by omega); have hc3_2 := fun o => hc3 (g) o (by first | omega | (simp; done) | (simp; omega)); have hf3_2 := fun o => hf3 (g) o (by first | omega | (simp; done) | (simp; omega)))
            go_ret
            exact post_some (s := ⟨s.marks, s.written, true⟩) (by unfold ckNext; rw [if_pos (by rw [HF.out, HP.out]; rfl), if_neg (by rw [h20]; simp), if_pos hall.out, HD.out, HC.out, hS]; simp; try omega) rfl (by repeat (first | exact World.grownBy.refl _ _ | assumption | (with_reducible refine only_drew ?_) | (with_reducible refine only_drewN ?_ _) | (with_reducible refine only_alloc ?_ _) | (with_reducible refine only_setCell ?_ (by first | exact .inl rfl | (right; simp; omega)) _) | (with_reducible refine only_below ?_ (by assumption) (by first | exact Nat.le_refl _ | assumption | (simp; done) | (simp; omega) | omega)))) (has3 (by go_simp) (by go_simp) (by first | (go_simp; done) | exact World.cell?_setCell_same' _ _ _ (by go_simp)) (by go_simp) (by go_simp) (by go_simp))
          · rw [hC] at q2
            have HC := Lib.hid hC
            clear hC
            go_wp2_with (go_at_call 40; refine (HWC.out _).mono ?_; rintro e w3 ⟨rfl, hb3⟩; obtain ⟨hc3, hf3⟩ := bcell hb3; have hz3 := hb3.size; try simp only [World.size_alloc, World.size_setCell, World.heap_drewN, World.size_drew] at hz3; have hy3_0 : w.heap.size < w3.heap.size := (by omega); have hc3_0 := fun o => hc3 (w.heap.size) o (by first | omega | (simp; done) | (simp; omega)); have hf3_0 := fun o => hf3 (w.heap.size) o (by first | omega | (simp; done) | (simp; omega)); have hy3_1 : w1.heap.size < w3.heap.size := (by omega); have hc3_1 := fun o => hc3 (w1.heap.size) o (by first | omega | (simp; done) | (simp; omega)); have hf3_1 := fun o => hf3 (w1.heap.size) o (by first | omega | (simp; done) | (simp; omega)); have hy3_2 : g < w3.heap.size := (by omega); have hc3_2 := fun o => hc3 (g) o (by first | omega | (simp; done) | (simp; omega)); have hf3_2 := fun o => hf3 (g) o (by first | omega | (simp; done) | (simp; omega)))
            go_ret
            exact post_some (s := ⟨s.marks, s.written, true⟩) (by unfold ckNext; rw [if_pos (by rw [HF.out, HP.out]; rfl), if_neg (by rw [h20]; simp), if_pos hall.out, HD.out, HC.out, hS]; simp; try omega) rfl (by repeat (first | exact World.grownBy.refl _ _ | assumption | (with_reducible refine only_drew ?_) | (with_reducible refine only_drewN ?_ _) | (with_reducible refine only_alloc ?_ _) | (with_reducible refine only_setCell ?_ (by first | exact .inl rfl | (right; simp; omega)) _) | (with_reducible refine only_below ?_ (by assumption) (by first | exact Nat.le_refl _ | assumption | (simp; done) | (simp; omega) | omega)))) (has3 (by go_simp) (by go_simp) (by first | (go_simp; done) | exact World.cell?_setCell_same' _ _ _ (by go_simp)) (by go_simp) (by go_simp) (by go_simp))
          · rw [hC] at q2
            have HC := Lib.hid hC
            clear hC
            go_wp2_with (go_at_call 40; refine (HWC.out _).mono ?_; rintro e w3 ⟨rfl, hb3⟩; obtain ⟨hc3, hf3⟩ := bcell hb3; have hz3 := hb3.size; try simp only [World.size_alloc, World.size_setCell, World.heap_drewN, World.size_drew] at hz3; have hy3_0 : w.heap.size < w3.heap.size := (by omega); have hc3_0 := fun o => hc3 (w.heap.size) o (by first | omega | (simp; done) | (simp; omega)); have hf3_0 := fun o => hf3 (w.heap.size) o (by first | omega | (simp; done) | (simp; omega)); have hy3_1 : w1.heap.size < w3.heap.size := (by omega); have hc3_1 := fun o => hc3 (w1.heap.size) o (by first | omega | (simp; done) | (simp; omega)); have hf3_1 := fun o => hf3 (w1.heap.size) o (by first | omega | (simp; done) | (simp; omega)); have hy3_2 : g < w3.heap.size := (by omega); have hc3_2 := fun o => hc3 (g) o (by first | omega | (simp; done) | (simp; omega)); have hf3_2 := fun o => hf3 (g) o (by first | omega | (simp; done) | (simp; omega)))
            go_ret
            exact post_some (s := ⟨s.marks, s.written, true⟩) (by unfold ckNext; rw [if_pos (by rw [HF.out, HP.out]; rfl), if_neg (by rw [h20]; simp), if_pos hall.out, HD.out, HC.out, hS]; simp; try omega) rfl (by repeat (first | exact World.grownBy.refl _ _ | assumption | (with_reducible refine only_drew ?_) | (with_reducible refine only_drewN ?_ _) | (with_reducible refine only_alloc ?_ _) | (with_reducible refine only_setCell ?_ (by first | exact .inl rfl | (right; simp; omega)) _) | (with_reducible refine only_below ?_ (by assumption) (by first | exact Nat.le_refl _ | assumption | (simp; done) | (simp; omega) | omega)))) (has3 (by go_simp) (by go_simp) (by first | (go_simp; done) | exact World.cell?_setCell_same' _ _ _ (by go_simp)) (by go_simp) (by go_simp) (by go_simp))
          · rw [hC] at q2
            have HC := Lib.hid hC
            clear hC
            go_wp2_with (go_at_call 40; refine (HWC.out _).mono ?_; rintro e w3 ⟨rfl, hb3⟩; obtain ⟨hc3, hf3⟩ := bcell hb3; have hz3 := hb3.size; try simp only [World.size_alloc, World.size_setCell, World.heap_drewN, World.size_drew] at hz3; have hy3_0 : w.heap.size < w3.heap.size := (by omega); have hc3_0 := fun o => hc3 (w.heap.size) o (by first | omega | (simp; done) | (simp; omega)); have hf3_0 := fun o => hf3 (w.heap.size) o (by first | omega | (simp; done) | (simp; omega)); have hy3_1 : w1.heap.size < w3.heap.size := (by omega); have hc3_1 := fun o => hc3 (w1.heap.size) o (by first | omega | (simp; done) | (simp; omega)); have hf3_1 := fun o => hf3 (w1.heap.size) o (by first | omega | (simp; done) | (simp; omega)); have hy3_2 : g < w3.heap.size := (by omega); have hc3_2 := fun o => hc3 (g) o (by first | omega | (simp; done) | (simp; omega)); have hf3_2 := fun o => hf3 (g) o (by first | omega | (simp; done) | (simp; omega)))
            go_ret
            exact post_some (s := ⟨s.marks, s.written, true⟩) (by unfold ckNext; rw [if_pos (by rw [HF.out, HP.out]; rfl), if_neg (by rw [h20]; simp), if_pos hall.out, HD.out, HC.out, hS]; simp; try omega) rfl (by repeat (first | exact World.grownBy.refl _ _ | assumption | (with_reducible refine only_drew ?_) | (with_reducible refine only_drewN ?_ _) | (with_reducible refine only_alloc ?_ _) | (with_reducible refine only_setCell ?_ (by first | exact .inl rfl | (right; simp; omega)) _) | (with_reducible refine only_below ?_ (by assumption) (by first | exact Nat.le_refl _ | assumption | (simp; done) | (simp; omega) | omega)))) (has3 (by go_simp) (by go_simp) (by first | (go_simp; done) | exact World.cell?_setCell_same' _ _ _ (by go_simp)) (by go_simp) (by go_simp) (by go_simp))
        · have hd2 : d < 0 := by omega
          clear hd0
          cases hC : s.changed <;> cases hS : stores o.code
          · rw [hC] at q2
            have HC := Lib.hid hC
            clear hC
            go_wp2_with (go_at_call 40; refine (HWC.out _).mono ?_; rintro e w3 ⟨rfl, hb3⟩; obtain ⟨hc3, hf3⟩ := bcell hb3; have hz3 := hb3.size; try simp only [World.size_alloc, World.size_setCell, World.heap_drewN, World.size_drew] at hz3; have hy3_0 : w.heap.size < w3.heap.size := (by omega); have hc3_0 := fun o => hc3 (w.heap.size) o (by first | omega | (simp; done) | (simp; omega)); have hf3_0 := fun o => hf3 (w.heap.size) o (by first | omega | (simp; done) | (simp; omega)); have hy3_1 : w1.heap.size < w3.heap.size := (by omega); have hc3_1 := fun o => hc3 (w1.heap.size) o (by first | omega | (simp; done) | (simp; omega)); have hf3_1 := fun o => hf3 (w1.heap.size) o (by first | omega | (simp; done) | (simp; omega)); have hy3_2 : g < w3.heap.size := (by omega); have hc3_2 := fun o => hc3 (g) o (by first | omega | (simp; done) | (simp; omega)); have hf3_2 := fun o => hf3 (g) o (by first | omega | (simp; done) | (simp; omega)))
            go_ret
            exact post_some (s := ⟨s.marks, s.written, false⟩) (by unfold ckNext; rw [if_pos (by rw [HF.out, HP.out]; rfl), if_neg (by rw [h20]; simp), if_pos hall.out, HD.out, HC.out, hS]; simp; try omega) rfl (by repeat (first | exact World.grownBy.refl _ _ | assumption | (with_reducible refine only_drew ?_) | (with_reducible refine only_drewN ?_ _) | (with_reducible refine only_alloc ?_ _) | (with_reducible refine only_setCell ?_ (by first | exact .inl rfl | (right; simp; omega)) _) | (with_reducible refine only_below ?_ (by assumption) (by first | exact Nat.le_refl _ | assumption | (simp; done) | (simp; omega) | omega)))) (has3 (by go_simp) (by go_simp) (by first | (go_simp; done) | exact World.cell?_setCell_same' _ _ _ (by go_simp)) (by go_simp) (by go_simp) (by go_simp))
          · rw [hC] at q2
            have HC := Lib.hid hC
            clear hC
            go_wp2_with (go_at_call 40; refine (HWC.out _).mono ?_; rintro e w3 ⟨rfl, hb3⟩; obtain ⟨hc3, hf3⟩ := bcell hb3; have hz3 := hb3.size; try simp only [World.size_alloc, World.size_setCell, World.heap_drewN, World.size_drew] at hz3; have hy3_0 : w.heap.size < w3.heap.size := (by omega); have hc3_0 := fun o => hc3 (w.heap.size) o (by first | omega | (simp; done) | (simp; omega)); have hf3_0 := fun o => hf3 (w.heap.size) o (by first | omega | (simp; done) | (simp; omega)); have hy3_1 : w1.heap.size < w3.heap.size := (by omega); have hc3_1 := fun o => hc3 (w1.heap.size) o (by first | omega | (simp; done) | (simp; omega)); have hf3_1 := fun o => hf3 (w1.heap.size) o (by first | omega | (simp; done) | (simp; omega)); have hy3_2 : g < w3.heap.size := (by omega); have hc3_2 := fun o => hc3 (g) o (by first | omega | (simp; done) | (simp; omega)); have hf3_2 := fun o => hf3 (g) o (by first | omega | (simp; done) | (simp; omega)))
            go_ret
            exact post_some (s := ⟨s.marks, s.written, true⟩) (by unfold ckNext; rw [if_pos (by rw [HF.out, HP.out]; rfl), if_neg (by rw [h20]; simp), if_pos hall.out, HD.out, HC.out, hS]; simp; try omega) rfl (by repeat (first | exact World.grownBy.refl _ _ | assumption | (with_reducible refine only_drew ?_) | (with_reducible refine only_drewN ?_ _) | (with_reducible refine only_alloc ?_ _) | (with_reducible refine only_setCell ?_ (by first | exact .inl rfl | (right; simp; omega)) _) | (with_reducible refine only_below ?_ (by assumption) (by first | exact Nat.le_refl _ | assumption | (simp; done) | (simp; omega) | omega)))) (has3 (by go_simp) (by go_simp) (by first | (go_simp; done) | exact World.cell?_setCell_same' _ _ _ (by go_simp)) (by go_simp) (by go_simp) (by go_simp))
          · rw [hC] at q2
            have HC := Lib.hid hC
            clear hC
            go_wp2_with (go_at_call 40; refine (HWC.out _).mono ?_; rintro e w3 ⟨rfl, hb3⟩; obtain ⟨hc3, hf3⟩ := bcell hb3; have hz3 := hb3.size; try simp only [World.size_alloc, World.size_setCell, World.heap_drewN, World.size_drew] at hz3; have hy3_0 : w.heap.size < w3.heap.size := (by omega); have hc3_0 := fun o => hc3 (w.heap.size) o (by first | omega | (simp; done) | (simp; omega)); have hf3_0 := fun o => hf3 (w.heap.size) o (by first | omega | (simp; done) | (simp; omega)); have hy3_1 : w1.heap.size < w3.heap.size := (by omega); have hc3_1 := fun o => hc3 (w1.heap.size) o (by first | omega | (simp; done) | (simp; omega)); have hf3_1 := fun o => hf3 (w1.heap.size) o (by first | omega | (simp; done) | (simp; omega)); have hy3_2 : g < w3.heap.size := (by omega); have hc3_2 := fun o => hc3 (g) o (by first | omega | (simp; done) | (simp; omega)); have hf3_2 := fun o => hf3 (g) o (by first | omega | (simp; done) | (simp; omega)))
            go_ret
            exact post_some (s := ⟨s.marks, s.written, true⟩) (by unfold ckNext; rw [if_pos (by rw [HF.out, HP.out]; rfl), if_neg (by rw [h20]; simp), if_pos hall.out, HD.out, HC.out, hS]; simp; try omega) rfl (by repeat (first | exact World.grownBy.refl _ _ | assumption | (with_reducible refine only_drew ?_) | (with_reducible refine only_drewN ?_ _) | (with_reducible refine only_alloc ?_ _) | (with_reducible refine only_setCell ?_ (by first | exact .inl rfl | (right; simp; omega)) _) | (with_reducible refine only_below ?_ (by assumption) (by first | exact Nat.le_refl _ | assumption | (simp; done) | (simp; omega) | omega)))) (has3 (by go_simp) (by go_simp) (by first | (go_simp; done) | exact World.cell?_setCell_same' _ _ _ (by go_simp)) (by go_simp) (by go_simp) (by go_simp))
          · rw [hC] at q2
            have HC := Lib.hid hC
            clear hC
            go_wp2_with (go_at_call 40; refine (HWC.out _).mono ?_; rintro e w3 ⟨rfl, hb3⟩; obtain ⟨hc3, hf3⟩ := bcell hb3; have hz3 := hb3.size; try simp only [World.size_alloc, World.size_setCell, World.heap_drewN, World.size_drew] at hz3; have hy3_0 : w.heap.size < w3.heap.size := (by omega); have hc3_0 := fun o => hc3 (w.heap.size) o (by first | omega | (simp; done) | (simp; omega)); have hf3_0 := fun o => hf3 (w.heap.size) o (by first | omega | (simp; done) | (simp; omega)); have hy3_1 : w1.heap.size < w3.heap.size := (by omega); have hc3_1 := fun o => hc3 (w1.heap.size) o (by first | omega | (simp; done) | (simp; omega)); have hf3_1 := fun o => hf3 (w1.heap.size) o (by first | omega | (simp; done) | (simp; omega)); have hy3_2 : g < w3.heap.size := (by omega); have hc3_2 := fun o => hc3 (g) o (by first | omega | (simp; done) | (simp; omega)); have hf3_2 := fun o => hf3 (g) o (by first | omega | (simp; done) | (simp; omega)))
            go_ret
            exact post_some (s := ⟨s.marks, s.written, true⟩) (by unfold ckNext; rw [if_pos (by rw [HF.out, HP.out]; rfl), if_neg (by rw [h20]; simp), if_pos hall.out, HD.out, HC.out, hS]; simp; try omega) rfl (by repeat (first | exact World.grownBy.refl _ _ | assumption | (with_reducible refine only_drew ?_) | (with_reducible refine only_drewN ?_ _) | (with_reducible refine only_alloc ?_ _) | (with_reducible refine only_setCell ?_ (by first | exact .inl rfl | (right; simp; omega)) _) | (with_reducible refine only_below ?_ (by assumption) (by first | exact Nat.le_refl _ | assumption | (simp; done) | (simp; omega) | omega)))) (has3 (by go_simp) (by go_simp) (by first | (go_simp; done) | exact World.cell?_setCell_same' _ _ _ (by go_simp)) (by go_simp) (by go_simp) (by go_simp))

set_option maxRecDepth 100000 in
set_option maxHeartbeats 2000000 in
theorem next_plain7 (g : Nat) (s : Ck) (o : BOp) (w : World) (hg : Has w g (ckRow s)) (hw : s.written < 268435456) (hf : formedB o = true) (h20 : (o.code == 20) = false) (hp : placedB s o (endsB o.code) true = true)
    (h3 : (o.code == 23) = true) (h4 : leaves o.code = true) (h5 : s.changed = false) (hN' : hasN o.code = false) (h0 : (o.n != 0) = false) :
    Calls Try.prog 70 #[.pointer (some ⟨g, 0, none⟩), opV o, .bool (endsB o.code), .bool true] w (CkPost g w (ckNext s o (endsB o.code) true)) := by
  have hglt := hg.lt
  have hgl1 := lt_heap hglt
  have q0 : w.cell? ⟨g, 0, none⟩ = some (.int .i64 (s.marks : Int)) := (hg 0 _ rfl).1
  have q1 : w.cell? ⟨g, 1, none⟩ = some (.int .u32 (s.written : Int)) := (hg 1 _ rfl).1
  have q2 : w.cell? ⟨g, 2, none⟩ = some (.bool s.changed) := (hg 2 _ rfl).1
  have f0 := (hg 0 _ rfl).2
  have f1 := (hg 1 _ rfl).2
  have f2 := (hg 2 _ rfl).2
  clear hg
  have hl2 : (reads o).length ≤ 2 := by unfold reads; split <;> split <;> simp
  obtain ⟨hI, hd, ha, hb, -⟩ := formed_parts hf
  have HF := Lib.hid hf
  have HP := Lib.hid hp
  clear hf hp
  obtain ⟨n, hn⟩ : ∃ n, (reads o).length = n := ⟨_, rfl⟩
  rw [hn] at hl2
  have HN := Lib.hid hn
  clear hn
  unfold opV
  go_enter Try.func70, Try.ntmps70
  go_wp2_with (first | (go_at_call 73; refine (shapeOf_any _ _).mono ?_; rintro e w1 ⟨rfl, hb1⟩; obtain ⟨hc1, hf1⟩ := bcell hb1; have hz1 := hb1.size; try simp only [World.size_alloc] at hz1; have hy1_0 : w.heap.size < w1.heap.size := (by omega); have hc1_0 := fun o => hc1 (w.heap.size) o (by first | omega | (simp; done) | (simp; omega)); have hf1_0 := fun o => hf1 (w.heap.size) o (by first | omega | (simp; done) | (simp; omega)); have hy1_1 : g < w1.heap.size := (by omega); have hc1_1 := fun o => hc1 (g) o (by first | omega | (simp; done) | (simp; omega)); have hf1_1 := fun o => hf1 (g) o (by first | omega | (simp; done) | (simp; omega))) | (go_at_call 94; refine (field_ir _ _ _).mono ?_; rintro e w' ⟨rfl, rfl⟩) | (go_at_call 95; refine (ends_ir _ _).mono ?_; rintro e w' ⟨rfl, rfl⟩) | (go_at_call 44; refine (reads_ir o _).mono ?_; rintro e w2 ⟨r, rfl, hown, hb2⟩; rw [HN.out] at hown; obtain ⟨A, c, rfl, hs, -, -, -⟩ := own_slice hown; clear hown; obtain ⟨hc2, hf2⟩ := bcell hb2; have hz2 := hb2.size; try simp only [World.size_alloc] at hz2; have hy2_0 : w.heap.size < w2.heap.size := (by omega); have hc2_0 := fun o => hc2 (w.heap.size) o (by first | omega | (simp; done) | (simp; omega)); have hf2_0 := fun o => hf2 (w.heap.size) o (by first | omega | (simp; done) | (simp; omega)); have hy2_1 : w1.heap.size < w2.heap.size := (by omega); have hc2_1 := fun o => hc2 (w1.heap.size) o (by first | omega | (simp; done) | (simp; omega)); have hf2_1 := fun o => hf2 (w1.heap.size) o (by first | omega | (simp; done) | (simp; omega)); have hy2_2 : g < w2.heap.size := (by omega); have hc2_2 := fun o => hc2 (g) o (by first | omega | (simp; done) | (simp; omega)); have hf2_2 := fun o => hf2 (g) o (by first | omega | (simp; done) | (simp; omega))))
  go_loop [102] (fun i => ∃ k : Nat, k ≤ n ∧ i = .int .i64 k ∧ Hid (∀ x ∈ (reads o).take k, readB s x = true)) (fun i => n - (intOf i).toNat)
  case atStart => exact ⟨0, Nat.zero_le _, rfl, by unfold Hid; simp⟩
  case round =>
    obtain ⟨k, hk, rfl, hq⟩ := hrel
    by_cases hlt : k < n
    · obtain ⟨b, off, x, rfl, hbb, hx, hc⟩ := ints_at hs (by rw [HN.out]; exact hlt)
      have hx0 : 0 ≤ x := (reads_var HF.out x (List.mem_of_getElem? hx)).1
      have hx1 : x < 28 := (reads_var HF.out x (List.mem_of_getElem? hx)).2
      have HX := Lib.hid hx
      clear hx hs
      by_cases h20x : x < 20
      · go_wp2
        go_round
        case rel =>
          refine ⟨k + 1, by omega, by go_num, ?_⟩
          have hxx := HX.out
          unfold Hid at hq ⊢
          intro y hy
          rw [List.take_add_one, List.mem_append] at hy
          rcases hy with hy | hy
          · exact hq y hy
          · rw [hxx] at hy
            simp at hy
            subst hy
            simp [readB, h20x]
        case measure => simp [intOf]; omega
      · have h20y : 20 ≤ x := by omega
        clear h20x
        have hbt := bit_test s.written x.toNat (by omega)
        by_cases htb : s.written.testBit x.toNat = true
        · rw [htb] at hbt
          simp only [Bool.not_true] at hbt
          go_wp2
          go_round
          case rel =>
            refine ⟨k + 1, by omega, by go_num, ?_⟩
            have hxx := HX.out
            unfold Hid at hq ⊢
            intro y hy
            rw [List.take_add_one, List.mem_append] at hy
            rcases hy with hy | hy
            · exact hq y hy
            · rw [hxx] at hy
              simp at hy
              subst hy
              simp [readB, htb]
          case measure => simp [intOf]; omega
        · have htb' : s.written.testBit x.toNat = false := by simpa using htb
          rw [htb'] at hbt
          simp only [Bool.not_false] at hbt
          clear htb
          go_wp2
          go_ret
          refine post_none ?_ rfl (by repeat (first | exact World.grownBy.refl _ _ | assumption | (with_reducible refine only_drew ?_) | (with_reducible refine only_drewN ?_ _) | (with_reducible refine only_alloc ?_ _) | (with_reducible refine only_setCell ?_ (by first | exact .inl rfl | (right; simp; omega)) _) | (with_reducible refine only_below ?_ (by assumption) (by first | exact Nat.le_refl _ | assumption | (simp; done) | (simp; omega) | omega))))
          unfold ckNext
          rw [if_pos (by rw [HF.out, HP.out]; rfl), if_neg (by rw [h20]; simp), if_neg]
          intro hall
          rw [List.all_eq_true] at hall
          have := hall x (List.mem_of_getElem? HX.out)
          simp [readB, htb'] at this
          omega
    · have hall : Hid ((reads o).all (readB s) = true) := by
        unfold Hid
        rw [List.all_eq_true]
        intro x hx
        exact hq.out x (by rw [List.take_of_length_le (by rw [HN.out]; omega)]; exact hx)
      have hwv := writes_var HF.out
      clear hq
      obtain ⟨d, hd⟩ : ∃ d, writes o = d := ⟨_, rfl⟩
      have hwc := fun W => writes_ir o W
      rw [hd] at hwv
      simp only [hd] at hwc
      have HD := Lib.hid hd
      have HWC := Lib.hid hwc
      clear hd hwc
      by_cases hw20 : 20 ≤ d
      · have hd0 : 0 ≤ d := by omega
        have hor := bit_set s.written d.toNat (by omega) (by omega)
        cases hC : s.changed <;> cases hS : stores o.code
        · rw [hC] at q2
          have HC := Lib.hid hC
          clear hC
          go_wp2_with (go_at_call 40; refine (HWC.out _).mono ?_; rintro e w3 ⟨rfl, hb3⟩; obtain ⟨hc3, hf3⟩ := bcell hb3; have hz3 := hb3.size; try simp only [World.size_alloc, World.size_setCell, World.heap_drewN, World.size_drew] at hz3; have hy3_0 : w.heap.size < w3.heap.size := (by omega); have hc3_0 := fun o => hc3 (w.heap.size) o (by first | omega | (simp; done) | (simp; omega)); have hf3_0 := fun o => hf3 (w.heap.size) o (by first | omega | (simp; done) | (simp; omega)); have hy3_1 : w1.heap.size < w3.heap.size := (by omega); have hc3_1 := fun o => hc3 (w1.heap.size) o (by first | omega | (simp; done) | (simp; omega)); have hf3_1 := fun o => hf3 (w1.heap.size) o (by first | omega | (simp; done) | (simp; omega)); have hy3_2 : g < w3.heap.size := (by omega); have hc3_2 := fun o => hc3 (g) o (by first | omega | (simp; done) | (simp; omega)); have hf3_2 := fun o => hf3 (g) o (by first | omega | (simp; done) | (simp; omega)))
          go_region
          all_goals go_wp2
          go_ret
          exact post_some (s := ⟨s.marks, s.written ||| 2 ^ d.toNat, decide (d < 20)⟩) (by unfold ckNext; rw [if_pos (by rw [HF.out, HP.out]; rfl), if_neg (by rw [h20]; simp), if_pos hall.out, HD.out, HC.out, hS]; simp; try omega) rfl (by repeat (first | exact World.grownBy.refl _ _ | assumption | (with_reducible refine only_drew ?_) | (with_reducible refine only_drewN ?_ _) | (with_reducible refine only_alloc ?_ _) | (with_reducible refine only_setCell ?_ (by first | exact .inl rfl | (right; simp; omega)) _) | (with_reducible refine only_below ?_ (by assumption) (by first | exact Nat.le_refl _ | assumption | (simp; done) | (simp; omega) | omega)))) (has3 (by go_simp) (by go_simp) (by first | (go_simp; done) | exact World.cell?_setCell_same' _ _ _ (by go_simp)) (by go_simp) (by go_simp) (by go_simp))
        · rw [hC] at q2
          have HC := Lib.hid hC
          clear hC
          go_wp2_with (go_at_call 40; refine (HWC.out _).mono ?_; rintro e w3 ⟨rfl, hb3⟩; obtain ⟨hc3, hf3⟩ := bcell hb3; have hz3 := hb3.size; try simp only [World.size_alloc, World.size_setCell, World.heap_drewN, World.size_drew] at hz3; have hy3_0 : w.heap.size < w3.heap.size := (by omega); have hc3_0 := fun o => hc3 (w.heap.size) o (by first | omega | (simp; done) | (simp; omega)); have hf3_0 := fun o => hf3 (w.heap.size) o (by first | omega | (simp; done) | (simp; omega)); have hy3_1 : w1.heap.size < w3.heap.size := (by omega); have hc3_1 := fun o => hc3 (w1.heap.size) o (by first | omega | (simp; done) | (simp; omega)); have hf3_1 := fun o => hf3 (w1.heap.size) o (by first | omega | (simp; done) | (simp; omega)); have hy3_2 : g < w3.heap.size := (by omega); have hc3_2 := fun o => hc3 (g) o (by first | omega | (simp; done) | (simp; omega)); have hf3_2 := fun o => hf3 (g) o (by first | omega | (simp; done) | (simp; omega)))
          go_region
          all_goals go_wp2
          go_ret
          exact post_some (s := ⟨s.marks, s.written ||| 2 ^ d.toNat, true⟩) (by unfold ckNext; rw [if_pos (by rw [HF.out, HP.out]; rfl), if_neg (by rw [h20]; simp), if_pos hall.out, HD.out, HC.out, hS]; simp; try omega) rfl (by repeat (first | exact World.grownBy.refl _ _ | assumption | (with_reducible refine only_drew ?_) | (with_reducible refine only_drewN ?_ _) | (with_reducible refine only_alloc ?_ _) | (with_reducible refine only_setCell ?_ (by first | exact .inl rfl | (right; simp; omega)) _) | (with_reducible refine only_below ?_ (by assumption) (by first | exact Nat.le_refl _ | assumption | (simp; done) | (simp; omega) | omega)))) (has3 (by go_simp) (by go_simp) (by first | (go_simp; done) | exact World.cell?_setCell_same' _ _ _ (by go_simp)) (by go_simp) (by go_simp) (by go_simp))
        · rw [hC] at q2
          have HC := Lib.hid hC
          clear hC
          go_wp2_with (go_at_call 40; refine (HWC.out _).mono ?_; rintro e w3 ⟨rfl, hb3⟩; obtain ⟨hc3, hf3⟩ := bcell hb3; have hz3 := hb3.size; try simp only [World.size_alloc, World.size_setCell, World.heap_drewN, World.size_drew] at hz3; have hy3_0 : w.heap.size < w3.heap.size := (by omega); have hc3_0 := fun o => hc3 (w.heap.size) o (by first | omega | (simp; done) | (simp; omega)); have hf3_0 := fun o => hf3 (w.heap.size) o (by first | omega | (simp; done) | (simp; omega)); have hy3_1 : w1.heap.size < w3.heap.size := (by omega); have hc3_1 := fun o => hc3 (w1.heap.size) o (by first | omega | (simp; done) | (simp; omega)); have hf3_1 := fun o => hf3 (w1.heap.size) o (by first | omega | (simp; done) | (simp; omega)); have hy3_2 : g < w3.heap.size := (by omega); have hc3_2 := fun o => hc3 (g) o (by first | omega | (simp; done) | (simp; omega)); have hf3_2 := fun o => hf3 (g) o (by first | omega | (simp; done) | (simp; omega)))
          go_region
          all_goals go_wp2
          go_ret
          exact post_some (s := ⟨s.marks, s.written ||| 2 ^ d.toNat, true⟩) (by unfold ckNext; rw [if_pos (by rw [HF.out, HP.out]; rfl), if_neg (by rw [h20]; simp), if_pos hall.out, HD.out, HC.out, hS]; simp; try omega) rfl (by repeat (first | exact World.grownBy.refl _ _ | assumption | (with_reducible refine only_drew ?_) | (with_reducible refine only_drewN ?_ _) | (with_reducible refine only_alloc ?_ _) | (with_reducible refine only_setCell ?_ (by first | exact .inl rfl | (right; simp; omega)) _) | (with_reducible refine only_below ?_ (by assumption) (by first | exact Nat.le_refl _ | assumption | (simp; done) | (simp; omega) | omega)))) (has3 (by go_simp) (by go_simp) (by first | (go_simp; done) | exact World.cell?_setCell_same' _ _ _ (by go_simp)) (by go_simp) (by go_simp) (by go_simp))
        · rw [hC] at q2
          have HC := Lib.hid hC
          clear hC
          go_wp2_with (go_at_call 40; refine (HWC.out _).mono ?_; rintro e w3 ⟨rfl, hb3⟩; obtain ⟨hc3, hf3⟩ := bcell hb3; have hz3 := hb3.size; try simp only [World.size_alloc, World.size_setCell, World.heap_drewN, World.size_drew] at hz3; have hy3_0 : w.heap.size < w3.heap.size := (by omega); have hc3_0 := fun o => hc3 (w.heap.size) o (by first | omega | (simp; done) | (simp; omega)); have hf3_0 := fun o => hf3 (w.heap.size) o (by first | omega | (simp; done) | (simp; omega)); have hy3_1 : w1.heap.size < w3.heap.size := (by omega); have hc3_1 := fun o => hc3 (w1.heap.size) o (by first | omega | (simp; done) | (simp; omega)); have hf3_1 := fun o => hf3 (w1.heap.size) o (by first | omega | (simp; done) | (simp; omega)); have hy3_2 : g < w3.heap.size := (by omega); have hc3_2 := fun o => hc3 (g) o (by first | omega | (simp; done) | (simp; omega)); have hf3_2 := fun o => hf3 (g) o (by first | omega | (simp; done) | (simp; omega)))
          go_region
          all_goals go_wp2
          go_ret
          exact post_some (s := ⟨s.marks, s.written ||| 2 ^ d.toNat, true⟩) (by unfold ckNext; rw [if_pos (by rw [HF.out, HP.out]; rfl), if_neg (by rw [h20]; simp), if_pos hall.out, HD.out, HC.out, hS]; simp; try omega) rfl (by repeat (first | exact World.grownBy.refl _ _ | assumption | (with_reducible refine only_drew ?_) | (with_reducible refine only_drewN ?_ _) | (with_reducible refine only_alloc ?_ _) | (with_reducible refine only_setCell ?_ (by first | exact .inl rfl | (right; simp; omega)) _) | (with_reducible refine only_below ?_ (by assumption) (by first | exact Nat.le_refl _ | assumption | (simp; done) | (simp; omega) | omega)))) (has3 (by go_simp) (by go_simp) (by first | (go_simp; done) | exact World.cell?_setCell_same' _ _ _ (by go_simp)) (by go_simp) (by go_simp) (by go_simp))
      · have hd1 : d < 20 := by omega
        clear hw20
        by_cases hd0 : 0 ≤ d
        · cases hC : s.changed <;> cases hS : stores o.code
          · rw [hC] at q2
            have HC := Lib.hid hC
            clear hC
            go_wp2_with (go_at_call 40; refine (HWC.out _).mono ?_; rintro e w3 ⟨rfl, hb3⟩; obtain ⟨hc3, hf3⟩ := bcell hb3; have hz3 := hb3.size; try simp only [World.size_alloc, World.size_setCell, World.heap_drewN, World.size_drew] at hz3; have hy3_0 : w.heap.size < w3.heap.size := (by omega); have hc3_0 := fun o => hc3 (w.heap.size) o (by first | omega | (simp; done) | (simp; omega)); have hf3_0 := fun o => hf3 (w.heap.size) o (by first | omega | (simp; done) | (simp; omega)); have hy3_1 : w1.heap.size < w3.heap.size := (by omega); have hc3_1 := fun o => hc3 (w1.heap.size) o (by first | omega | (simp; done) | (simp; omega)); have hf3_1 := fun o => hf3 (w1.heap.size) o (by first | omega | (simp; done) | (simp; omega)); have hy3_2 : g < w3.heap.size := (by omega); have hc3_2 := fun o => hc3 (g) o (by first | omega | (simp; done) | (simp; omega)); have hf3_2 := fun o => hf3 (g) o (by first | omega | (simp; done) | (simp; omega)))
            go_ret
            exact post_some (s := ⟨s.marks, s.written, true⟩) (by unfold ckNext; rw [if_pos (by rw [HF.out, HP.out]; rfl), if_neg (by rw [h20]; simp), if_pos hall.out, HD.out, HC.out, hS]; simp; try omega) rfl (by repeat (first | exact World.grownBy.refl _ _ | assumption | (with_reducible refine only_drew ?_) | (with_reducible refine only_drewN ?_ _) | (with_reducible refine only_alloc ?_ _) | (with_reducible refine only_setCell ?_ (by first | exact .inl rfl | (right; simp; omega)) _) | (with_reducible refine only_below ?_ (by assumption) (by first | exact Nat.le_refl _ | assumption | (simp; done) | (simp; omega) | omega)))) (has3 (by go_simp) (by go_simp) (by first | (go_simp; done) | exact World.cell?_setCell_same' _ _ _ (by go_simp)) (by go_simp) (by go_simp) (by go_simp))
          · rw [hC] at q2
            have HC := Lib.hid hC
            clear hC
            go_wp2_with (go_at_call 40; refine (HWC.out _).mono ?_; rintro e w3 ⟨rfl, hb3⟩; obtain ⟨hc3, hf3⟩ := bcell hb3; have hz3 := hb3.size; try simp only [World.size_alloc, World.size_setCell, World.heap_drewN, World.size_drew] at hz3; have hy3_0 : w.heap.size < w3.heap.size := (by omega); have hc3_0 := fun o => hc3 (w.heap.size) o (by first | omega | (simp; done) | (simp; omega)); have hf3_0 := fun o => hf3 (w.heap.size) o (by first | omega | (simp; done) | (simp; omega)); have hy3_1 : w1.heap.size < w3.heap.size := (by omega); have hc3_1 := fun o => hc3 (w1.heap.size) o (by first | omega | (simp; done) | (simp; omega)); have hf3_1 := fun o => hf3 (w1.heap.size) o (by first | omega | (simp; done) | (simp; omega)); have hy3_2 : g < w3.heap.size := (by omega); have hc3_2 := fun o => hc3 (g) o (by first | omega | (simp; done) | (simp; omega)); have hf3_2 := fun o => hf3 (g) o (by first | omega | (simp; done) | (simp; omega)))
            go_ret
            exact post_some (s := ⟨s.marks, s.written, true⟩) (by unfold ckNext; rw [if_pos (by rw [HF.out, HP.out]; rfl), if_neg (by rw [h20]; simp), if_pos hall.out, HD.out, HC.out, hS]; simp; try omega) rfl (by repeat (first | exact World.grownBy.refl _ _ | assumption | (with_reducible refine only_drew ?_) | (with_reducible refine only_drewN ?_ _) | (with_reducible refine only_alloc ?_ _) | (with_reducible refine only_setCell ?_ (by first | exact .inl rfl | (right; simp; omega)) _) | (with_reducible refine only_below ?_ (by assumption) (by first | exact Nat.le_refl _ | assumption | (simp; done) | (simp; omega) | omega)))) (has3 (by go_simp) (by go_simp) (by first | (go_simp; done) | exact World.cell?_setCell_same' _ _ _ (by go_simp)) (by go_simp) (by go_simp) (by go_simp))
          · rw [hC] at q2
            have HC := Lib.hid hC
            clear hC
            go_wp2_with (go_at_call 40; refine (HWC.out _).mono ?_; rintro e w3 ⟨rfl, hb3⟩; obtain ⟨hc3, hf3⟩ := bcell hb3; have hz3 := hb3.size; try simp only [World.size_alloc, World.size_setCell, World.heap_drewN, World.size_drew] at hz3; have hy3_0 : w.heap.size < w3.heap.size := (by omega); have hc3_0 := fun o => hc3 (w.heap.size) o (by first | omega | (simp; done) | (simp; omega)); have hf3_0 := fun o => hf3 (w.heap.size) o (by first | omega | (simp; done) | (simp; omega)); have hy3_1 : w1.heap.size < w3.heap.size := (by omega); have hc3_1 := fun o => hc3 (w1.heap.size) o (by first | omega | (simp; done) | (simp; omega)); have hf3_1 := fun o => hf3 (w1.heap.size) o (by first | omega | (simp; done) | (simp; omega)); have hy3_2 : g < w3.heap.size := (by omega); have hc3_2 := fun o => hc3 (g) o (by first | omega | (simp; done) | (simp; omega)); have hf3_2 := fun o => hf3 (g) o (by first | omega | (simp; done) | (simp; omega)))
            go_ret
            exact post_some (s := ⟨s.marks, s.written, true⟩) (by unfold ckNext; rw [if_pos (by rw [HF.out, HP.out]; rfl), if_neg (by rw [h20]; simp), if_pos hall.out, HD.out, HC.out, hS]; simp; try omega) rfl (by repeat (first | exact World.grownBy.refl _ _ | assumption | (with_reducible refine only_drew ?_) | (with_reducible refine only_drewN ?_ _) | (with_reducible refine only_alloc ?_ _) | (with_reducible refine only_setCell ?_ (by first | exact .inl rfl | (right; simp; omega)) _) | (with_reducible refine only_below ?_ (by assumption) (by first | exact Nat.le_refl _ | assumption | (simp; done) | (simp; omega) | omega)))) (has3 (by go_simp) (by go_simp) (by first | (go_simp; done) | exact World.cell?_setCell_same' _ _ _ (by go_simp)) (by go_simp) (by go_simp) (by go_simp))
          · rw [hC] at q2
            have HC := Lib.hid hC
            clear hC
            go_wp2_with (go_at_call 40; refine (HWC.out _).mono ?_; rintro e w3 ⟨rfl, hb3⟩; obtain ⟨hc3, hf3⟩ := bcell hb3; have hz3 := hb3.size; try simp only [World.size_alloc, World.size_setCell, World.heap_drewN, World.size_drew] at hz3; have hy3_0 : w.heap.size < w3.heap.size := (by omega); have hc3_0 := fun o => hc3 (w.heap.size) o (by first | omega | (simp; done) | (simp; omega)); have hf3_0 := fun o => hf3 (w.heap.size) o (by first | omega | (simp; done) | (simp; omega)); have hy3_1 : w1.heap.size < w3.heap.size := (by omega); have hc3_1 := fun o => hc3 (w1.heap.size) o (by first | omega | (simp; done) | (simp; omega)); have hf3_1 := fun o => hf3 (w1.heap.size) o (by first | omega | (simp; done) | (simp; omega)); have hy3_2 : g < w3.heap.size := (by omega); have hc3_2 := fun o => hc3 (g) o (by first | omega | (simp; done) | (simp; omega)); have hf3_2 := fun o => hf3 (g) o (by first | omega | (simp; done) | (simp; omega)))
            go_ret
            exact post_some (s := ⟨s.marks, s.written, true⟩) (by unfold ckNext; rw [if_pos (by rw [HF.out, HP.out]; rfl), if_neg (by rw [h20]; simp), if_pos hall.out, HD.out, HC.out, hS]; simp; try omega) rfl (by repeat (first | exact World.grownBy.refl _ _ | assumption | (with_reducible refine only_drew ?_) | (with_reducible refine only_drewN ?_ _) | (with_reducible refine only_alloc ?_ _) | (with_reducible refine only_setCell ?_ (by first | exact .inl rfl | (right; simp; omega)) _) | (with_reducible refine only_below ?_ (by assumption) (by first | exact Nat.le_refl _ | assumption | (simp; done) | (simp; omega) | omega)))) (has3 (by go_simp) (by go_simp) (by first | (go_simp; done) | exact World.cell?_setCell_same' _ _ _ (by go_simp)) (by go_simp) (by go_simp) (by go_simp))
        · have hd2 : d < 0 := by omega
          clear hd0
          cases hC : s.changed <;> cases hS : stores o.code
          · rw [hC] at q2
            have HC := Lib.hid hC
            clear hC
            go_wp2_with (go_at_call 40; refine (HWC.out _).mono ?_; rintro e w3 ⟨rfl, hb3⟩; obtain ⟨hc3, hf3⟩ := bcell hb3; have hz3 := hb3.size; try simp only [World.size_alloc, World.size_setCell, World.heap_drewN, World.size_drew] at hz3; have hy3_0 : w.heap.size < w3.heap.size := (by omega); have hc3_0 := fun o => hc3 (w.heap.size) o (by first | omega | (simp; done) | (simp; omega)); have hf3_0 := fun o => hf3 (w.heap.size) o (by first | omega | (simp; done) | (simp; omega)); have hy3_1 : w1.heap.size < w3.heap.size := (by omega); have hc3_1 := fun o => hc3 (w1.heap.size) o (by first | omega | (simp; done) | (simp; omega)); have hf3_1 := fun o => hf3 (w1.heap.size) o (by first | omega | (simp; done) | (simp; omega)); have hy3_2 : g < w3.heap.size := (by omega); have hc3_2 := fun o => hc3 (g) o (by first | omega | (simp; done) | (simp; omega)); have hf3_2 := fun o => hf3 (g) o (by first | omega | (simp; done) | (simp; omega)))
            go_ret
            exact post_some (s := ⟨s.marks, s.written, false⟩) (by unfold ckNext; rw [if_pos (by rw [HF.out, HP.out]; rfl), if_neg (by rw [h20]; simp), if_pos hall.out, HD.out, HC.out, hS]; simp; try omega) rfl (by repeat (first | exact World.grownBy.refl _ _ | assumption | (with_reducible refine only_drew ?_) | (with_reducible refine only_drewN ?_ _) | (with_reducible refine only_alloc ?_ _) | (with_reducible refine only_setCell ?_ (by first | exact .inl rfl | (right; simp; omega)) _) | (with_reducible refine only_below ?_ (by assumption) (by first | exact Nat.le_refl _ | assumption | (simp; done) | (simp; omega) | omega)))) (has3 (by go_simp) (by go_simp) (by first | (go_simp; done) | exact World.cell?_setCell_same' _ _ _ (by go_simp)) (by go_simp) (by go_simp) (by go_simp))
          · rw [hC] at q2
            have HC := Lib.hid hC
            clear hC
            go_wp2_with (go_at_call 40; refine (HWC.out _).mono ?_; rintro e w3 ⟨rfl, hb3⟩; obtain ⟨hc3, hf3⟩ := bcell hb3; have hz3 := hb3.size; try simp only [World.size_alloc, World.size_setCell, World.heap_drewN, World.size_drew] at hz3; have hy3_0 : w.heap.size < w3.heap.size := (by omega); have hc3_0 := fun o => hc3 (w.heap.size) o (by first | omega | (simp; done) | (simp; omega)); have hf3_0 := fun o => hf3 (w.heap.size) o (by first | omega | (simp; done) | (simp; omega)); have hy3_1 : w1.heap.size < w3.heap.size := (by omega); have hc3_1 := fun o => hc3 (w1.heap.size) o (by first | omega | (simp; done) | (simp; omega)); have hf3_1 := fun o => hf3 (w1.heap.size) o (by first | omega | (simp; done) | (simp; omega)); have hy3_2 : g < w3.heap.size := (by omega); have hc3_2 := fun o => hc3 (g) o (by first | omega | (simp; done) | (simp; omega)); have hf3_2 := fun o => hf3 (g) o (by first | omega | (simp; done) | (simp; omega)))
            go_ret
            exact post_some (s := ⟨s.marks, s.written, true⟩) (by unfold ckNext; rw [if_pos (by rw [HF.out, HP.out]; rfl), if_neg (by rw [h20]; simp), if_pos hall.out, HD.out, HC.out, hS]; simp; try omega) rfl (by repeat (first | exact World.grownBy.refl _ _ | assumption | (with_reducible refine only_drew ?_) | (with_reducible refine only_drewN ?_ _) | (with_reducible refine only_alloc ?_ _) | (with_reducible refine only_setCell ?_ (by first | exact .inl rfl | (right; simp; omega)) _) | (with_reducible refine only_below ?_ (by assumption) (by first | exact Nat.le_refl _ | assumption | (simp; done) | (simp; omega) | omega)))) (has3 (by go_simp) (by go_simp) (by first | (go_simp; done) | exact World.cell?_setCell_same' _ _ _ (by go_simp)) (by go_simp) (by go_simp) (by go_simp))
          · rw [hC] at q2
            have HC := Lib.hid hC
            clear hC
            go_wp2_with (go_at_call 40; refine (HWC.out _).mono ?_; rintro e w3 ⟨rfl, hb3⟩; obtain ⟨hc3, hf3⟩ := bcell hb3; have hz3 := hb3.size; try simp only [World.size_alloc, World.size_setCell, World.heap_drewN, World.size_drew] at hz3; have hy3_0 : w.heap.size < w3.heap.size := (by omega); have hc3_0 := fun o => hc3 (w.heap.size) o (by first | omega | (simp; done) | (simp; omega)); have hf3_0 := fun o => hf3 (w.heap.size) o (by first | omega | (simp; done) | (simp; omega)); have hy3_1 : w1.heap.size < w3.heap.size := (by omega); have hc3_1 := fun o => hc3 (w1.heap.size) o (by first | omega | (simp; done) | (simp; omega)); have hf3_1 := fun o => hf3 (w1.heap.size) o (by first | omega | (simp; done) | (simp; omega)); have hy3_2 : g < w3.heap.size := (by omega); have hc3_2 := fun o => hc3 (g) o (by first | omega | (simp; done) | (simp; omega)); have hf3_2 := fun o => hf3 (g) o (by first | omega | (simp; done) | (simp; omega)))
            go_ret
            exact post_some (s := ⟨s.marks, s.written, true⟩) (by unfold ckNext; rw [if_pos (by rw [HF.out, HP.out]; rfl), if_neg (by rw [h20]; simp), if_pos hall.out, HD.out, HC.out, hS]; simp; try omega) rfl (by repeat (first | exact World.grownBy.refl _ _ | assumption | (with_reducible refine only_drew ?_) | (with_reducible refine only_drewN ?_ _) | (with_reducible refine only_alloc ?_ _) | (with_reducible refine only_setCell ?_ (by first | exact .inl rfl | (right; simp; omega)) _) | (with_reducible refine only_below ?_ (by assumption) (by first | exact Nat.le_refl _ | assumption | (simp; done) | (simp; omega) | omega)))) (has3 (by go_simp) (by go_simp) (by first | (go_simp; done) | exact World.cell?_setCell_same' _ _ _ (by go_simp)) (by go_simp) (by go_simp) (by go_simp))
          · rw [hC] at q2
            have HC := Lib.hid hC
            clear hC
            go_wp2_with (go_at_call 40; refine (HWC.out _).mono ?_; rintro e w3 ⟨rfl, hb3⟩; obtain ⟨hc3, hf3⟩ := bcell hb3; have hz3 := hb3.size; try simp only [World.size_alloc, World.size_setCell, World.heap_drewN, World.size_drew] at hz3; have hy3_0 : w.heap.size < w3.heap.size := (by omega); have hc3_0 := fun o => hc3 (w.heap.size) o (by first | omega | (simp; done) | (simp; omega)); have hf3_0 := fun o => hf3 (w.heap.size) o (by first | omega | (simp; done) | (simp; omega)); have hy3_1 : w1.heap.size < w3.heap.size := (by omega); have hc3_1 := fun o => hc3 (w1.heap.size) o (by first | omega | (simp; done) | (simp; omega)); have hf3_1 := fun o => hf3 (w1.heap.size) o (by first | omega | (simp; done) | (simp; omega)); have hy3_2 : g < w3.heap.size := (by omega); have hc3_2 := fun o => hc3 (g) o (by first | omega | (simp; done) | (simp; omega)); have hf3_2 := fun o => hf3 (g) o (by first | omega | (simp; done) | (simp; omega)))
            go_ret
            exact post_some (s := ⟨s.marks, s.written, true⟩) (by unfold ckNext; rw [if_pos (by rw [HF.out, HP.out]; rfl), if_neg (by rw [h20]; simp), if_pos hall.out, HD.out, HC.out, hS]; simp; try omega) rfl (by repeat (first | exact World.grownBy.refl _ _ | assumption | (with_reducible refine only_drew ?_) | (with_reducible refine only_drewN ?_ _) | (with_reducible refine only_alloc ?_ _) | (with_reducible refine only_setCell ?_ (by first | exact .inl rfl | (right; simp; omega)) _) | (with_reducible refine only_below ?_ (by assumption) (by first | exact Nat.le_refl _ | assumption | (simp; done) | (simp; omega) | omega)))) (has3 (by go_simp) (by go_simp) (by first | (go_simp; done) | exact World.cell?_setCell_same' _ _ _ (by go_simp)) (by go_simp) (by go_simp) (by go_simp))

end Go.Proofs.Ytmjfgnnefcimiaa
namespace Go.Proofs.Ytmjfgnnefcimiaa
open Go.RowKit

theorem next_any (g : Nat) (s : Ck) (o : BOp) (last exit : Bool) (w : World) (hg : Has w g (ckRow s)) (hm : s.marks ≤ 1000000) (hw : s.written < 268435456) :
    Calls Try.prog 70 #[.pointer (some ⟨g, 0, none⟩), opV o, .bool last, .bool exit] w (CkPost g w (ckNext s o last exit)) := by
  by_cases hf : formedB o = true
  · by_cases hp : placedB s o last exit = true
    · have hl : last = endsB o.code := by
        unfold placedB at hp
        simp only [Bool.and_eq_true] at hp
        have := hp.1.1
        simp at this
        exact this.symm
      subst hl
      by_cases h20 : o.code = 20
      · obtain ⟨code, d, a, b, n⟩ := o
        simp only at h20
        subst h20
        obtain ⟨hI, hd, ha, hb, hN⟩ := formed_parts hf
        have e1 : d = 0 := by simpa [hasD, fieldB] using hd
        have e2 : a = 0 := by simpa [hasA, fieldB] using ha
        have e3 : b = 0 := by simpa [hasB, fieldB] using hb
        subst e1; subst e2; subst e3
        exact next_mark g s exit n w hg hm
      · have h20' : (o.code == 20) = false := by simpa using h20
        obtain ⟨hI, hd, ha, hb, hN⟩ := formed_parts hf
        have h3 : (o.code == 23) = false ∨ ((o.code == 23) = true ∧ exit = true) := by
          unfold placedB at hp
          cases hx : (o.code == 23) <;> cases exit <;> simp_all
        have h4 : leaves o.code = false ∨ (leaves o.code = true ∧ s.changed = false) := by
          unfold placedB at hp
          cases hx : leaves o.code <;> cases hy : s.changed <;> simp_all
        rcases h3 with h3 | ⟨h3, rfl⟩ <;> rcases h4 with h4 | ⟨h4, h5⟩ <;> rcases hN with hN | ⟨hN, h0⟩
        · exact next_plain0 g s o exit w hg hw hf h20' hp h3 h4 hN
        · exact next_plain1 g s o exit w hg hw hf h20' hp h3 h4 hN h0
        · exact next_plain2 g s o exit w hg hw hf h20' hp h3 h4 h5 hN
        · exact next_plain3 g s o exit w hg hw hf h20' hp h3 h4 h5 hN h0
        · exact next_plain4 g s o w hg hw hf h20' hp h3 h4 hN
        · exact next_plain5 g s o w hg hw hf h20' hp h3 h4 hN h0
        · exact next_plain6 g s o w hg hw hf h20' hp h3 h4 h5 hN
        · exact next_plain7 g s o w hg hw hf h20' hp h3 h4 h5 hN h0
    · exact next_unplaced g s o last exit w hg hf (by simpa using hp)
  · exact next_unformed g s o last exit w hg (by simpa using hf)

theorem ckNext_bounds {s s' : Ck} {o : BOp} {last exit : Bool} (h : ckNext s o last exit = some s') (hw : s.written < 268435456) : s'.marks ≤ s.marks + 1 ∧ s'.written < 268435456 := by
  unfold ckNext at h
  split at h
  · rename_i hc
    simp only [Bool.and_eq_true] at hc
    have hv := writes_var hc.1
    split at h
    · split at h
      · cases h; exact ⟨Nat.le_refl _, by simp⟩
      · cases h
    · split at h
      · cases h
        refine ⟨by simp, ?_⟩
        show (if 20 ≤ writes o then s.written ||| 2 ^ (writes o).toNat else s.written) < 268435456
        split
        · exact Nat.or_lt_two_pow (n := 28) hw (Nat.pow_lt_pow_right (by omega) (by omega))
        · exact hw
      · cases h
  · cases h

/-! ir.header -/
def prevOf (l : List Int) (k : Nat) : Option Int := if k = 0 then none else l[k - 1]?
theorem pages_step {l : List Int} {k : Nat} {p : Int} (h : l[k]? = some p) :
    pagesFrom (prevOf l k) (l.drop k) = (decide (0 ≤ p ∧ p < 4096) && (match prevOf l k with | none => true | some q => decide (q < p)) && pagesFrom (prevOf l (k + 1)) (l.drop (k + 1))) := by
  have hk : k < l.length := by
    rcases Nat.lt_or_ge k l.length with h1 | h1
    · exact h1
    · rw [List.getElem?_eq_none h1] at h; cases h
  rw [List.drop_eq_getElem_cons hk]
  have e : l[k] = p := by rw [List.getElem?_eq_getElem hk] at h; injection h
  rw [e]
  have e2 : prevOf l (k + 1) = some p := by simp [prevOf, h]
  rw [e2]
  rfl

theorem header_pages {b : Blk} (h : pagesFrom none b.pages = false) : headerB b = false := by simp [headerB, h]
theorem header_false {b : Blk} (h : ¬(1 ≤ b.at_.length ∧ b.at_.length ≤ 64 ∧ 1 ≤ b.ops.length ∧ b.ops.length ≤ 2000)) : headerB b = false := by
  rw [Bool.eq_false_iff]
  intro hh
  simp only [headerB, Bool.and_eq_true, decide_eq_true_eq] at hh
  omega
theorem header_code {b : Blk} {o : BOp} (hp : pagesFrom none b.pages = true) (h1 : 1 ≤ b.at_.length) (h2 : b.at_.length ≤ 64) (_h3 : 1 ≤ b.ops.length) (h4 : b.ops.length ≤ 2000) (h : b.ops[0]? = some o) : headerB b = (o.code == 20) := by
  unfold headerB
  rw [hp]
  cases hb : b.ops with
  | nil => rw [hb] at h; simp at h
  | cons x l =>
    rw [hb] at h _h3 h4
    simp at h
    subst h
    simp at h4
    simp [h1, h2]
    intro
    omega

section
variable (A1 A2 A3 : Option Addr) (c1 c2 c3 : Nat) (b : Blk) (w : World)

set_option maxRecDepth 100000 in
set_option maxHeartbeats 1000000 in
theorem header_any (hb : b.ok) (h2 : SlAt w w.heap.size A2 (b.pages.map (.int .i64))) (h3 : OpsAt w w.heap.size A3 b.ops) :
    Calls Try.prog 69 #[.agg #[.slice A1 b.at_.length c1, .slice A2 b.pages.length c2, .slice A3 b.ops.length c3]] w fun e w' => e = .returned (.bool (headerB b)) ∧ Below w.heap.size w w' := by
  have m1 := hb.lat
  have m2 := hb.lpages
  have m3 := hb.lops
  obtain ⟨n1, hn1⟩ : ∃ n, b.at_.length = n := ⟨_, rfl⟩
  obtain ⟨n2, hn2⟩ : ∃ n, b.pages.length = n := ⟨_, rfl⟩
  obtain ⟨n3, hn3⟩ : ∃ n, b.ops.length = n := ⟨_, rfl⟩
  rw [hn1] at m1 ⊢
  rw [hn2] at m2 ⊢
  rw [hn3] at m3 ⊢
  have N1 := Lib.hid hn1
  have N2 := Lib.hid hn2
  have N3 := Lib.hid hn3
  clear hn1 hn2 hn3
  go_enter Try.func69, Try.ntmps69
  go_wp2
  go_loop [8] (fun i => ∃ k : Nat, k ≤ n2 ∧ i = .int .i64 k ∧ Hid (pagesFrom none b.pages = pagesFrom (prevOf b.pages k) (b.pages.drop k))) (fun i => n2 - (intOf i).toNat)
  case atStart => exact ⟨0, Nat.zero_le _, rfl, by unfold Hid; simp [prevOf]⟩
  case round =>
    obtain ⟨k, hk, rfl, hq⟩ := hrel
    by_cases hlt : k < n2
    · obtain ⟨bb, off, p, rfl, hbb, hx, hc⟩ := ints_at h2 (by rw [N2.out]; exact hlt)
      have HX := Lib.hid hx
      have hbb1 := lt_heap hbb
      have HS := Lib.hid (pages_step hx)
      by_cases hk0 : k = 0
      · subst hk0
        have HP : Hid (prevOf b.pages 0 = none) := rfl
        simp only [Nat.add_zero] at hc
        clear hx h2
        go_wp2
        · have hv : p < 0 := by assumption
          go_ret
          refine ⟨ret_bool (header_pages ?_).symm, (by repeat (first | exact Below.refl _ _ | assumption | (with_reducible refine Below.drew ?_) | (with_reducible refine below_drewN ?_ _) | (with_reducible refine Below.alloc ?_ (by first | exact Nat.le_refl _ | assumption | (simp; done) | (simp; omega) | omega) _) | (with_reducible refine Below.setCell ?_ (by first | exact Nat.le_refl _ | assumption | (simp; done) | (simp; omega) | omega) _) | (with_reducible refine below_call ?_ (by assumption) (by first | exact Nat.le_refl _ | assumption | (simp; done) | (simp; omega) | omega)) | (with_reducible refine below_only ?_ (by assumption) (by first | exact Nat.le_refl _ | assumption | (simp; done) | (simp; omega) | omega) (by first | exact Nat.le_refl _ | assumption | (simp; done) | (simp; omega) | omega))))⟩
          rw [hq.out, HS.out]
          simp; intros; omega
        · have hv : 4096 ≤ p := by assumption
          go_ret
          refine ⟨ret_bool (header_pages ?_).symm, (by repeat (first | exact Below.refl _ _ | assumption | (with_reducible refine Below.drew ?_) | (with_reducible refine below_drewN ?_ _) | (with_reducible refine Below.alloc ?_ (by first | exact Nat.le_refl _ | assumption | (simp; done) | (simp; omega) | omega) _) | (with_reducible refine Below.setCell ?_ (by first | exact Nat.le_refl _ | assumption | (simp; done) | (simp; omega) | omega) _) | (with_reducible refine below_call ?_ (by assumption) (by first | exact Nat.le_refl _ | assumption | (simp; done) | (simp; omega) | omega)) | (with_reducible refine below_only ?_ (by assumption) (by first | exact Nat.le_refl _ | assumption | (simp; done) | (simp; omega) | omega) (by first | exact Nat.le_refl _ | assumption | (simp; done) | (simp; omega) | omega))))⟩
          rw [hq.out, HS.out]
          simp; intros; omega
        · have hv0 : 0 ≤ p := by omega
          have hv1 : p < 4096 := by omega
          go_round
          case rel =>
            refine ⟨1, by omega, by go_num, ?_⟩
            have a1 := hq.out
            have a2 := HS.out
            have a3 := HP.out
            unfold Hid
            rw [a1, a2, a3]
            simp [hv0, hv1]
          case measure => simp [intOf]; omega
      · have hk1 : 0 < k := by omega
        obtain ⟨b2, off2, q, hA, hbq, hxq, hcq⟩ := ints_at (k := k - 1) h2 (by rw [N2.out]; omega)
        injection hA with hA
        injection hA with e1 e2
        subst e1; subst e2
        have HP : Hid (prevOf b.pages k = some q) := by unfold Hid prevOf; rw [if_neg hk0]; exact hxq
        clear hx h2 hxq hk0
        have g1 : (0 : Int) ≤ (k : Int) - 1 := by omega
        have g2 : (k : Int) - 1 < (n2 : Int) := by omega
        have hcq' : w.cell? ⟨bb, off + ((k : Int) - 1).toNat, none⟩ = some (.int .i64 q) := by
          rw [show ((k : Int) - 1).toNat = k - 1 by omega]; exact hcq
        go_wp2
        · have hv : p < 0 := by assumption
          go_ret
          refine ⟨ret_bool (header_pages ?_).symm, (by repeat (first | exact Below.refl _ _ | assumption | (with_reducible refine Below.drew ?_) | (with_reducible refine below_drewN ?_ _) | (with_reducible refine Below.alloc ?_ (by first | exact Nat.le_refl _ | assumption | (simp; done) | (simp; omega) | omega) _) | (with_reducible refine Below.setCell ?_ (by first | exact Nat.le_refl _ | assumption | (simp; done) | (simp; omega) | omega) _) | (with_reducible refine below_call ?_ (by assumption) (by first | exact Nat.le_refl _ | assumption | (simp; done) | (simp; omega) | omega)) | (with_reducible refine below_only ?_ (by assumption) (by first | exact Nat.le_refl _ | assumption | (simp; done) | (simp; omega) | omega) (by first | exact Nat.le_refl _ | assumption | (simp; done) | (simp; omega) | omega))))⟩
          rw [hq.out, HS.out]
          simp; intros; omega
        · have hv : 4096 ≤ p := by assumption
          go_ret
          refine ⟨ret_bool (header_pages ?_).symm, (by repeat (first | exact Below.refl _ _ | assumption | (with_reducible refine Below.drew ?_) | (with_reducible refine below_drewN ?_ _) | (with_reducible refine Below.alloc ?_ (by first | exact Nat.le_refl _ | assumption | (simp; done) | (simp; omega) | omega) _) | (with_reducible refine Below.setCell ?_ (by first | exact Nat.le_refl _ | assumption | (simp; done) | (simp; omega) | omega) _) | (with_reducible refine below_call ?_ (by assumption) (by first | exact Nat.le_refl _ | assumption | (simp; done) | (simp; omega) | omega)) | (with_reducible refine below_only ?_ (by assumption) (by first | exact Nat.le_refl _ | assumption | (simp; done) | (simp; omega) | omega) (by first | exact Nat.le_refl _ | assumption | (simp; done) | (simp; omega) | omega))))⟩
          rw [hq.out, HS.out]
          simp; intros; omega
        · have hv : p ≤ q := by assumption
          go_ret
          refine ⟨ret_bool (header_pages ?_).symm, (by repeat (first | exact Below.refl _ _ | assumption | (with_reducible refine Below.drew ?_) | (with_reducible refine below_drewN ?_ _) | (with_reducible refine Below.alloc ?_ (by first | exact Nat.le_refl _ | assumption | (simp; done) | (simp; omega) | omega) _) | (with_reducible refine Below.setCell ?_ (by first | exact Nat.le_refl _ | assumption | (simp; done) | (simp; omega) | omega) _) | (with_reducible refine below_call ?_ (by assumption) (by first | exact Nat.le_refl _ | assumption | (simp; done) | (simp; omega) | omega)) | (with_reducible refine below_only ?_ (by assumption) (by first | exact Nat.le_refl _ | assumption | (simp; done) | (simp; omega) | omega) (by first | exact Nat.le_refl _ | assumption | (simp; done) | (simp; omega) | omega))))⟩
          rw [hq.out, HS.out, HP.out]
          simp; intros; omega
        · have hv0 : 0 ≤ p := by omega
          have hv1 : p < 4096 := by omega
          have hv2 : q < p := by omega
          go_round
          case rel =>
            refine ⟨k + 1, by omega, by go_num, ?_⟩
            have a1 := hq.out
            have a2 := HS.out
            have a3 := HP.out
            unfold Hid
            rw [a1, a2, a3]
            simp [hv0, hv1, hv2]
          case measure => simp [intOf]; omega
    · have hp : Hid (pagesFrom none b.pages = true) := by
        unfold Hid
        rw [hq.out, List.drop_eq_nil_of_le (by rw [N2.out]; omega)]
        rfl
      clear hq
      by_cases i1 : (1 : Int) ≤ (n1 : Int)
      · by_cases i2 : (n1 : Int) ≤ 64
        · by_cases i3 : (1 : Int) ≤ (n3 : Int)
          · by_cases i4 : (n3 : Int) ≤ 2000
            · obtain ⟨bb, off, o, rfl, hbb, hx, hc, -⟩ := ops_at (k := 0) h3 (by rw [N3.out]; omega)
              simp only [Nat.zero_mul, Nat.add_zero] at hc
              have hbb1 := lt_heap hbb
              have HX := Lib.hid hx
              have i3' : 0 < n3 := by omega
              clear hx h3
              go_wp2
              all_goals go_ret
              all_goals exact ⟨ret_bool (header_code hp.out (by rw [N1.out]; omega) (by rw [N1.out]; omega) (by rw [N3.out]; omega) (by rw [N3.out]; omega) HX.out).symm, (by repeat (first | exact Below.refl _ _ | assumption | (with_reducible refine Below.drew ?_) | (with_reducible refine below_drewN ?_ _) | (with_reducible refine Below.alloc ?_ (by first | exact Nat.le_refl _ | assumption | (simp; done) | (simp; omega) | omega) _) | (with_reducible refine Below.setCell ?_ (by first | exact Nat.le_refl _ | assumption | (simp; done) | (simp; omega) | omega) _) | (with_reducible refine below_call ?_ (by assumption) (by first | exact Nat.le_refl _ | assumption | (simp; done) | (simp; omega) | omega)) | (with_reducible refine below_only ?_ (by assumption) (by first | exact Nat.le_refl _ | assumption | (simp; done) | (simp; omega) | omega) (by first | exact Nat.le_refl _ | assumption | (simp; done) | (simp; omega) | omega))))⟩
            · have d4 : decide ((n3 : Int) ≤ 2000) = false := by simpa using i4
              go_wp2
              all_goals go_ret
              all_goals exact ⟨ret_bool (header_false (by rw [N1.out, N3.out]; omega)).symm, (by repeat (first | exact Below.refl _ _ | assumption | (with_reducible refine Below.drew ?_) | (with_reducible refine below_drewN ?_ _) | (with_reducible refine Below.alloc ?_ (by first | exact Nat.le_refl _ | assumption | (simp; done) | (simp; omega) | omega) _) | (with_reducible refine Below.setCell ?_ (by first | exact Nat.le_refl _ | assumption | (simp; done) | (simp; omega) | omega) _) | (with_reducible refine below_call ?_ (by assumption) (by first | exact Nat.le_refl _ | assumption | (simp; done) | (simp; omega) | omega)) | (with_reducible refine below_only ?_ (by assumption) (by first | exact Nat.le_refl _ | assumption | (simp; done) | (simp; omega) | omega) (by first | exact Nat.le_refl _ | assumption | (simp; done) | (simp; omega) | omega))))⟩
          · have d3 : decide ((1 : Int) ≤ (n3 : Int)) = false := by simpa using i3
            go_wp2
            all_goals go_ret
            all_goals exact ⟨ret_bool (header_false (by rw [N1.out, N3.out]; omega)).symm, (by repeat (first | exact Below.refl _ _ | assumption | (with_reducible refine Below.drew ?_) | (with_reducible refine below_drewN ?_ _) | (with_reducible refine Below.alloc ?_ (by first | exact Nat.le_refl _ | assumption | (simp; done) | (simp; omega) | omega) _) | (with_reducible refine Below.setCell ?_ (by first | exact Nat.le_refl _ | assumption | (simp; done) | (simp; omega) | omega) _) | (with_reducible refine below_call ?_ (by assumption) (by first | exact Nat.le_refl _ | assumption | (simp; done) | (simp; omega) | omega)) | (with_reducible refine below_only ?_ (by assumption) (by first | exact Nat.le_refl _ | assumption | (simp; done) | (simp; omega) | omega) (by first | exact Nat.le_refl _ | assumption | (simp; done) | (simp; omega) | omega))))⟩
        · have d2 : decide ((n1 : Int) ≤ 64) = false := by simpa using i2
          go_wp2
          all_goals go_ret
          all_goals exact ⟨ret_bool (header_false (by rw [N1.out, N3.out]; omega)).symm, (by repeat (first | exact Below.refl _ _ | assumption | (with_reducible refine Below.drew ?_) | (with_reducible refine below_drewN ?_ _) | (with_reducible refine Below.alloc ?_ (by first | exact Nat.le_refl _ | assumption | (simp; done) | (simp; omega) | omega) _) | (with_reducible refine Below.setCell ?_ (by first | exact Nat.le_refl _ | assumption | (simp; done) | (simp; omega) | omega) _) | (with_reducible refine below_call ?_ (by assumption) (by first | exact Nat.le_refl _ | assumption | (simp; done) | (simp; omega) | omega)) | (with_reducible refine below_only ?_ (by assumption) (by first | exact Nat.le_refl _ | assumption | (simp; done) | (simp; omega) | omega) (by first | exact Nat.le_refl _ | assumption | (simp; done) | (simp; omega) | omega))))⟩
      · have d1 : decide ((1 : Int) ≤ (n1 : Int)) = false := by simpa using i1
        go_wp2
        all_goals go_ret
        all_goals exact ⟨ret_bool (header_false (by rw [N1.out, N3.out]; omega)).symm, (by repeat (first | exact Below.refl _ _ | assumption | (with_reducible refine Below.drew ?_) | (with_reducible refine below_drewN ?_ _) | (with_reducible refine Below.alloc ?_ (by first | exact Nat.le_refl _ | assumption | (simp; done) | (simp; omega) | omega) _) | (with_reducible refine Below.setCell ?_ (by first | exact Nat.le_refl _ | assumption | (simp; done) | (simp; omega) | omega) _) | (with_reducible refine below_call ?_ (by assumption) (by first | exact Nat.le_refl _ | assumption | (simp; done) | (simp; omega) | omega)) | (with_reducible refine below_only ?_ (by assumption) (by first | exact Nat.le_refl _ | assumption | (simp; done) | (simp; omega) | omega) (by first | exact Nat.le_refl _ | assumption | (simp; done) | (simp; omega) | omega))))⟩
end
end Go.Proofs.Ytmjfgnnefcimiaa
namespace Go.Proofs.Ytmjfgnnefcimiaa
open Go.RowKit


theorem ckRun_at {s : Ck} {l : List BOp} {k : Nat} {o : BOp} (h : l[k]? = some o) :
    ckRun s (l.drop k) = match ckNext s o (l.drop (k + 1)).isEmpty (exitNext (l.drop (k + 1))) with | some s' => ckRun s' (l.drop (k + 1)) | none => none := by
  have hk : k < l.length := by
    rcases Nat.lt_or_ge k l.length with h1 | h1
    · exact h1
    · rw [List.getElem?_eq_none h1] at h; cases h
  rw [List.drop_eq_getElem_cons hk]
  have e : l[k] = o := by rw [List.getElem?_eq_getElem hk] at h; injection h
  rw [e]
  rfl

attribute [local irreducible] wpStill
section
variable (A1 A2 A3 : Option Addr) (c1 c2 c3 : Nat) (b : Blk) (w : World)

set_option maxRecDepth 100000 in
set_option maxHeartbeats 2000000 in
theorem valid_ir (hb : b.ok) (h2 : SlAt w w.heap.size A2 (b.pages.map (.int .i64))) (h3 : OpsAt w w.heap.size A3 b.ops) :
    Calls Try.prog 37 #[.agg #[.slice A1 b.at_.length c1, .slice A2 b.pages.length c2, .slice A3 b.ops.length c3]] w fun e w' => e = .returned (.bool (validB b)) ∧ Below w.heap.size w w' := by
  have hh := fun W H2 H3 => header_any A1 A2 A3 c1 c2 c3 b W hb H2 H3
  have m1 := hb.lat
  have m2 := hb.lpages
  have m3 := hb.lops
  obtain ⟨n1, hn1⟩ : ∃ n, b.at_.length = n := ⟨_, rfl⟩
  obtain ⟨n2, hn2⟩ : ∃ n, b.pages.length = n := ⟨_, rfl⟩
  obtain ⟨n3, hn3⟩ : ∃ n, b.ops.length = n := ⟨_, rfl⟩
  rw [hn1] at m1 hh ⊢
  rw [hn2] at m2 hh ⊢
  rw [hn3] at m3 hh ⊢
  have HH := Lib.hid hh
  have N1 := Lib.hid hn1
  have N2 := Lib.hid hn2
  have N3 := Lib.hid hn3
  clear hn1 hn2 hn3 hh
  have H2 := Lib.hid h2
  have H3 := Lib.hid h3
  clear h2 h3
  cases hhd : headerB b
  · have hv : Hid (validB b = false) := by unfold Hid validB; rw [hhd]; rfl
    go_enter Try.func37, Try.ntmps37
    go_wp2_with (go_at_call 69; refine (HH.out _ (H2.out.alloc (Nat.le_refl _) _ |>.more (by simp)) (SlAt.more (SlAt.alloc H3.out (Nat.le_refl _) _) (by simp))).mono ?_; rintro e w1 ⟨rfl, hb1⟩; obtain ⟨hc1, hf1⟩ := bcell hb1; have hz1 := hb1.size; try simp only [World.size_alloc] at hz1; have hy1_0 : w.heap.size < w1.heap.size := (by omega); have hc1_0 := fun o => hc1 (w.heap.size) o (by first | omega | (simp; done) | (simp; omega)); have hf1_0 := fun o => hf1 (w.heap.size) o (by first | omega | (simp; done) | (simp; omega)))
    go_ret
    exact ⟨ret_bool hv.out.symm, (by repeat (first | exact Below.refl _ _ | assumption | (with_reducible refine Below.drew ?_) | (with_reducible refine below_drewN ?_ _) | (with_reducible refine Below.alloc ?_ (by first | exact Nat.le_refl _ | assumption | (simp; done) | (simp; omega) | omega) _) | (with_reducible refine Below.setCell ?_ (by first | exact Nat.le_refl _ | assumption | (simp; done) | (simp; omega) | omega) _) | (with_reducible refine below_call ?_ (by assumption) (by first | exact Nat.le_refl _ | assumption | (simp; done) | (simp; omega) | omega)) | (with_reducible refine below_only ?_ (by assumption) (by first | exact Nat.le_refl _ | assumption | (simp; done) | (simp; omega) | omega) (by first | exact Nat.le_refl _ | assumption | (simp; done) | (simp; omega) | omega))))⟩
  · have hv : Hid (validB b = (match ckRun ⟨0, 0, false⟩ b.ops with | some s => s.marks == b.at_.length | none => false)) := by unfold Hid validB; rw [hhd]; rfl
    go_enter Try.func37, Try.ntmps37
    go_wp2_with (go_at_call 69; refine (HH.out _ (H2.out.alloc (Nat.le_refl _) _ |>.more (by simp)) (SlAt.more (SlAt.alloc H3.out (Nat.le_refl _) _) (by simp))).mono ?_; rintro e w1 ⟨rfl, hb1⟩; obtain ⟨hc1, hf1⟩ := bcell hb1; have hz1 := hb1.size; try simp only [World.size_alloc] at hz1; have hy1_0 : w.heap.size < w1.heap.size := (by omega); have hc1_0 := fun o => hc1 (w.heap.size) o (by first | omega | (simp; done) | (simp; omega)); have hf1_0 := fun o => hf1 (w.heap.size) o (by first | omega | (simp; done) | (simp; omega)))
    refine wp_world fun W0 hc0 hf0 hs0 hb0 => ?_
    have hB0 : Below w.heap.size w W0 := hb0 _ _ (by repeat (first | exact Below.refl _ _ | assumption | (with_reducible refine Below.drew ?_) | (with_reducible refine below_drewN ?_ _) | (with_reducible refine Below.alloc ?_ (by first | exact Nat.le_refl _ | assumption | (simp; done) | (simp; omega) | omega) _) | (with_reducible refine Below.setCell ?_ (by first | exact Nat.le_refl _ | assumption | (simp; done) | (simp; omega) | omega) _) | (with_reducible refine below_call ?_ (by assumption) (by first | exact Nat.le_refl _ | assumption | (simp; done) | (simp; omega) | omega)) | (with_reducible refine below_only ?_ (by assumption) (by first | exact Nat.le_refl _ | assumption | (simp; done) | (simp; omega) | omega) (by first | exact Nat.le_refl _ | assumption | (simp; done) | (simp; omega) | omega))))
    have hg0 : Has W0 w1.heap.size (ckRow ⟨0, 0, false⟩) := has3 (by go_simp) (by go_simp) (by go_simp) (by go_simp) (by go_simp) (by go_simp)
    have hs0' : W0.heap.size = w1.heap.size + 1 := by rw [hs0]; simp
    have HS0 := Lib.hid hs0'
    clear hs0 hs0' hb0 hf0
    have x0 : W0.cell? ⟨w.heap.size, 0, none⟩ = some (.slice A1 n1 c1) := by go_simp
    have x1 : W0.cell? ⟨w.heap.size, 1, none⟩ = some (.slice A2 n2 c2) := by go_simp
    have x2 : W0.cell? ⟨w.heap.size, 2, none⟩ = some (.slice A3 n3 c3) := by go_simp
    have h30 : OpsAt W0 w.heap.size A3 b.ops := SlAt.below H3.out hB0 (Nat.le_refl _)
    clear hc0 hc1 hf1 hc1_0 hf1_0
    obtain ⟨g, hg⟩ : ∃ g, w1.heap.size = g := ⟨_, rfl⟩
    rw [hg] at hg0 HS0 hy1_0 ⊢
    have HG := Lib.hid hg
    clear hg hz1
    go_loopw [15] (fun i W => ∃ (k : Nat) (s : Ck), k ≤ n3 ∧ i = .int .i64 k ∧ s.marks ≤ k ∧ s.written < 268435456 ∧ Hid (ckRun ⟨0, 0, false⟩ b.ops = ckRun s (b.ops.drop k)) ∧ Has W g (ckRow s) ∧ Below g W0 W) (fun i _ => n3 - (intOf i).toNat)
    case atStart => exact ⟨0, ⟨0, 0, false⟩, Nat.zero_le _, rfl, Nat.le_refl _, by decide, by unfold Hid; simp, hg0, Below.refl _ _⟩
    case round =>
      obtain ⟨k, s, hk, rfl, hsm, hsw, hrun, hHas, hB⟩ := hrel
      have hgW : g < wr.heap.size := hHas.lt
      have hyb : w.heap.size < wr.heap.size := by omega
      have y0 : wr.cell? ⟨w.heap.size, 0, none⟩ = some (.slice A1 n1 c1) := (hB.cell (p := ⟨_, 0, none⟩) hy1_0).trans x0
      have y2 : wr.cell? ⟨w.heap.size, 2, none⟩ = some (.slice A3 n3 c3) := (hB.cell (p := ⟨_, 2, none⟩) hy1_0).trans x2
      by_cases hlt : k < n3
      · obtain ⟨bb, off, o, rfl, hbb, hx, d0, d1, d2, d3, d4⟩ := ops_at (k := k) h30 (by rw [N3.out]; exact hlt)
        have hbbg : bb < g := by omega
        have hbbW : bb < wr.heap.size := by omega
        have e0 := (hB.cell (p := ⟨bb, off + k * 5, none⟩) hbbg).trans d0
        have e1 := (hB.cell (p := ⟨bb, off + k * 5 + 1, none⟩) hbbg).trans d1
        have e2 := (hB.cell (p := ⟨bb, off + k * 5 + 2, none⟩) hbbg).trans d2
        have e3 := (hB.cell (p := ⟨bb, off + k * 5 + 3, none⟩) hbbg).trans d3
        have e4 := (hB.cell (p := ⟨bb, off + k * 5 + 4, none⟩) hbbg).trans d4
        have HAT := Lib.hid (ckRun_at (s := s) hx)
        by_cases hlast : k + 1 = n3
        · have t1 : ((k : Int) == (n3 : Int) - 1) = true := beq_of (by omega)
          have hnil : b.ops.drop (k + 1) = [] := List.drop_eq_nil_of_le (by rw [N3.out]; omega)
          clear d0 d1 d2 d3 d4 hx h30 x0 x1 x2
          have HNX := Lib.hid (fun W hW => next_any g s o true false W hW (by omega) hsw)
          have hee := HAT.out
          rw [hnil] at hee
          simp only [List.isEmpty_nil, exitNext] at hee
          rw [← hnil] at hee
          clear hnil
          cases hr : ckNext s o true false
          · rw [hr] at hee
            have HR := Lib.hid hr
            have HEE := Lib.hid hee
            clear hr hee
            go_wp2
            (refine wp_still_tail 15 (by kernel_rfl) (by kernel_rfl) ?_; simp only [List.take_succ_cons, List.take_zero, List.drop_succ_cons, List.drop_zero]; (iterate 6 (still_step)); (iterate 8 (apply wpStill_skip; kernel_rfl; simp only [Act.put, List.setIfInBounds_toArray, List.set_cons_succ, List.set_cons_zero])); (iterate 1 (still_step)); refine wpStill_nil ?_)
            go_wp2_with fail
            refine (HNX.out _ (by repeat (first | assumption | (with_reducible refine Has.drew ?_) | (with_reducible refine Has.drewN ?_ _) | (with_reducible refine Has.alloc ?_ _ (by first | assumption | (simp; done) | (simp; omega) | omega)) | (with_reducible refine Has.setFar ?_ (by first | assumption | (simp; done) | (simp; omega) | omega) _)))).mono ?_
            rw [HR.out]
            rintro e w2 ⟨rfl, hb2, -⟩
            go_wp2
            go_ret
            refine ⟨ret_bool ?_, (by repeat (first | exact Below.refl _ _ | assumption | (with_reducible refine Below.drew ?_) | (with_reducible refine below_drewN ?_ _) | (with_reducible refine Below.alloc ?_ (by first | exact Nat.le_refl _ | assumption | (simp; done) | (simp; omega) | omega) _) | (with_reducible refine Below.setCell ?_ (by first | exact Nat.le_refl _ | assumption | (simp; done) | (simp; omega) | omega) _) | (with_reducible refine below_call ?_ (by assumption) (by first | exact Nat.le_refl _ | assumption | (simp; done) | (simp; omega) | omega)) | (with_reducible refine below_only ?_ (by assumption) (by first | exact Nat.le_refl _ | assumption | (simp; done) | (simp; omega) | omega) (by first | exact Nat.le_refl _ | assumption | (simp; done) | (simp; omega) | omega))))⟩
            rw [hv.out, hrun.out, HEE.out]
            try rfl
          · rename_i s'
            rw [hr] at hee
            have HR := Lib.hid hr
            have HEE := Lib.hid hee
            clear hr hee
            go_wp2
            (refine wp_still_tail 15 (by kernel_rfl) (by kernel_rfl) ?_; simp only [List.take_succ_cons, List.take_zero, List.drop_succ_cons, List.drop_zero]; (iterate 6 (still_step)); (iterate 8 (apply wpStill_skip; kernel_rfl; simp only [Act.put, List.setIfInBounds_toArray, List.set_cons_succ, List.set_cons_zero])); (iterate 1 (still_step)); refine wpStill_nil ?_)
            go_wp2_with fail
            refine (HNX.out _ (by repeat (first | assumption | (with_reducible refine Has.drew ?_) | (with_reducible refine Has.drewN ?_ _) | (with_reducible refine Has.alloc ?_ _ (by first | assumption | (simp; done) | (simp; omega) | omega)) | (with_reducible refine Has.setFar ?_ (by first | assumption | (simp; done) | (simp; omega) | omega) _)))).mono ?_
            rw [HR.out]
            rintro e w2 ⟨rfl, hb2, hs2⟩
            have hs3 := hs2 s' rfl
            clear hs2
            go_wp2
            go_roundw
            case rel =>
              have hbd := ckNext_bounds HR.out hsw
              exact ⟨k + 1, s', by omega, by go_num, by omega, hbd.2, (by unfold Hid; rw [hrun.out, HEE.out]), hs3, (by repeat (first | exact Below.refl _ _ | assumption | (with_reducible refine Below.drew ?_) | (with_reducible refine below_drewN ?_ _) | (with_reducible refine Below.alloc ?_ (by first | exact Nat.le_refl _ | assumption | (simp; done) | (simp; omega) | omega) _) | (with_reducible refine Below.setCell ?_ (by first | exact Nat.le_refl _ | assumption | (simp; done) | (simp; omega) | omega) _) | (with_reducible refine below_call ?_ (by assumption) (by first | exact Nat.le_refl _ | assumption | (simp; done) | (simp; omega) | omega)) | (with_reducible refine below_only ?_ (by assumption) (by first | exact Nat.le_refl _ | assumption | (simp; done) | (simp; omega) | omega) (by first | exact Nat.le_refl _ | assumption | (simp; done) | (simp; omega) | omega))))⟩
            case measure => simp [intOf]; omega
        · obtain ⟨bb', off', o2, hA, hbb', hx', d0', -⟩ := ops_at (k := k + 1) h30 (by rw [N3.out]; omega)
          injection hA with hA
          injection hA with q1 q2
          subst q1; subst q2
          have e0' := (hB.cell (p := ⟨bb, off + (k + 1) * 5, none⟩) hbbg).trans d0'
          have HE := exitNext_at hx'
          have t1 : ((k : Int) == (n3 : Int) - 1) = false := beq_ne (by omega)
          clear d0 d1 d2 d3 d4 d0' hx hx' h30 x0 x1 x2
          have b1 : (0 : Int) ≤ (k : Int) + 1 := by omega
          have b2 : (k : Int) + 1 < (n3 : Int) := by omega
          have s1 : IntKind.i64.wrap ((k : Int) + 1) = (k : Int) + 1 := IntWalk.i64_in _ (by omega)
          have s2 : ((k : Int) + 1).toNat = k + 1 := by omega
          have S1 := Lib.hid s1
          have S2 := Lib.hid s2
          clear s1 s2
          have HNX := Lib.hid (fun W hW => next_any g s o false (o2.code == 24) W hW (by omega) hsw)
          have hee := HAT.out
          rw [HE.1, HE.2] at hee
          clear HE
          cases hr : ckNext s o false (o2.code == 24)
          · rw [hr] at hee
            have HR := Lib.hid hr
            have HEE := Lib.hid hee
            clear hr hee
            go_wp2
            have s1 := S1.out
            have s2 := S2.out
            (refine wp_still_tail 15 (by kernel_rfl) (by kernel_rfl) ?_; simp only [List.take_succ_cons, List.take_zero, List.drop_succ_cons, List.drop_zero]; (repeat still_step); refine wpStill_nil ?_)
            clear s1 s2
            go_wp2_with fail
            refine (HNX.out _ (by repeat (first | assumption | (with_reducible refine Has.drew ?_) | (with_reducible refine Has.drewN ?_ _) | (with_reducible refine Has.alloc ?_ _ (by first | assumption | (simp; done) | (simp; omega) | omega)) | (with_reducible refine Has.setFar ?_ (by first | assumption | (simp; done) | (simp; omega) | omega) _)))).mono ?_
            rw [HR.out]
            rintro e w2 ⟨rfl, hb2, -⟩
            go_wp2
            go_ret
            refine ⟨ret_bool ?_, (by repeat (first | exact Below.refl _ _ | assumption | (with_reducible refine Below.drew ?_) | (with_reducible refine below_drewN ?_ _) | (with_reducible refine Below.alloc ?_ (by first | exact Nat.le_refl _ | assumption | (simp; done) | (simp; omega) | omega) _) | (with_reducible refine Below.setCell ?_ (by first | exact Nat.le_refl _ | assumption | (simp; done) | (simp; omega) | omega) _) | (with_reducible refine below_call ?_ (by assumption) (by first | exact Nat.le_refl _ | assumption | (simp; done) | (simp; omega) | omega)) | (with_reducible refine below_only ?_ (by assumption) (by first | exact Nat.le_refl _ | assumption | (simp; done) | (simp; omega) | omega) (by first | exact Nat.le_refl _ | assumption | (simp; done) | (simp; omega) | omega))))⟩
            rw [hv.out, hrun.out, HEE.out]
            try rfl
          · rename_i s'
            rw [hr] at hee
            have HR := Lib.hid hr
            have HEE := Lib.hid hee
            clear hr hee
            go_wp2
            have s1 := S1.out
            have s2 := S2.out
            (refine wp_still_tail 15 (by kernel_rfl) (by kernel_rfl) ?_; simp only [List.take_succ_cons, List.take_zero, List.drop_succ_cons, List.drop_zero]; (repeat still_step); refine wpStill_nil ?_)
            clear s1 s2
            go_wp2_with fail
            refine (HNX.out _ (by repeat (first | assumption | (with_reducible refine Has.drew ?_) | (with_reducible refine Has.drewN ?_ _) | (with_reducible refine Has.alloc ?_ _ (by first | assumption | (simp; done) | (simp; omega) | omega)) | (with_reducible refine Has.setFar ?_ (by first | assumption | (simp; done) | (simp; omega) | omega) _)))).mono ?_
            rw [HR.out]
            rintro e w2 ⟨rfl, hb2, hs2⟩
            have hs3 := hs2 s' rfl
            clear hs2
            go_wp2
            go_roundw
            case rel =>
              have hbd := ckNext_bounds HR.out hsw
              exact ⟨k + 1, s', by omega, by go_num, by omega, hbd.2, (by unfold Hid; rw [hrun.out, HEE.out]), hs3, (by repeat (first | exact Below.refl _ _ | assumption | (with_reducible refine Below.drew ?_) | (with_reducible refine below_drewN ?_ _) | (with_reducible refine Below.alloc ?_ (by first | exact Nat.le_refl _ | assumption | (simp; done) | (simp; omega) | omega) _) | (with_reducible refine Below.setCell ?_ (by first | exact Nat.le_refl _ | assumption | (simp; done) | (simp; omega) | omega) _) | (with_reducible refine below_call ?_ (by assumption) (by first | exact Nat.le_refl _ | assumption | (simp; done) | (simp; omega) | omega)) | (with_reducible refine below_only ?_ (by assumption) (by first | exact Nat.le_refl _ | assumption | (simp; done) | (simp; omega) | omega) (by first | exact Nat.le_refl _ | assumption | (simp; done) | (simp; omega) | omega))))⟩
            case measure => simp [intOf]; omega
      · have hkn : k = n3 := by omega
        have hfin : Hid (validB b = (s.marks == b.at_.length)) := by
          unfold Hid
          rw [hv.out, hrun.out, List.drop_eq_nil_of_le (by rw [N3.out]; omega)]
          rfl
        have z0 : wr.cell? ⟨g, 0, none⟩ = some (.int .i64 (s.marks : Int)) := (hHas 0 _ rfl).1
        go_wp2
        go_quiet (fail)
        go_wp2
        go_ret
        refine ⟨ret_bool ?_, (by repeat (first | exact Below.refl _ _ | assumption | (with_reducible refine Below.drew ?_) | (with_reducible refine below_drewN ?_ _) | (with_reducible refine Below.alloc ?_ (by first | exact Nat.le_refl _ | assumption | (simp; done) | (simp; omega) | omega) _) | (with_reducible refine Below.setCell ?_ (by first | exact Nat.le_refl _ | assumption | (simp; done) | (simp; omega) | omega) _) | (with_reducible refine below_call ?_ (by assumption) (by first | exact Nat.le_refl _ | assumption | (simp; done) | (simp; omega) | omega)) | (with_reducible refine below_only ?_ (by assumption) (by first | exact Nat.le_refl _ | assumption | (simp; done) | (simp; omega) | omega) (by first | exact Nat.le_refl _ | assumption | (simp; done) | (simp; omega) | omega))))⟩
        rw [hfin.out, N1.out]
        rw [Bool.eq_iff_iff]
        simp
        try omega
end
end Go.Proofs.Ytmjfgnnefcimiaa
namespace Go.Proofs.Ytmjfgnnefcimiaa
open Go.RowKit

set_option maxRecDepth 100000 in
set_option maxHeartbeats 400000 in
theorem formed_ref (o : BOp) (w : World) :
    Calls Try.prog 52 #[opV o] w fun e w' => e = .returned (.bool (formedB o)) ∧ Below w.heap.size w w' := by
  unfold opV
  go_enter Try.func52, Try.ntmps52
  go_wp2_with (first | (go_at_call 78; refine (shapeOf_ref _ _).mono ?_; rintro e w1 ⟨rfl, hb1⟩; obtain ⟨hc1, hf1⟩ := bcell hb1; have hz1 := hb1.size; try simp only [World.size_alloc] at hz1; have hy1_0 : w.heap.size < w1.heap.size := (by omega); have hc1_0 := fun o => hc1 (w.heap.size) o (by first | omega | (simp; done) | (simp; omega)); have hf1_0 := fun o => hf1 (w.heap.size) o (by first | omega | (simp; done) | (simp; omega))) | (go_at_call 79; refine (field_ref _ _ _).mono ?_; rintro e w' ⟨rfl, rfl⟩))
  all_goals go_ret
  all_goals exact ⟨ret_bool (by simp [formedB, *]), (by repeat (first | exact Below.refl _ _ | assumption | (with_reducible refine Below.drew ?_) | (with_reducible refine below_drewN ?_ _) | (with_reducible refine Below.alloc ?_ (by first | exact Nat.le_refl _ | assumption | (simp; done) | (simp; omega) | omega) _) | (with_reducible refine Below.setCell ?_ (by first | exact Nat.le_refl _ | assumption | (simp; done) | (simp; omega) | omega) _) | (with_reducible refine below_call ?_ (by assumption) (by first | exact Nat.le_refl _ | assumption | (simp; done) | (simp; omega) | omega)) | (with_reducible refine below_only ?_ (by assumption) (by first | exact Nat.le_refl _ | assumption | (simp; done) | (simp; omega) | omega) (by first | exact Nat.le_refl _ | assumption | (simp; done) | (simp; omega) | omega))))⟩

theorem firstI_le (l : List BOp) : ∀ k : Nat, -1 ≤ firstI l k ∧ firstI l k ≤ k
  | 0 => by unfold firstI; split <;> simp
  | k + 1 => by
    unfold firstI
    have := firstI_le l k
    split
    · omega
    · omega
theorem firstI_nonneg {l : List BOp} (h : (l[0]?.map (·.code)) = some 20) : ∀ k : Nat, 0 ≤ firstI l k
  | 0 => by unfold firstI; rw [if_pos h]; omega
  | k + 1 => by
    unfold firstI
    have := firstI_nonneg h k
    split
    · omega
    · exact this
theorem firstI_hit {l : List BOp} {k : Nat} {o : BOp} (h : l[k]? = some o) (hc : o.code = 20) : firstI l k = k := by
  cases k <;> simp [firstI, h, hc]
theorem firstI_miss {l : List BOp} {k : Nat} {o : BOp} (h : l[k]? = some o) (hc : o.code ≠ 20) : firstI l k = if k = 0 then -1 else firstI l (k - 1) := by
  cases k <;> simp [firstI, h, hc]

section
variable (A1 A2 A3 : Option Addr) (n1 n2 n3 c1 c2 c3 : Nat) (l : List BOp) (i : Nat) (w : World)

set_option maxRecDepth 100000 in
set_option maxHeartbeats 400000 in
theorem first_ref (h3 : OpsAt w w.heap.size A3 l) (hl : l.length = n3) (hm : n3 ≤ 1000000) (hi : i < n3) (hz : (l[0]?.map (·.code)) = some 20) :
    Calls Try.prog 80 #[.agg #[.slice A1 n1 c1, .slice A2 n2 c2, .slice A3 n3 c3], .int .i64 (i : Int)] w fun e w' => e = .returned (.int .i64 (firstI l i)) ∧ Below w.heap.size w w' := by
  have HL := Lib.hid hl
  have HZ := Lib.hid hz
  clear hl hz
  go_enter Try.func80, Try.ntmps80
  go_wp2
  go_loop [1] (fun t => ∃ k : Nat, k < n3 ∧ t = .int .i64 k ∧ Hid (firstI l i = firstI l k)) (fun t => (intOf t).toNat)
  case atStart => exact ⟨i, hi, rfl, rfl⟩
  case round =>
    obtain ⟨k, hk, rfl, hq⟩ := hrel
    obtain ⟨b, off, o, rfl, hb, hx, hc, -⟩ := ops_at (k := k) h3 (by rw [HL.out]; exact hk)
    have HX := Lib.hid hx
    have g1 : (0 : Int) ≤ (k : Int) := by omega
    have g2 : (k : Int) < (n3 : Int) := by omega
    clear hx h3
    by_cases h20 : o.code = 20
    · have e1 : (o.code != 20) = false := by simp [h20]
      have H20 := Lib.hid h20
      clear h20
      go_wp2
      go_ret
      exact ⟨ret_int (by rw [hq.out, firstI_hit HX.out H20.out]), (by repeat (first | exact Below.refl _ _ | assumption | (with_reducible refine Below.drew ?_) | (with_reducible refine below_drewN ?_ _) | (with_reducible refine Below.alloc ?_ (by first | exact Nat.le_refl _ | assumption | (simp; done) | (simp; omega) | omega) _) | (with_reducible refine Below.setCell ?_ (by first | exact Nat.le_refl _ | assumption | (simp; done) | (simp; omega) | omega) _) | (with_reducible refine below_call ?_ (by assumption) (by first | exact Nat.le_refl _ | assumption | (simp; done) | (simp; omega) | omega)) | (with_reducible refine below_only ?_ (by assumption) (by first | exact Nat.le_refl _ | assumption | (simp; done) | (simp; omega) | omega) (by first | exact Nat.le_refl _ | assumption | (simp; done) | (simp; omega) | omega))))⟩
    · have e1 : (o.code != 20) = true := by simp [h20]
      have H20 := Lib.hid h20
      clear h20
      have hk0 : k ≠ 0 := by
        rintro rfl
        have := HZ.out
        rw [HX.out] at this
        simp at this
        exact H20.out this
      go_wp2
      go_round
      case rel =>
        refine ⟨k - 1, by omega, by congr 1; omega, ?_⟩
        unfold Hid
        rw [hq.out, firstI_miss HX.out H20.out, if_neg hk0]
      case measure => simp [intOf]; omega
end
end Go.Proofs.Ytmjfgnnefcimiaa
