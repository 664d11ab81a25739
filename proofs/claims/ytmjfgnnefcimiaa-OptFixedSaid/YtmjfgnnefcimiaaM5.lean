/- Walks: one step of the program's validity check: a mark. Walks: one step of the program's validity check: an operation other than a mark. Walks: one step of the program's validity check: an operation other than a mark (two of eight cases). -/
import Derived.Test.YtmjfgnnefcimiaaM4
namespace Go.Proofs.Ytmjfgnnefcimiaa
open Go.RowKit

section
variable (g : Nat) (s : Ck) (exit : Bool) (n : Int) (w : World)

theorem lt_heap {g : Nat} {w : World} (h : g < w.heap.size) : g < w.heap.size + 1 := by omega

set_option maxRecDepth 100000 in
set_option maxHeartbeats 1000000 in
theorem next_mark (hg : Has w g (ckRow s)) (hm : s.marks ≤ 1000000) :
    Calls Try.prog 70 #[.pointer (some ⟨g, 0, none⟩), opV ⟨20, 0, 0, 0, n⟩, .bool false, .bool exit] w (CkPost g w (ckNext s ⟨20, 0, 0, 0, n⟩ false exit)) := by
  have hglt := hg.lt
  have hgl1 := lt_heap hglt
  have q0 : w.cell? ⟨g, 0, none⟩ = some (.int .i64 (s.marks : Int)) := (hg 0 _ rfl).1
  have q1 : w.cell? ⟨g, 1, none⟩ = some (.int .u32 (s.written : Int)) := (hg 1 _ rfl).1
  have q2 : w.cell? ⟨g, 2, none⟩ = some (.bool s.changed) := (hg 2 _ rfl).1
  have f0 := (hg 0 _ rfl).2
  have f1 := (hg 1 _ rfl).2
  have f2 := (hg 2 _ rfl).2
  clear hg
  have i1 : isOp 20 = true := rfl
  have i2 : hasD 20 = false := rfl
  have i3 : hasA 20 = false := rfl
  have i4 : hasB 20 = false := rfl
  have i5 : hasN 20 = true := rfl
  have i6 : leaves 20 = false := rfl
  have i7 : endsB 20 = false := rfl
  have i8 : fieldB false 0 = true := rfl
  have i9 : stores 20 = false := rfl
  unfold opV
  by_cases hn : n = (s.marks : Int)
  · have e0 : (n != (s.marks : Int)) = false := by simp [hn]
    have HN := Lib.hid hn
    clear hn
    go_enter Try.func70, Try.ntmps70
    go_wp2_with (first | (go_at_call 73; refine (shapeOf_any _ _).mono ?_; rintro e w1 ⟨rfl, hb1⟩; obtain ⟨hc1, hf1⟩ := bcell hb1; have hz1 := hb1.size; try simp only [World.size_alloc] at hz1; have hy1_0 : w.heap.size < w1.heap.size := (by omega); have hc1_0 := fun o => hc1 (w.heap.size) o (by first | omega | (simp; done) | (simp; omega)); have hf1_0 := fun o => hf1 (w.heap.size) o (by first | omega | (simp; done) | (simp; omega)); have hy1_1 : g < w1.heap.size := (by omega); have hc1_1 := fun o => hc1 (g) o (by first | omega | (simp; done) | (simp; omega)); have hf1_1 := fun o => hf1 (g) o (by first | omega | (simp; done) | (simp; omega))) | (go_at_call 94; refine (field_ir _ _ _).mono ?_; rintro e w' ⟨rfl, rfl⟩) | (go_at_call 95; refine (ends_ir _ _).mono ?_; rintro e w' ⟨rfl, rfl⟩))
    go_quiet (fail)
    go_wp2_with (first | (go_at_call 44; refine (reads_ir ⟨20, 0, 0, 0, n⟩ _).mono ?_; rintro e w2 ⟨r, rfl, hown, hb2⟩; rw [show reads ⟨20, 0, 0, 0, n⟩ = [] from rfl] at hown; simp only [List.length_nil, List.map_nil] at hown; obtain ⟨A, c, rfl, hs, -, -, -⟩ := own_slice hown; clear hown; obtain ⟨hc2, hf2⟩ := bcell hb2; have hz2 := hb2.size; try simp only [World.size_alloc, World.size_setCell, World.heap_drewN] at hz2; have hy2_0 : w.heap.size < w2.heap.size := (by omega); have hc2_0 := fun o => hc2 (w.heap.size) o (by first | omega | (simp; done) | (simp; omega)); have hf2_0 := fun o => hf2 (w.heap.size) o (by first | omega | (simp; done) | (simp; omega)); have hy2_1 : w1.heap.size < w2.heap.size := (by omega); have hc2_1 := fun o => hc2 (w1.heap.size) o (by first | omega | (simp; done) | (simp; omega)); have hf2_1 := fun o => hf2 (w1.heap.size) o (by first | omega | (simp; done) | (simp; omega)); have hy2_2 : g < w2.heap.size := (by omega); have hc2_2 := fun o => hc2 (g) o (by first | omega | (simp; done) | (simp; omega)); have hf2_2 := fun o => hf2 (g) o (by first | omega | (simp; done) | (simp; omega))) | (go_at_call 40; refine (writes_ir ⟨20, 0, 0, 0, n⟩ _).mono ?_; rintro e w3 ⟨rfl, hb3⟩; obtain ⟨hc3, hf3⟩ := bcell hb3; have hz3 := hb3.size; try simp only [World.size_alloc, World.size_setCell, World.heap_drewN, World.size_drew] at hz3; have hy3_0 : w.heap.size < w3.heap.size := (by omega); have hc3_0 := fun o => hc3 (w.heap.size) o (by first | omega | (simp; done) | (simp; omega)); have hf3_0 := fun o => hf3 (w.heap.size) o (by first | omega | (simp; done) | (simp; omega)); have hy3_1 : w1.heap.size < w3.heap.size := (by omega); have hc3_1 := fun o => hc3 (w1.heap.size) o (by first | omega | (simp; done) | (simp; omega)); have hf3_1 := fun o => hf3 (w1.heap.size) o (by first | omega | (simp; done) | (simp; omega)); have hy3_2 : g < w3.heap.size := (by omega); have hc3_2 := fun o => hc3 (g) o (by first | omega | (simp; done) | (simp; omega)); have hf3_2 := fun o => hf3 (g) o (by first | omega | (simp; done) | (simp; omega))))
    have hw := fun W => writes_ir ⟨20, 0, 0, 0, n⟩ W
    simp only [show writes ⟨20, 0, 0, 0, n⟩ = -1 from rfl] at hw
    have HW := Lib.hid hw
    clear hw
    refine wp_loop_once ?_
    go_wp2_with (go_at_call 40; refine (HW.out _).mono ?_; rintro e w3 ⟨rfl, hb3⟩; obtain ⟨hc3, hf3⟩ := bcell hb3; have hz3 := hb3.size; try simp only [World.size_alloc, World.size_setCell, World.heap_drewN, World.size_drew] at hz3; have hy3_0 : w.heap.size < w3.heap.size := (by omega); have hc3_0 := fun o => hc3 (w.heap.size) o (by first | omega | (simp; done) | (simp; omega)); have hf3_0 := fun o => hf3 (w.heap.size) o (by first | omega | (simp; done) | (simp; omega)); have hy3_1 : w1.heap.size < w3.heap.size := (by omega); have hc3_1 := fun o => hc3 (w1.heap.size) o (by first | omega | (simp; done) | (simp; omega)); have hf3_1 := fun o => hf3 (w1.heap.size) o (by first | omega | (simp; done) | (simp; omega)); have hy3_2 : g < w3.heap.size := (by omega); have hc3_2 := fun o => hc3 (g) o (by first | omega | (simp; done) | (simp; omega)); have hf3_2 := fun o => hf3 (g) o (by first | omega | (simp; done) | (simp; omega)))
    have hn := HN.out
    go_ret
    exact post_some (s := ⟨s.marks + 1, 0, false⟩) (by unfold ckNext; rw [if_pos (by simp [formedB, placedB, i1, i2, i3, i4, i5, i6, i7, i8])]; simp [hn]) rfl (by repeat (first | exact World.grownBy.refl _ _ | assumption | (with_reducible refine only_drew ?_) | (with_reducible refine only_drewN ?_ _) | (with_reducible refine only_alloc ?_ _) | (with_reducible refine only_setCell ?_ (by first | exact .inl rfl | (right; simp; omega)) _) | (with_reducible refine only_below ?_ (by assumption) (by first | exact Nat.le_refl _ | assumption | (simp; done) | (simp; omega) | omega)))) (has3 (by go_simp) (by go_simp) (World.cell?_setCell_same' _ _ _ (by go_simp)) (by go_simp) (by go_simp) (by go_simp))
  · have e0 : (n != (s.marks : Int)) = true := by simp [hn]
    clear hn
    go_enter Try.func70, Try.ntmps70
    go_wp2_with (first | (go_at_call 73; refine (shapeOf_any _ _).mono ?_; rintro e w1 ⟨rfl, hb1⟩; obtain ⟨hc1, hf1⟩ := bcell hb1; have hz1 := hb1.size; try simp only [World.size_alloc] at hz1; have hy1_0 : w.heap.size < w1.heap.size := (by omega); have hc1_0 := fun o => hc1 (w.heap.size) o (by first | omega | (simp; done) | (simp; omega)); have hf1_0 := fun o => hf1 (w.heap.size) o (by first | omega | (simp; done) | (simp; omega)); have hy1_1 : g < w1.heap.size := (by omega); have hc1_1 := fun o => hc1 (g) o (by first | omega | (simp; done) | (simp; omega)); have hf1_1 := fun o => hf1 (g) o (by first | omega | (simp; done) | (simp; omega))) | (go_at_call 94; refine (field_ir _ _ _).mono ?_; rintro e w' ⟨rfl, rfl⟩) | (go_at_call 95; refine (ends_ir _ _).mono ?_; rintro e w' ⟨rfl, rfl⟩))
    go_quiet (fail)
    go_wp2
    go_ret
    refine post_none ?_ rfl (by repeat (first | exact World.grownBy.refl _ _ | assumption | (with_reducible refine only_drew ?_) | (with_reducible refine only_drewN ?_ _) | (with_reducible refine only_alloc ?_ _) | (with_reducible refine only_setCell ?_ (by first | exact .inl rfl | (right; simp; omega)) _) | (with_reducible refine only_below ?_ (by assumption) (by first | exact Nat.le_refl _ | assumption | (simp; done) | (simp; omega) | omega))))
    unfold ckNext
    rw [if_pos (by simp [formedB, placedB, i1, i2, i3, i4, i5, i6, i7, i8])]
    simp at e0
    simp [e0]
end
end Go.Proofs.Ytmjfgnnefcimiaa
namespace Go.Proofs.Ytmjfgnnefcimiaa
open Go.RowKit

theorem bit_test (m v : Nat) (hm : m < 4294967296) : (bits .and .u32 ((m : Int) / 2 ^ v) 1 == 0) = !(m.testBit v) := by
  have e1 : (m : Int) / 2 ^ v = ((m / 2 ^ v : Nat) : Int) := by simp
  have e2 : m / 2 ^ v < 4294967296 := Nat.lt_of_le_of_lt (Nat.div_le_self _ _) hm
  have e3 := u32_and_nat (m / 2 ^ v) 1 e2 (by omega)
  rw [e1, show (1 : Int) = ((1 : Nat) : Int) from rfl, e3, Nat.and_one_is_mod, Nat.testBit_eq_decide_div_mod_eq]
  have e4 : m / 2 ^ v % 2 < 2 := Nat.mod_lt _ (by omega)
  rcases (by omega : m / 2 ^ v % 2 = 0 ∨ m / 2 ^ v % 2 = 1) with h | h <;> simp [h]
theorem bit_set (m d : Nat) (hm : m < 4294967296) (hd : d < 32) : bits .or .u32 (m : Int) (2 ^ d % 4294967296) = ((m ||| 2 ^ d : Nat) : Int) := by
  have h1 : 2 ^ d < 2 ^ 32 := Nat.pow_lt_pow_right (by omega) hd
  have h2 : 2 ^ d < 4294967296 := by simpa using h1
  have e1 : (2 : Int) ^ d % 4294967296 = ((2 ^ d : Nat) : Int) := by
    rw [show (2 : Int) ^ d = ((2 ^ d : Nat) : Int) by simp]
    obtain ⟨q, hq⟩ : ∃ q, 2 ^ d = q := ⟨_, rfl⟩
    rw [hq] at h2 ⊢
    omega
  rw [e1]
  exact u32_or_nat m (2 ^ d) hm h2
theorem reads_var {o : BOp} (hf : formedB o = true) : ∀ x ∈ reads o, 0 ≤ x ∧ x < 28 := by
  obtain ⟨hI, hd, ha, hb, hN⟩ := formed_parts hf
  intro x hx
  unfold reads at hx
  rw [List.mem_append] at hx
  rcases hx with hx | hx
  · split at hx
    · rename_i h
      rw [h] at ha
      simp [fieldB] at ha hx
      subst hx; omega
    · simp at hx
  · split at hx
    · rename_i h
      simp only [Bool.and_eq_true] at h
      rw [h.1] at hb
      simp [fieldB] at hb hx
      subst hx; omega
    · simp at hx
theorem writes_var {o : BOp} (hf : formedB o = true) : writes o < 28 := by
  obtain ⟨hI, hd, ha, hb, hN⟩ := formed_parts hf
  unfold writes
  split
  · rename_i h
    rw [h] at hd
    simp [fieldB] at hd
    omega
  · omega

end Go.Proofs.Ytmjfgnnefcimiaa
namespace Go.Proofs.Ytmjfgnnefcimiaa
open Go.RowKit

set_option maxRecDepth 100000 in
set_option maxHeartbeats 2000000 in
theorem next_plain0 (g : Nat) (s : Ck) (o : BOp) (exit : Bool) (w : World) (hg : Has w g (ckRow s)) (hw : s.written < 268435456) (hf : formedB o = true) (h20 : (o.code == 20) = false) (hp : placedB s o (endsB o.code) exit = true)
    (h3 : (o.code == 23) = false) (h4 : leaves o.code = false) (hN' : hasN o.code = true) :
    Calls Try.prog 70 #[.pointer (some ⟨g, 0, none⟩), opV o, .bool (endsB o.code), .bool exit] w (CkPost g w (ckNext s o (endsB o.code) exit)) := by
  have hglt := hg.lt
  have hgl1 := lt_heap hglt
  have q0 : w.cell? ⟨g, 0, none⟩ = some (.int .i64 (s.marks : Int)) := (hg 0 _ rfl).1
  have q1 : w.cell? ⟨g, 1, none⟩ = some (.int .u32 (s.written : Int)) := (hg 1 _ rfl).1
  have q2 : w.cell? ⟨g, 2, none⟩ = some (.bool s.changed) := (hg 2 _ rfl).1
  have f0 := (hg 0 _ rfl).2
  have f1 := (hg 1 _ rfl).2
  have f2 := (hg 2 _ rfl).2
  clear hg
  have hl2 : (reads o).length ≤ 2 := by unfold reads; split <;> split <;> simp
  obtain ⟨hI, hd, ha, hb, -⟩ := formed_parts hf
  have HF := Lib.hid hf
  have HP := Lib.hid hp
  clear hf hp
  obtain ⟨n, hn⟩ : ∃ n, (reads o).length = n := ⟨_, rfl⟩
  rw [hn] at hl2
  have HN := Lib.hid hn
  clear hn
  unfold opV
  go_enter Try.func70, Try.ntmps70
  go_wp2_with (first | (go_at_call 73; refine (shapeOf_any _ _).mono ?_; rintro e w1 ⟨rfl, hb1⟩; obtain ⟨hc1, hf1⟩ := bcell hb1; have hz1 := hb1.size; try simp only [World.size_alloc] at hz1; have hy1_0 : w.heap.size < w1.heap.size := (by omega); have hc1_0 := fun o => hc1 (w.heap.size) o (by first | omega | (simp; done) | (simp; omega)); have hf1_0 := fun o => hf1 (w.heap.size) o (by first | omega | (simp; done) | (simp; omega)); have hy1_1 : g < w1.heap.size := (by omega); have hc1_1 := fun o => hc1 (g) o (by first | omega | (simp; done) | (simp; omega)); have hf1_1 := fun o => hf1 (g) o (by first | omega | (simp; done) | (simp; omega))) | (go_at_call 94; refine (field_ir _ _ _).mono ?_; rintro e w' ⟨rfl, rfl⟩) | (go_at_call 95; refine (ends_ir _ _).mono ?_; rintro e w' ⟨rfl, rfl⟩) | (go_at_call 44; refine (reads_ir o _).mono ?_; rintro e w2 ⟨r, rfl, hown, hb2⟩; rw [HN.out] at hown; obtain ⟨A, c, rfl, hs, -, -, -⟩ := own_slice hown; clear hown; obtain ⟨hc2, hf2⟩ := bcell hb2; have hz2 := hb2.size; try simp only [World.size_alloc] at hz2; have hy2_0 : w.heap.size < w2.heap.size := (by omega); have hc2_0 := fun o => hc2 (w.heap.size) o (by first | omega | (simp; done) | (simp; omega)); have hf2_0 := fun o => hf2 (w.heap.size) o (by first | omega | (simp; done) | (simp; omega)); have hy2_1 : w1.heap.size < w2.heap.size := (by omega); have hc2_1 := fun o => hc2 (w1.heap.size) o (by first | omega | (simp; done) | (simp; omega)); have hf2_1 := fun o => hf2 (w1.heap.size) o (by first | omega | (simp; done) | (simp; omega)); have hy2_2 : g < w2.heap.size := (by omega); have hc2_2 := fun o => hc2 (g) o (by first | omega | (simp; done) | (simp; omega)); have hf2_2 := fun o => hf2 (g) o (by first | omega | (simp; done) | (simp; omega))))
  go_loop [102] (fun i => ∃ k : Nat, k ≤ n ∧ i = .int .i64 k ∧ Hid (∀ x ∈ (reads o).take k, readB s x = true)) (fun i => n - (intOf i).toNat)
  case atStart => exact ⟨0, Nat.zero_le _, rfl, by unfold Hid; simp⟩
  case round =>
    obtain ⟨k, hk, rfl, hq⟩ := hrel
    by_cases hlt : k < n
    · obtain ⟨b, off, x, rfl, hbb, hx, hc⟩ := ints_at hs (by rw [HN.out]; exact hlt)
      have hx0 : 0 ≤ x := (reads_var HF.out x (List.mem_of_getElem? hx)).1
      have hx1 : x < 28 := (reads_var HF.out x (List.mem_of_getElem? hx)).2
      have HX := Lib.hid hx
      clear hx hs
      by_cases h20x : x < 20
      · go_wp2
        go_round
        case rel =>
          refine ⟨k + 1, by omega, by go_num, ?_⟩
          have hxx := HX.out
          unfold Hid at hq ⊢
          intro y hy
          rw [List.take_add_one, List.mem_append] at hy
          rcases hy with hy | hy
          · exact hq y hy
          · rw [hxx] at hy
            simp at hy
            subst hy
            simp [readB, h20x]
        case measure => simp [intOf]; omega
      · have h20y : 20 ≤ x := by omega
        clear h20x
        have hbt := bit_test s.written x.toNat (by omega)
        by_cases htb : s.written.testBit x.toNat = true
        · rw [htb] at hbt
          simp only [Bool.not_true] at hbt
          go_wp2
          go_round
          case rel =>
            refine ⟨k + 1, by omega, by go_num, ?_⟩
            have hxx := HX.out
            unfold Hid at hq ⊢
            intro y hy
            rw [List.take_add_one, List.mem_append] at hy
            rcases hy with hy | hy
            · exact hq y hy
            · rw [hxx] at hy
              simp at hy
              subst hy
              simp [readB, htb]
          case measure => simp [intOf]; omega
        · have htb' : s.written.testBit x.toNat = false := by simpa using htb
          rw [htb'] at hbt
          simp only [Bool.not_false] at hbt
          clear htb
          go_wp2
          go_ret
          refine post_none ?_ rfl (by repeat (first | exact World.grownBy.refl _ _ | assumption | (with_reducible refine only_drew ?_) | (with_reducible refine only_drewN ?_ _) | (with_reducible refine only_alloc ?_ _) | (with_reducible refine only_setCell ?_ (by first | exact .inl rfl | (right; simp; omega)) _) | (with_reducible refine only_below ?_ (by assumption) (by first | exact Nat.le_refl _ | assumption | (simp; done) | (simp; omega) | omega))))
          unfold ckNext
          rw [if_pos (by rw [HF.out, HP.out]; rfl), if_neg (by rw [h20]; simp), if_neg]
          intro hall
          rw [List.all_eq_true] at hall
          have := hall x (List.mem_of_getElem? HX.out)
          simp [readB, htb'] at this
          omega
    · have hall : Hid ((reads o).all (readB s) = true) := by
        unfold Hid
        rw [List.all_eq_true]
        intro x hx
        exact hq.out x (by rw [List.take_of_length_le (by rw [HN.out]; omega)]; exact hx)
      have hwv := writes_var HF.out
      clear hq
      obtain ⟨d, hd⟩ : ∃ d, writes o = d := ⟨_, rfl⟩
      have hwc := fun W => writes_ir o W
      rw [hd] at hwv
      simp only [hd] at hwc
      have HD := Lib.hid hd
      have HWC := Lib.hid hwc
      clear hd hwc
      by_cases hw20 : 20 ≤ d
      · have hd0 : 0 ≤ d := by omega
        have hor := bit_set s.written d.toNat (by omega) (by omega)
        cases hC : s.changed <;> cases hS : stores o.code
        · rw [hC] at q2
          have HC := Lib.hid hC
          clear hC
          go_wp2_with (go_at_call 40; refine (HWC.out _).mono ?_; rintro e w3 ⟨rfl, hb3⟩; obtain ⟨hc3, hf3⟩ := bcell hb3; have hz3 := hb3.size; try simp only [World.size_alloc, World.size_setCell, World.heap_drewN, World.size_drew] at hz3; have hy3_0 : w.heap.size < w3.heap.size := (by omega); have hc3_0 := fun o => hc3 (w.heap.size) o (by first | omega | (simp; done) | (simp; omega)); have hf3_0 := fun o => hf3 (w.heap.size) o (by first | omega | (simp; done) | (simp; omega)); have hy3_1 : w1.heap.size < w3.heap.size := (by omega); have hc3_1 := fun o => hc3 (w1.heap.size) o (by first | omega | (simp; done) | (simp; omega)); have hf3_1 := fun o => hf3 (w1.heap.size) o (by first | omega | (simp; done) | (simp; omega)); have hy3_2 : g < w3.heap.size := (by omega); have hc3_2 := fun o => hc3 (g) o (by first | omega | (simp; done) | (simp; omega)); have hf3_2 := fun o => hf3 (g) o (by first | omega | (simp; done) | (simp; omega)))
          go_region
          all_goals go_wp2
          go_ret
          exact post_some (s := ⟨s.marks, s.written ||| 2 ^ d.toNat, decide (d < 20)⟩) (by unfold ckNext; rw [if_pos (by rw [HF.out, HP.out]; rfl), if_neg (by rw [h20]; simp), if_pos hall.out, HD.out, HC.out, hS]; simp; try omega) rfl (by repeat (first | exact World.grownBy.refl _ _ | assumption | (with_reducible refine only_drew ?_) | (with_reducible refine only_drewN ?_ _) | (with_reducible refine only_alloc ?_ _) | (with_reducible refine only_setCell ?_ (by first | exact .inl rfl | (right; simp; omega)) _) | (with_reducible refine only_below ?_ (by assumption) (by first | exact Nat.le_refl _ | assumption | (simp; done) | (simp; omega) | omega)))) (has3 (by go_simp) (by go_simp) (by first | (go_simp; done) | exact World.cell?_setCell_same' _ _ _ (by go_simp)) (by go_simp) (by go_simp) (by go_simp))
        · rw [hC] at q2
          have HC := Lib.hid hC
          clear hC
          go_wp2_with (go_at_call 40; refine (HWC.out _).mono ?_; rintro e w3 ⟨rfl, hb3⟩; obtain ⟨hc3, hf3⟩ := bcell hb3; have hz3 := hb3.size; try simp only [World.size_alloc, World.size_setCell, World.heap_drewN, World.size_drew] at hz3; have hy3_0 : w.heap.size < w3.heap.size := (by omega); have hc3_0 := fun o => hc3 (w.heap.size) o (by first | omega | (simp; done) | (simp; omega)); have hf3_0 := fun o => hf3 (w.heap.size) o (by first | omega | (simp; done) | (simp; omega)); have hy3_1 : w1.heap.size < w3.heap.size := (by omega); have hc3_1 := fun o => hc3 (w1.heap.size) o (by first | omega | (simp; done) | (simp; omega)); have hf3_1 := fun o => hf3 (w1.heap.size) o (by first | omega | (simp; done) | (simp; omega)); have hy3_2 : g < w3.heap.size := (by omega); have hc3_2 := fun o => hc3 (g) o (by first | omega | (simp; done) | (simp; omega)); have hf3_2 := fun o => hf3 (g) o (by first | omega | (simp; done) | (simp; omega)))
          go_region
          all_goals go_wp2
          go_ret
          exact post_some (s := ⟨s.marks, s.written ||| 2 ^ d.toNat, true⟩) (by unfold ckNext; rw [if_pos (by rw [HF.out, HP.out]; rfl), if_neg (by rw [h20]; simp), if_pos hall.out, HD.out, HC.out, hS]; simp; try omega) rfl (by repeat (first | exact World.grownBy.refl _ _ | assumption | (with_reducible refine only_drew ?_) | (with_reducible refine only_drewN ?_ _) | (with_reducible refine only_alloc ?_ _) | (with_reducible refine only_setCell ?_ (by first | exact .inl rfl | (right; simp; omega)) _) | (with_reducible refine only_below ?_ (by assumption) (by first | exact Nat.le_refl _ | assumption | (simp; done) | (simp; omega) | omega)))) (has3 (by go_simp) (by go_simp) (by first | (go_simp; done) | exact World.cell?_setCell_same' _ _ _ (by go_simp)) (by go_simp) (by go_simp) (by go_simp))
        · rw [hC] at q2
          have HC := Lib.hid hC
          clear hC
          go_wp2_with (go_at_call 40; refine (HWC.out _).mono ?_; rintro e w3 ⟨rfl, hb3⟩; obtain ⟨hc3, hf3⟩ := bcell hb3; have hz3 := hb3.size; try simp only [World.size_alloc, World.size_setCell, World.heap_drewN, World.size_drew] at hz3; have hy3_0 : w.heap.size < w3.heap.size := (by omega); have hc3_0 := fun o => hc3 (w.heap.size) o (by first | omega | (simp; done) | (simp; omega)); have hf3_0 := fun o => hf3 (w.heap.size) o (by first | omega | (simp; done) | (simp; omega)); have hy3_1 : w1.heap.size < w3.heap.size := (by omega); have hc3_1 := fun o => hc3 (w1.heap.size) o (by first | omega | (simp; done) | (simp; omega)); have hf3_1 := fun o => hf3 (w1.heap.size) o (by first | omega | (simp; done) | (simp; omega)); have hy3_2 : g < w3.heap.size := (by omega); have hc3_2 := fun o => hc3 (g) o (by first | omega | (simp; done) | (simp; omega)); have hf3_2 := fun o => hf3 (g) o (by first | omega | (simp; done) | (simp; omega)))
          go_region
          all_goals go_wp2
          go_ret
          exact post_some (s := ⟨s.marks, s.written ||| 2 ^ d.toNat, true⟩) (by unfold ckNext; rw [if_pos (by rw [HF.out, HP.out]; rfl), if_neg (by rw [h20]; simp), if_pos hall.out, HD.out, HC.out, hS]; simp; try omega) rfl (by repeat (first | exact World.grownBy.refl _ _ | assumption | (with_reducible refine only_drew ?_) | (with_reducible refine only_drewN ?_ _) | (with_reducible refine only_alloc ?_ _) | (with_reducible refine only_setCell ?_ (by first | exact .inl rfl | (right; simp; omega)) _) | (with_reducible refine only_below ?_ (by assumption) (by first | exact Nat.le_refl _ | assumption | (simp; done) | (simp; omega) | omega)))) (has3 (by go_simp) (by go_simp) (by first | (go_simp; done) | exact World.cell?_setCell_same' _ _ _ (by go_simp)) (by go_simp) (by go_simp) (by go_simp))
        · rw [hC] at q2
          have HC := Lib.hid hC
          clear hC
          go_wp2_with (go_at_call 40; refine (HWC.out _).mono ?_; rintro e w3 ⟨rfl, hb3⟩; obtain ⟨hc3, hf3⟩ := bcell hb3; have hz3 := hb3.size; try simp only [World.size_alloc, World.size_setCell, World.heap_drewN, World.size_drew] at hz3; have hy3_0 : w.heap.size < w3.heap.size := (by omega); have hc3_0 := fun o => hc3 (w.heap.size) o (by first | omega | (simp; done) | (simp; omega)); have hf3_0 := fun o => hf3 (w.heap.size) o (by first | omega | (simp; done) | (simp; omega)); have hy3_1 : w1.heap.size < w3.heap.size := (by omega); have hc3_1 := fun o => hc3 (w1.heap.size) o (by first | omega | (simp; done) | (simp; omega)); have hf3_1 := fun o => hf3 (w1.heap.size) o (by first | omega | (simp; done) | (simp; omega)); have hy3_2 : g < w3.heap.size := (by omega); have hc3_2 := fun o => hc3 (g) o (by first | omega | (simp; done) | (simp; omega)); have hf3_2 := fun o => hf3 (g) o (by first | omega | (simp; done) | (simp; omega)))
          go_region
          all_goals go_wp2
          go_ret
          exact post_some (s := ⟨s.marks, s.written ||| 2 ^ d.toNat, true⟩) (by unfold ckNext; rw [if_pos (by rw [HF.out, HP.out]; rfl), if_neg (by rw [h20]; simp), if_pos hall.out, HD.out, HC.out, hS]; simp; try omega) rfl (by repeat (first | exact World.grownBy.refl _ _ | assumption | (with_reducible refine only_drew ?_) | (with_reducible refine only_drewN ?_ _) | (with_reducible refine only_alloc ?_ _) | (with_reducible refine only_setCell ?_ (by first | exact .inl rfl | (right; simp; omega)) _) | (with_reducible refine only_below ?_ (by assumption) (by first | exact Nat.le_refl _ | assumption | (simp; done) | (simp; omega) | omega)))) (has3 (by go_simp) (by go_simp) (by first | (go_simp; done) | exact World.cell?_setCell_same' _ _ _ (by go_simp)) (by go_simp) (by go_simp) (by go_simp))
      · have hd1 : d < 20 := by omega
        clear hw20
        by_cases hd0 : 0 ≤ d
        · cases hC : s.changed <;> cases hS : stores o.code
          · rw [hC] at q2
            have HC := Lib.hid hC
            clear hC
            go_wp2_with (go_at_call 40; refine (HWC.out _).mono ?_; rintro e w3 ⟨rfl, hb3⟩; obtain ⟨hc3, hf3⟩ := bcell hb3; have hz3 := hb3.size; try simp only [World.size_alloc, World.size_setCell, World.heap_drewN, World.size_drew] at hz3; have hy3_0 : w.heap.size < w3.heap.size := (by omega); have hc3_0 := fun o => hc3 (w.heap.size) o (by first | omega | (simp; done) | (simp; omega)); have hf3_0 := fun o => hf3 (w.heap.size) o (by first | omega | (simp; done) | (simp; omega)); have hy3_1 : w1.heap.size < w3.heap.size := (by omega); have hc3_1 := fun o => hc3 (w1.heap.size) o (by first | omega | (simp; done) | (simp; omega)); have hf3_1 := fun o => hf3 (w1.heap.size) o (by first | omega | (simp; done) | (simp; omega)); have hy3_2 : g < w3.heap.size := (by omega); have hc3_2 := fun o => hc3 (g) o (by first | omega | (simp; done) | (simp; omega)); have hf3_2 := fun o => hf3 (g) o (by first | omega | (simp; done) | (simp; omega)))
            go_ret
            exact post_some (s := ⟨s.marks, s.written, true⟩) (by unfold ckNext; rw [if_pos (by rw [HF.out, HP.out]; rfl), if_neg (by rw [h20]; simp), if_pos hall.out, HD.out, HC.out, hS]; simp; try omega) rfl (by repeat (first | exact World.grownBy.refl _ _ | assumption | (with_reducible refine only_drew ?_) | (with_reducible refine only_drewN ?_ _) | (with_reducible refine only_alloc ?_ _) | (with_reducible refine only_setCell ?_ (by first | exact .inl rfl | (right; simp; omega)) _) | (with_reducible refine only_below ?_ (by assumption) (by first | exact Nat.le_refl _ | assumption | (simp; done) | (simp; omega) | omega)))) (has3 (by go_simp) (by go_simp) (by first | (go_simp; done) | exact World.cell?_setCell_same' _ _ _ (by go_simp)) (by go_simp) (by go_simp) (by go_simp))
          · rw [hC] at q2
            have HC := Lib.hid hC
            clear hC
            go_wp2_with (go_at_call 40; refine (HWC.out _).mono ?_; rintro e w3 ⟨rfl, hb3⟩; obtain ⟨hc3, hf3⟩ := bcell hb3; have hz3 := hb3.size; try simp only [World.size_alloc, World.size_setCell, World.heap_drewN, World.size_drew] at hz3; have hy3_0 : w.heap.size < w3.heap.size := (by omega); have hc3_0 := fun o => hc3 (w.heap.size) o (by first | omega | (simp; done) | (simp; omega)); have hf3_0 := fun o => hf3 (w.heap.size) o (by first | omega | (simp; done) | (simp; omega)); have hy3_1 : w1.heap.size < w3.heap.size := (by omega); have hc3_1 := fun o => hc3 (w1.heap.size) o (by first | omega | (simp; done) | (simp; omega)); have hf3_1 := fun o => hf3 (w1.heap.size) o (by first | omega | (simp; done) | (simp; omega)); have hy3_2 : g < w3.heap.size := (by omega); have hc3_2 := fun o => hc3 (g) o (by first | omega | (simp; done) | (simp; omega)); have hf3_2 := fun o => hf3 (g) o (by first | omega | (simp; done) | (simp; omega)))
            go_ret
            exact post_some (s := ⟨s.marks, s.written, true⟩) (by unfold ckNext; rw [if_pos (by rw [HF.out, HP.out]; rfl), if_neg (by rw [h20]; simp), if_pos hall.out, HD.out, HC.out, hS]; simp; try omega) rfl (by repeat (first | exact World.grownBy.refl _ _ | assumption | (with_reducible refine only_drew ?_) | (with_reducible refine only_drewN ?_ _) | (with_reducible refine only_alloc ?_ _) | (with_reducible refine only_setCell ?_ (by first | exact .inl rfl | (right; simp; omega)) _) | (with_reducible refine only_below ?_ (by assumption) (by first | exact Nat.le_refl _ | assumption | (simp; done) | (simp; omega) | omega)))) (has3 (by go_simp) (by go_simp) (by first | (go_simp; done) | exact World.cell?_setCell_same' _ _ _ (by go_simp)) (by go_simp) (by go_simp) (by go_simp))
          · rw [hC] at q2
            have HC := Lib.hid hC
            clear hC
            go_wp2_with (go_at_call 40; refine (HWC.out _).mono ?_; rintro e w3 ⟨rfl, hb3⟩; obtain ⟨hc3, hf3⟩ := bcell hb3; have hz3 := hb3.size; try simp only [World.size_alloc, World.size_setCell, World.heap_drewN, World.size_drew] at hz3; have hy3_0 : w.heap.size < w3.heap.size := (by omega); have hc3_0 := fun o => hc3 (w.heap.size) o (by first | omega | (simp; done) | (simp; omega)); have hf3_0 := fun o => hf3 (w.heap.size) o (by first | omega | (simp; done) | (simp; omega)); have hy3_1 : w1.heap.size < w3.heap.size := (by omega); have hc3_1 := fun o => hc3 (w1.heap.size) o (by first | omega | (simp; done) | (simp; omega)); have hf3_1 := fun o => hf3 (w1.heap.size) o (by first | omega | (simp; done) | (simp; omega)); have hy3_2 : g < w3.heap.size := (by omega); have hc3_2 := fun o => hc3 (g) o (by first | omega | (simp; done) | (simp; omega)); have hf3_2 := fun o => hf3 (g) o (by first | omega | (simp; done) | (simp; omega)))
            go_ret
            exact post_some (s := ⟨s.marks, s.written, true⟩) (by unfold ckNext; rw [if_pos (by rw [HF.out, HP.out]; rfl), if_neg (by rw [h20]; simp), if_pos hall.out, HD.out, HC.out, hS]; simp; try omega) rfl (by repeat (first | exact World.grownBy.refl _ _ | assumption | (with_reducible refine only_drew ?_) | (with_reducible refine only_drewN ?_ _) | (with_reducible refine only_alloc ?_ _) | (with_reducible refine only_setCell ?_ (by first | exact .inl rfl | (right; simp; omega)) _) | (with_reducible refine only_below ?_ (by assumption) (by first | exact Nat.le_refl _ | assumption | (simp; done) | (simp; omega) | omega)))) (has3 (by go_simp) (by go_simp) (by first | (go_simp; done) | exact World.cell?_setCell_same' _ _ _ (by go_simp)) (by go_simp) (by go_simp) (by go_simp))
          · rw [hC] at q2
            have HC := Lib.hid hC
            clear hC
            go_wp2_with (go_at_call 40; refine (HWC.out _).mono ?_; rintro e w3 ⟨rfl, hb3⟩; obtain ⟨hc3, hf3⟩ := bcell hb3; have hz3 := hb3.size; try simp only [World.size_alloc, World.size_setCell, World.heap_drewN, World.size_drew] at hz3; have hy3_0 : w.heap.size < w3.heap.size := (by omega); have hc3_0 := fun o => hc3 (w.heap.size) o (by first | omega | (simp; done) | (simp; omega)); have hf3_0 := fun o => hf3 (w.heap.size) o (by first | omega | (simp; done) | (simp; omega)); have hy3_1 : w1.heap.size < w3.heap.size := (by omega); have hc3_1 := fun o => hc3 (w1.heap.size) o (by first | omega | (simp; done) | (simp; omega)); have hf3_1 := fun o => hf3 (w1.heap.size) o (by first | omega | (simp; done) | (simp; omega)); have hy3_2 : g < w3.heap.size := (by omega); have hc3_2 := fun o => hc3 (g) o (by first | omega | (simp; done) | (simp; omega)); have hf3_2 := fun o => hf3 (g) o (by first | omega | (simp; done) | (simp; omega)))
            go_ret
            exact post_some (s := ⟨s.marks, s.written, true⟩) (by unfold ckNext; rw [if_pos (by rw [HF.out, HP.out]; rfl), if_neg (by rw [h20]; simp), if_pos hall.out, HD.out, HC.out, hS]; simp; try omega) rfl (by repeat (first | exact World.grownBy.refl _ _ | assumption | (with_reducible refine only_drew ?_) | (with_reducible refine only_drewN ?_ _) | (with_reducible refine only_alloc ?_ _) | (with_reducible refine only_setCell ?_ (by first | exact .inl rfl | (right; simp; omega)) _) | (with_reducible refine only_below ?_ (by assumption) (by first | exact Nat.le_refl _ | assumption | (simp; done) | (simp; omega) | omega)))) (has3 (by go_simp) (by go_simp) (by first | (go_simp; done) | exact World.cell?_setCell_same' _ _ _ (by go_simp)) (by go_simp) (by go_simp) (by go_simp))
        · have hd2 : d < 0 := by omega
          clear hd0
          cases hC : s.changed <;> cases hS : stores o.code
          · rw [hC] at q2
            have HC := Lib.hid hC
            clear hC
            go_wp2_with (go_at_call 40; refine (HWC.out _).mono ?_; rintro e w3 ⟨rfl, hb3⟩; obtain ⟨hc3, hf3⟩ := bcell hb3; have hz3 := hb3.size; try simp only [World.size_alloc, World.size_setCell, World.heap_drewN, World.size_drew] at hz3; have hy3_0 : w.heap.size < w3.heap.size := (by omega); have hc3_0 := fun o => hc3 (w.heap.size) o (by first | omega | (simp; done) | (simp; omega)); have hf3_0 := fun o => hf3 (w.heap.size) o (by first | omega | (simp; done) | (simp; omega)); have hy3_1 : w1.heap.size < w3.heap.size := (by omega); have hc3_1 := fun o => hc3 (w1.heap.size) o (by first | omega | (simp; done) | (simp; omega)); have hf3_1 := fun o => hf3 (w1.heap.size) o (by first | omega | (simp; done) | (simp; omega)); have hy3_2 : g < w3.heap.size := (by omega); have hc3_2 := fun o => hc3 (g) o (by first | omega | (simp; done) | (simp; omega)); have hf3_2 := fun o => hf3 (g) o (by first | omega | (simp; done) | (simp; omega)))
            go_ret
            exact post_some (s := ⟨s.marks, s.written, false⟩) (by unfold ckNext; rw [if_pos (by rw [HF.out, HP.out]; rfl), if_neg (by rw [h20]; simp), if_pos hall.out, HD.out, HC.out, hS]; simp; try omega) rfl (by repeat (first | exact World.grownBy.refl _ _ | assumption | (with_reducible refine only_drew ?_) | (with_reducible refine only_drewN ?_ _) | (with_reducible refine only_alloc ?_ _) | (with_reducible refine only_setCell ?_ (by first | exact .inl rfl | (right; simp; omega)) _) | (with_reducible refine only_below ?_ (by assumption) (by first | exact Nat.le_refl _ | assumption | (simp; done) | (simp; omega) | omega)))) (has3 (by go_simp) (by go_simp) (by first | (go_simp; done) | exact World.cell?_setCell_same' _ _ _ (by go_simp)) (by go_simp) (by go_simp) (by go_simp))
          · rw [hC] at q2
            have HC := Lib.hid hC
            clear hC
            go_wp2_with (go_at_call 40; refine (HWC.out _).mono ?_; rintro e w3 ⟨rfl, hb3⟩; obtain ⟨hc3, hf3⟩ := bcell hb3; have hz3 := hb3.size; try simp only [World.size_alloc, World.size_setCell, World.heap_drewN, World.size_drew] at hz3; have hy3_0 : w.heap.size < w3.heap.size := (by omega); have hc3_0 := fun o => hc3 (w.heap.size) o (by first | omega | (simp; done) | (simp; omega)); have hf3_0 := fun o => hf3 (w.heap.size) o (by first | omega | (simp; done) | (simp; omega)); have hy3_1 : w1.heap.size < w3.heap.size := (by omega); have hc3_1 := fun o => hc3 (w1.heap.size) o (by first | omega | (simp; done) | (simp; omega)); have hf3_1 := fun o => hf3 (w1.heap.size) o (by first | omega | (simp; done) | (simp; omega)); have hy3_2 : g < w3.heap.size := (by omega); have hc3_2 := fun o => hc3 (g) o (by first | omega | (simp; done) | (simp; omega)); have hf3_2 := fun o => hf3 (g) o (by first | omega | (simp; done) | (simp; omega)))
            go_ret
            exact post_some (s := ⟨s.marks, s.written, true⟩) (by unfold ckNext; rw [if_pos (by rw [HF.out, HP.out]; rfl), if_neg (by rw [h20]; simp), if_pos hall.out, HD.out, HC.out, hS]; simp; try omega) rfl (by repeat (first | exact World.grownBy.refl _ _ | assumption | (with_reducible refine only_drew ?_) | (with_reducible refine only_drewN ?_ _) | (with_reducible refine only_alloc ?_ _) | (with_reducible refine only_setCell ?_ (by first | exact .inl rfl | (right; simp; omega)) _) | (with_reducible refine only_below ?_ (by assumption) (by first | exact Nat.le_refl _ | assumption | (simp; done) | (simp; omega) | omega)))) (has3 (by go_simp) (by go_simp) (by first | (go_simp; done) | exact World.cell?_setCell_same' _ _ _ (by go_simp)) (by go_simp) (by go_simp) (by go_simp))
          · rw [hC] at q2
            have HC := Lib.hid hC
            clear hC
            go_wp2_with (go_at_call 40; refine (HWC.out _).mono ?_; rintro e w3 ⟨rfl, hb3⟩; obtain ⟨hc3, hf3⟩ := bcell hb3; have hz3 := hb3.size; try simp only [World.size_alloc, World.size_setCell, World.heap_drewN, World.size_drew] at hz3; have hy3_0 : w.heap.size < w3.heap.size := (by omega); have hc3_0 := fun o => hc3 (w.heap.size) o (by first | omega | (simp; done) | (simp; omega)); have hf3_0 := fun o => hf3 (w.heap.size) o (by first | omega | (simp; done) | (simp; omega)); have hy3_1 : w1.heap.size < w3.heap.size := (by omega); have hc3_1 := fun o => hc3 (w1.heap.size) o (by first | omega | (simp; done) | (simp; omega)); have hf3_1 := fun o => hf3 (w1.heap.size) o (by first | omega | (simp; done) | (simp; omega)); have hy3_2 : g < w3.heap.size := (by omega); have hc3_2 := fun o => hc3 (g) o (by first | omega | (simp; done) | (simp; omega)); have hf3_2 := fun o => hf3 (g) o (by first | omega | (simp; done) | (simp; omega)))
            go_ret
            exact post_some (s := ⟨s.marks, s.written, true⟩) (by unfold ckNext; rw [if_pos (by rw [HF.out, HP.out]; rfl), if_neg (by rw [h20]; simp), if_pos hall.out, HD.out, HC.out, hS]; simp; try omega) rfl (by repeat (first | exact World.grownBy.refl _ _ | assumption | (with_reducible refine only_drew ?_) | (with_reducible refine only_drewN ?_ _) | (with_reducible refine only_alloc ?_ _) | (with_reducible refine only_setCell ?_ (by first | exact .inl rfl | (right; simp; omega)) _) | (with_reducible refine only_below ?_ (by assumption) (by first | exact Nat.le_refl _ | assumption | (simp; done) | (simp; omega) | omega)))) (has3 (by go_simp) (by go_simp) (by first | (go_simp; done) | exact World.cell?_setCell_same' _ _ _ (by go_simp)) (by go_simp) (by go_simp) (by go_simp))
          · rw [hC] at q2
            have HC := Lib.hid hC
            clear hC
            go_wp2_with (go_at_call 40; refine (HWC.out _).mono ?_; rintro e w3 ⟨rfl, hb3⟩; obtain ⟨hc3, hf3⟩ := bcell hb3; have hz3 := hb3.size; try simp only [World.size_alloc, World.size_setCell, World.heap_drewN, World.size_drew] at hz3; have hy3_0 : w.heap.size < w3.heap.size := (by omega); have hc3_0 := fun o => hc3 (w.heap.size) o (by first | omega | (simp; done) | (simp; omega)); have hf3_0 := fun o => hf3 (w.heap.size) o (by first | omega | (simp; done) | (simp; omega)); have hy3_1 : w1.heap.size < w3.heap.size := (by omega); have hc3_1 := fun o => hc3 (w1.heap.size) o (by first | omega | (simp; done) | (simp; omega)); have hf3_1 := fun o => hf3 (w1.heap.size) o (by first | omega | (simp; done) | (simp; omega)); have hy3_2 : g < w3.heap.size := (by omega); have hc3_2 := fun o => hc3 (g) o (by first | omega | (simp; done) | (simp; omega)); have hf3_2 := fun o => hf3 (g) o (by first | omega | (simp; done) | (simp; omega)))
            go_ret
            exact post_some (s := ⟨s.marks, s.written, true⟩) (by unfold ckNext; rw [if_pos (by rw [HF.out, HP.out]; rfl), if_neg (by rw [h20]; simp), if_pos hall.out, HD.out, HC.out, hS]; simp; try omega) rfl (by repeat (first | exact World.grownBy.refl _ _ | assumption | (with_reducible refine only_drew ?_) | (with_reducible refine only_drewN ?_ _) | (with_reducible refine only_alloc ?_ _) | (with_reducible refine only_setCell ?_ (by first | exact .inl rfl | (right; simp; omega)) _) | (with_reducible refine only_below ?_ (by assumption) (by first | exact Nat.le_refl _ | assumption | (simp; done) | (simp; omega) | omega)))) (has3 (by go_simp) (by go_simp) (by first | (go_simp; done) | exact World.cell?_setCell_same' _ _ _ (by go_simp)) (by go_simp) (by go_simp) (by go_simp))

set_option maxRecDepth 100000 in
set_option maxHeartbeats 2000000 in
theorem next_plain1 (g : Nat) (s : Ck) (o : BOp) (exit : Bool) (w : World) (hg : Has w g (ckRow s)) (hw : s.written < 268435456) (hf : formedB o = true) (h20 : (o.code == 20) = false) (hp : placedB s o (endsB o.code) exit = true)
    (h3 : (o.code == 23) = false) (h4 : leaves o.code = false) (hN' : hasN o.code = false) (h0 : (o.n != 0) = false) :
    Calls Try.prog 70 #[.pointer (some ⟨g, 0, none⟩), opV o, .bool (endsB o.code), .bool exit] w (CkPost g w (ckNext s o (endsB o.code) exit)) := by
  have hglt := hg.lt
  have hgl1 := lt_heap hglt
  have q0 : w.cell? ⟨g, 0, none⟩ = some (.int .i64 (s.marks : Int)) := (hg 0 _ rfl).1
  have q1 : w.cell? ⟨g, 1, none⟩ = some (.int .u32 (s.written : Int)) := (hg 1 _ rfl).1
  have q2 : w.cell? ⟨g, 2, none⟩ = some (.bool s.changed) := (hg 2 _ rfl).1
  have f0 := (hg 0 _ rfl).2
  have f1 := (hg 1 _ rfl).2
  have f2 := (hg 2 _ rfl).2
  clear hg
  have hl2 : (reads o).length ≤ 2 := by unfold reads; split <;> split <;> simp
  obtain ⟨hI, hd, ha, hb, -⟩ := formed_parts hf
  have HF := Lib.hid hf
  have HP := Lib.hid hp
  clear hf hp
  obtain ⟨n, hn⟩ : ∃ n, (reads o).length = n := ⟨_, rfl⟩
  rw [hn] at hl2
  have HN := Lib.hid hn
  clear hn
  unfold opV
  go_enter Try.func70, Try.ntmps70
  go_wp2_with (first | (go_at_call 73; refine (shapeOf_any _ _).mono ?_; rintro e w1 ⟨rfl, hb1⟩; obtain ⟨hc1, hf1⟩ := bcell hb1; have hz1 := hb1.size; try simp only [World.size_alloc] at hz1; have hy1_0 : w.heap.size < w1.heap.size := (by omega); have hc1_0 := fun o => hc1 (w.heap.size) o (by first | omega | (simp; done) | (simp; omega)); have hf1_0 := fun o => hf1 (w.heap.size) o (by first | omega | (simp; done) | (simp; omega)); have hy1_1 : g < w1.heap.size := (by omega); have hc1_1 := fun o => hc1 (g) o (by first | omega | (simp; done) | (simp; omega)); have hf1_1 := fun o => hf1 (g) o (by first | omega | (simp; done) | (simp; omega))) | (go_at_call 94; refine (field_ir _ _ _).mono ?_; rintro e w' ⟨rfl, rfl⟩) | (go_at_call 95; refine (ends_ir _ _).mono ?_; rintro e w' ⟨rfl, rfl⟩) | (go_at_call 44; refine (reads_ir o _).mono ?_; rintro e w2 ⟨r, rfl, hown, hb2⟩; rw [HN.out] at hown; obtain ⟨A, c, rfl, hs, -, -, -⟩ := own_slice hown; clear hown; obtain ⟨hc2, hf2⟩ := bcell hb2; have hz2 := hb2.size; try simp only [World.size_alloc] at hz2; have hy2_0 : w.heap.size < w2.heap.size := (by omega); have hc2_0 := fun o => hc2 (w.heap.size) o (by first | omega | (simp; done) | (simp; omega)); have hf2_0 := fun o => hf2 (w.heap.size) o (by first | omega | (simp; done) | (simp; omega)); have hy2_1 : w1.heap.size < w2.heap.size := (by omega); have hc2_1 := fun o => hc2 (w1.heap.size) o (by first | omega | (simp; done) | (simp; omega)); have hf2_1 := fun o => hf2 (w1.heap.size) o (by first | omega | (simp; done) | (simp; omega)); have hy2_2 : g < w2.heap.size := (by omega); have hc2_2 := fun o => hc2 (g) o (by first | omega | (simp; done) | (simp; omega)); have hf2_2 := fun o => hf2 (g) o (by first | omega | (simp; done) | (simp; omega))))
  go_loop [102] (fun i => ∃ k : Nat, k ≤ n ∧ i = .int .i64 k ∧ Hid (∀ x ∈ (reads o).take k, readB s x = true)) (fun i => n - (intOf i).toNat)
  case atStart => exact ⟨0, Nat.zero_le _, rfl, by unfold Hid; simp⟩
  case round =>
    obtain ⟨k, hk, rfl, hq⟩ := hrel
    by_cases hlt : k < n
    · obtain ⟨b, off, x, rfl, hbb, hx, hc⟩ := ints_at hs (by rw [HN.out]; exact hlt)
      have hx0 : 0 ≤ x := (reads_var HF.out x (List.mem_of_getElem? hx)).1
      have hx1 : x < 28 := (reads_var HF.out x (List.mem_of_getElem? hx)).2
      have HX := Lib.hid hx
      clear hx hs
      by_cases h20x : x < 20
      · go_wp2
        go_round
        case rel =>
          refine ⟨k + 1, by omega, by go_num, ?_⟩
          have hxx := HX.out
          unfold Hid at hq ⊢
          intro y hy
          rw [List.take_add_one, List.mem_append] at hy
          rcases hy with hy | hy
          · exact hq y hy
          · rw [hxx] at hy
            simp at hy
            subst hy
            simp [readB, h20x]
        case measure => simp [intOf]; omega
      · have h20y : 20 ≤ x := by omega
        clear h20x
        have hbt := bit_test s.written x.toNat (by omega)
        by_cases htb : s.written.testBit x.toNat = true
        · rw [htb] at hbt
          simp only [Bool.not_true] at hbt
          go_wp2
          go_round
          case rel =>
            refine ⟨k + 1, by omega, by go_num, ?_⟩
            have hxx := HX.out
            unfold Hid at hq ⊢
            intro y hy
            rw [List.take_add_one, List.mem_append] at hy
            rcases hy with hy | hy
            · exact hq y hy
            · rw [hxx] at hy
              simp at hy
              subst hy
              simp [readB, htb]
          case measure => simp [intOf]; omega
        · have htb' : s.written.testBit x.toNat = false := by simpa using htb
          rw [htb'] at hbt
          simp only [Bool.not_false] at hbt
          clear htb
          go_wp2
          go_ret
          refine post_none ?_ rfl (by repeat (first | exact World.grownBy.refl _ _ | assumption | (with_reducible refine only_drew ?_) | (with_reducible refine only_drewN ?_ _) | (with_reducible refine only_alloc ?_ _) | (with_reducible refine only_setCell ?_ (by first | exact .inl rfl | (right; simp; omega)) _) | (with_reducible refine only_below ?_ (by assumption) (by first | exact Nat.le_refl _ | assumption | (simp; done) | (simp; omega) | omega))))
          unfold ckNext
          rw [if_pos (by rw [HF.out, HP.out]; rfl), if_neg (by rw [h20]; simp), if_neg]
          intro hall
          rw [List.all_eq_true] at hall
          have := hall x (List.mem_of_getElem? HX.out)
          simp [readB, htb'] at this
          omega
    · have hall : Hid ((reads o).all (readB s) = true) := by
        unfold Hid
        rw [List.all_eq_true]
        intro x hx
        exact hq.out x (by rw [List.take_of_length_le (by rw [HN.out]; omega)]; exact hx)
      have hwv := writes_var HF.out
      clear hq
      obtain ⟨d, hd⟩ : ∃ d, writes o = d := ⟨_, rfl⟩
      have hwc := fun W => writes_ir o W
      rw [hd] at hwv
      simp only [hd] at hwc
      have HD := Lib.hid hd
      have HWC := Lib.hid hwc
      clear hd hwc
      by_cases hw20 : 20 ≤ d
      · have hd0 : 0 ≤ d := by omega
        have hor := bit_set s.written d.toNat (by omega) (by omega)
        cases hC : s.changed <;> cases hS : stores o.code
        · rw [hC] at q2
          have HC := Lib.hid hC
          clear hC
          go_wp2_with (go_at_call 40; refine (HWC.out _).mono ?_; rintro e w3 ⟨rfl, hb3⟩; obtain ⟨hc3, hf3⟩ := bcell hb3; have hz3 := hb3.size; try simp only [World.size_alloc, World.size_setCell, World.heap_drewN, World.size_drew] at hz3; have hy3_0 : w.heap.size < w3.heap.size := (by omega); have hc3_0 := fun o => hc3 (w.heap.size) o (by first | omega | (simp; done) | (simp; omega)); have hf3_0 := fun o => hf3 (w.heap.size) o (by first | omega | (simp; done) | (simp; omega)); have hy3_1 : w1.heap.size < w3.heap.size := (by omega); have hc3_1 := fun o => hc3 (w1.heap.size) o (by first | omega | (simp; done) | (simp; omega)); have hf3_1 := fun o => hf3 (w1.heap.size) o (by first | omega | (simp; done) | (simp; omega)); have hy3_2 : g < w3.heap.size := (by omega); have hc3_2 := fun o => hc3 (g) o (by first | omega | (simp; done) | (simp; omega)); have hf3_2 := fun o => hf3 (g) o (by first | omega | (simp; done) | (simp; omega)))
          go_region
          all_goals go_wp2
          go_ret
          exact post_some (s := ⟨s.marks, s.written ||| 2 ^ d.toNat, decide (d < 20)⟩) (by unfold ckNext; rw [if_pos (by rw [HF.out, HP.out]; rfl), if_neg (by rw [h20]; simp), if_pos hall.out, HD.out, HC.out, hS]; simp; try omega) rfl (by repeat (first | exact World.grownBy.refl _ _ | assumption | (with_reducible refine only_drew ?_) | (with_reducible refine only_drewN ?_ _) | (with_reducible refine only_alloc ?_ _) | (with_reducible refine only_setCell ?_ (by first | exact .inl rfl | (right; simp; omega)) _) | (with_reducible refine only_below ?_ (by assumption) (by first | exact Nat.le_refl _ | assumption | (simp; done) | (simp; omega) | omega)))) (has3 (by go_simp) (by go_simp) (by first | (go_simp; done) | exact World.cell?_setCell_same' _ _ _ (by go_simp)) (by go_simp) (by go_simp) (by go_simp))
        · rw [hC] at q2
          have HC := Lib.hid hC
          clear hC
          go_wp2_with (go_at_call 40; refine (HWC.out _).mono ?_; rintro e w3 ⟨rfl, hb3⟩; obtain ⟨hc3, hf3⟩ := bcell hb3; have hz3 := hb3.size; try simp only [World.size_alloc, World.size_setCell, World.heap_drewN, World.size_drew] at hz3; have hy3_0 : w.heap.size < w3.heap.size := (by omega); have hc3_0 := fun o => hc3 (w.heap.size) o (by first | omega | (simp; done) | (simp; omega)); have hf3_0 := fun o => hf3 (w.heap.size) o (by first | omega | (simp; done) | (simp; omega)); have hy3_1 : w1.heap.size < w3.heap.size := (by omega); have hc3_1 := fun o => hc3 (w1.heap.size) o (by first | omega | (simp; done) | (simp; omega)); have hf3_1 := fun o => hf3 (w1.heap.size) o (by first | omega | (simp; done) | (simp; omega)); have hy3_2 : g < w3.heap.size := (by omega); have hc3_2 := fun o => hc3 (g) o (by first | omega | (simp; done) | (simp; omega)); have hf3_2 := fun o => hf3 (g) o (by first | omega | (simp; done) | (simp; omega)))
          go_region
          all_goals go_wp2
          go_ret
          exact post_some (s := ⟨s.marks, s.written ||| 2 ^ d.toNat, true⟩) (by unfold ckNext; rw [if_pos (by rw [HF.out, HP.out]; rfl), if_neg (by rw [h20]; simp), if_pos hall.out, HD.out, HC.out, hS]; simp; try omega) rfl (by repeat (first | exact World.grownBy.refl _ _ | assumption | (with_reducible refine only_drew ?_) | (with_reducible refine only_drewN ?_ _) | (with_reducible refine only_alloc ?_ _) | (with_reducible refine only_setCell ?_ (by first | exact .inl rfl | (right; simp; omega)) _) | (with_reducible refine only_below ?_ (by assumption) (by first | exact Nat.le_refl _ | assumption | (simp; done) | (simp; omega) | omega)))) (has3 (by go_simp) (by go_simp) (by first | (go_simp; done) | exact World.cell?_setCell_same' _ _ _ (by go_simp)) (by go_simp) (by go_simp) (by go_simp))
        · rw [hC] at q2
          have HC := Lib.hid hC
          clear hC
          go_wp2_with (go_at_call 40; refine (HWC.out _).mono ?_; rintro e w3 ⟨rfl, hb3⟩; obtain ⟨hc3, hf3⟩ := bcell hb3; have hz3 := hb3.size; try simp only [World.size_alloc, World.size_setCell, World.heap_drewN, World.size_drew] at hz3; have hy3_0 : w.heap.size < w3.heap.size := (by omega); have hc3_0 := fun o => hc3 (w.heap.size) o (by first | omega | (simp; done) | (simp; omega)); have hf3_0 := fun o => hf3 (w.heap.size) o (by first | omega | (simp; done) | (simp; omega)); have hy3_1 : w1.heap.size < w3.heap.size := (by omega); have hc3_1 := fun o => hc3 (w1.heap.size) o (by first | omega | (simp; done) | (simp; omega)); have hf3_1 := fun o => hf3 (w1.heap.size) o (by first | omega | (simp; done) | (simp; omega)); have hy3_2 : g < w3.heap.size := (by omega); have hc3_2 := fun o => hc3 (g) o (by first | omega | (simp; done) | (simp; omega)); have hf3_2 := fun o => hf3 (g) o (by first | omega | (simp; done) | (simp; omega)))
          go_region
          all_goals go_wp2
          go_ret
          exact post_some (s := ⟨s.marks, s.written ||| 2 ^ d.toNat, true⟩) (by unfold ckNext; rw [if_pos (by rw [HF.out, HP.out]; rfl), if_neg (by rw [h20]; simp), if_pos hall.out, HD.out, HC.out, hS]; simp; try omega) rfl (by repeat (first | exact World.grownBy.refl _ _ | assumption | (with_reducible refine only_drew ?_) | (with_reducible refine only_drewN ?_ _) | (with_reducible refine only_alloc ?_ _) | (with_reducible refine only_setCell ?_ (by first | exact .inl rfl | (right; simp; omega)) _) | (with_reducible refine only_below ?_ (by assumption) (by first | exact Nat.le_refl _ | assumption | (simp; done) | (simp; omega) | omega)))) (has3 (by go_simp) (by go_simp) (by first | (go_simp; done) | exact World.cell?_setCell_same' _ _ _ (by go_simp)) (by go_simp) (by go_simp) (by go_simp))
        · rw [hC] at q2
          have HC := Lib.hid hC
          clear hC
          go_wp2_with (go_at_call 40; refine (HWC.out _).mono ?_; rintro e w3 ⟨rfl, hb3⟩; obtain ⟨hc3, hf3⟩ := bcell hb3; have hz3 := hb3.size; try simp only [World.size_alloc, World.size_setCell, World.heap_drewN, World.size_drew] at hz3; have hy3_0 : w.heap.size < w3.heap.size := (by omega); have hc3_0 := fun o => hc3 (w.heap.size) o (by first | omega | (simp; done) | (simp; omega)); have hf3_0 := fun o => hf3 (w.heap.size) o (by first | omega | (simp; done) | (simp; omega)); have hy3_1 : w1.heap.size < w3.heap.size := (by omega); have hc3_1 := fun o => hc3 (w1.heap.size) o (by first | omega | (simp; done) | (simp; omega)); have hf3_1 := fun o => hf3 (w1.heap.size) o (by first | omega | (simp; done) | (simp; omega)); have hy3_2 : g < w3.heap.size := (by omega); have hc3_2 := fun o => hc3 (g) o (by first | omega | (simp; done) | (simp; omega)); have hf3_2 := fun o => hf3 (g) o (by first | omega | (simp; done) | (simp; omega)))
          go_region
          all_goals go_wp2
          go_ret
          exact post_some (s := ⟨s.marks, s.written ||| 2 ^ d.toNat, true⟩) (by unfold ckNext; rw [if_pos (by rw [HF.out, HP.out]; rfl), if_neg (by rw [h20]; simp), if_pos hall.out, HD.out, HC.out, hS]; simp; try omega) rfl (by repeat (first | exact World.grownBy.refl _ _ | assumption | (with_reducible refine only_drew ?_) | (with_reducible refine only_drewN ?_ _) | (with_reducible refine only_alloc ?_ _) | (with_reducible refine only_setCell ?_ (by first | exact .inl rfl | (right; simp; omega)) _) | (with_reducible refine only_below ?_ (by assumption) (by first | exact Nat.le_refl _ | assumption | (simp; done) | (simp; omega) | omega)))) (has3 (by go_simp) (by go_simp) (by first | (go_simp; done) | exact World.cell?_setCell_same' _ _ _ (by go_simp)) (by go_simp) (by go_simp) (by go_simp))
      · have hd1 : d < 20 := by omega
        clear hw20
        by_cases hd0 : 0 ≤ d
        · cases hC : s.changed <;> cases hS : stores o.code
          · rw [hC] at q2
            have HC := Lib.hid hC
            clear hC
            go_wp2_with (go_at_call 40; refine (HWC.out _).mono ?_; rintro e w3 ⟨rfl, hb3⟩; obtain ⟨hc3, hf3⟩ := bcell hb3; have hz3 := hb3.size; try simp only [World.size_alloc, World.size_setCell, World.heap_drewN, World.size_drew] at hz3; have hy3_0 : w.heap.size < w3.heap.size := (by omega); have hc3_0 := fun o => hc3 (w.heap.size) o (by first | omega | (simp; done) | (simp; omega)); have hf3_0 := fun o => hf3 (w.heap.size) o (by first | omega | (simp; done) | (simp; omega)); have hy3_1 : w1.heap.size < w3.heap.size := (by omega); have hc3_1 := fun o => hc3 (w1.heap.size) o (by first | omega | (simp; done) | (simp; omega)); have hf3_1 := fun o => hf3 (w1.heap.size) o (by first | omega | (simp; done) | (simp; omega)); have hy3_2 : g < w3.heap.size := (by omega); have hc3_2 := fun o => hc3 (g) o (by first | omega | (simp; done) | (simp; omega)); have hf3_2 := fun o => hf3 (g) o (by first | omega | (simp; done) | (simp; omega)))
            go_ret
            exact post_some (s := ⟨s.marks, s.written, true⟩) (by unfold ckNext; rw [if_pos (by rw [HF.out, HP.out]; rfl), if_neg (by rw [h20]; simp), if_pos hall.out, HD.out, HC.out, hS]; simp; try omega) rfl (by repeat (first | exact World.grownBy.refl _ _ | assumption | (with_reducible refine only_drew ?_) | (with_reducible refine only_drewN ?_ _) | (with_reducible refine only_alloc ?_ _) | (with_reducible refine only_setCell ?_ (by first | exact .inl rfl | (right; simp; omega)) _) | (with_reducible refine only_below ?_ (by assumption) (by first | exact Nat.le_refl _ | assumption | (simp; done) | (simp; omega) | omega)))) (has3 (by go_simp) (by go_simp) (by first | (go_simp; done) | exact World.cell?_setCell_same' _ _ _ (by go_simp)) (by go_simp) (by go_simp) (by go_simp))
          · rw [hC] at q2
            have HC := Lib.hid hC
            clear hC
            go_wp2_with (go_at_call 40; refine (HWC.out _).mono ?_; rintro e w3 ⟨rfl, hb3⟩; obtain ⟨hc3, hf3⟩ := bcell hb3; have hz3 := hb3.size; try simp only [World.size_alloc, World.size_setCell, World.heap_drewN, World.size_drew] at hz3; have hy3_0 : w.heap.size < w3.heap.size := (by omega); have hc3_0 := fun o => hc3 (w.heap.size) o (by first | omega | (simp; done) | (simp; omega)); have hf3_0 := fun o => hf3 (w.heap.size) o (by first | omega | (simp; done) | (simp; omega)); have hy3_1 : w1.heap.size < w3.heap.size := (by omega); have hc3_1 := fun o => hc3 (w1.heap.size) o (by first | omega | (simp; done) | (simp; omega)); have hf3_1 := fun o => hf3 (w1.heap.size) o (by first | omega | (simp; done) | (simp; omega)); have hy3_2 : g < w3.heap.size := (by omega); have hc3_2 := fun o => hc3 (g) o (by first | omega | (simp; done) | (simp; omega)); have hf3_2 := fun o => hf3 (g) o (by first | omega | (simp; done) | (simp; omega)))
            go_ret
            exact post_some (s := ⟨s.marks, s.written, true⟩) (by unfold ckNext; rw [if_pos (by rw [HF.out, HP.out]; rfl), if_neg (by rw [h20]; simp), if_pos hall.out, HD.out, HC.out, hS]; simp; try omega) rfl (by repeat (first | exact World.grownBy.refl _ _ | assumption | (with_reducible refine only_drew ?_) | (with_reducible refine only_drewN ?_ _) | (with_reducible refine only_alloc ?_ _) | (with_reducible refine only_setCell ?_ (by first | exact .inl rfl | (right; simp; omega)) _) | (with_reducible refine only_below ?_ (by assumption) (by first | exact Nat.le_refl _ | assumption | (simp; done) | (simp; omega) | omega)))) (has3 (by go_simp) (by go_simp) (by first | (go_simp; done) | exact World.cell?_setCell_same' _ _ _ (by go_simp)) (by go_simp) (by go_simp) (by go_simp))
          · rw [hC] at q2
            have HC := Lib.hid hC
            clear hC
            go_wp2_with (go_at_call 40; refine (HWC.out _).mono ?_; rintro e w3 ⟨rfl, hb3⟩; obtain ⟨hc3, hf3⟩ := bcell hb3; have hz3 := hb3.size; try simp only [World.size_alloc, World.size_setCell, World.heap_drewN, World.size_drew] at hz3; have hy3_0 : w.heap.size < w3.heap.size := (by omega); have hc3_0 := fun o => hc3 (w.heap.size) o (by first | omega | (simp; done) | (simp; omega)); have hf3_0 := fun o => hf3 (w.heap.size) o (by first | omega | (simp; done) | (simp; omega)); have hy3_1 : w1.heap.size < w3.heap.size := (by omega); have hc3_1 := fun o => hc3 (w1.heap.size) o (by first | omega | (simp; done) | (simp; omega)); have hf3_1 := fun o => hf3 (w1.heap.size) o (by first | omega | (simp; done) | (simp; omega)); have hy3_2 : g < w3.heap.size := (by omega); have hc3_2 := fun o => hc3 (g) o (by first | omega | (simp; done) | (simp; omega)); have hf3_2 := fun o => hf3 (g) o (by first | omega | (simp; done) | (simp; omega)))
            go_ret
            exact post_some (s := ⟨s.marks, s.written, true⟩) (by unfold ckNext; rw [if_pos (by rw [HF.out, HP.out]; rfl), if_neg (by rw [h20]; simp), if_pos hall.out, HD.out, HC.out, hS]; simp; try omega) rfl (by repeat (first | exact World.grownBy.refl _ _ | assumption | (with_reducible refine only_drew ?_) | (with_reducible refine only_drewN ?_ _) | (with_reducible refine only_alloc ?_ _) | (with_reducible refine only_setCell ?_ (by first | exact .inl rfl | (right; simp; omega)) _) | (with_reducible refine only_below ?_ (by assumption) (by first | exact Nat.le_refl _ | assumption | (simp; done) | (simp; omega) | omega)))) (has3 (by go_simp) (by go_simp) (by first | (go_simp; done) | exact World.cell?_setCell_same' _ _ _ (by go_simp)) (by go_simp) (by go_simp) (by go_simp))
          · rw [hC] at q2
            have HC := Lib.hid hC
            clear hC
            go_wp2_with (go_at_call 40; refine (HWC.out _).mono ?_; rintro e w3 ⟨rfl, hb3⟩; obtain ⟨hc3, hf3⟩ := bcell hb3; have hz3 := hb3.size; try simp only [World.size_alloc, World.size_setCell, World.heap_drewN, World.size_drew] at hz3; have hy3_0 : w.heap.size < w3.heap.size := (by omega); have hc3_0 := fun o => hc3 (w.heap.size) o (by first | omega | (simp; done) | (simp; omega)); have hf3_0 := fun o => hf3 (w.heap.size) o (by first | omega | (simp; done) | (simp; omega)); have hy3_1 : w1.heap.size < w3.heap.size := (by omega); have hc3_1 := fun o => hc3 (w1.heap.size) o (by first | omega | (simp; done) | (simp; omega)); have hf3_1 := fun o => hf3 (w1.heap.size) o (by first | omega | (simp; done) | (simp; omega)); have hy3_2 : g < w3.heap.size := (by omega); have hc3_2 := fun o => hc3 (g) o (by first | omega | (simp; done) | (simp; omega)); have hf3_2 := fun o => hf3 (g) o (by first | omega | (simp; done) | (simp; omega)))
            go_ret
            exact post_some (s := ⟨s.marks, s.written, true⟩) (by unfold ckNext; rw [if_pos (by rw [HF.out, HP.out]; rfl), if_neg (by rw [h20]; simp), if_pos hall.out, HD.out, HC.out, hS]; simp; try omega) rfl (by repeat (first | exact World.grownBy.refl _ _ | assumption | (with_reducible refine only_drew ?_) | (with_reducible refine only_drewN ?_ _) | (with_reducible refine only_alloc ?_ _) | (with_reducible refine only_setCell ?_ (by first | exact .inl rfl | (right; simp; omega)) _) | (with_reducible refine only_below ?_ (by assumption) (by first | exact Nat.le_refl _ | assumption | (simp; done) | (simp; omega) | omega)))) (has3 (by go_simp) (by go_simp) (by first | (go_simp; done) | exact World.cell?_setCell_same' _ _ _ (by go_simp)) (by go_simp) (by go_simp) (by go_simp))
        · have hd2 : d < 0 := by omega
          clear hd0
          cases hC : s.changed <;> cases hS : stores o.code
          · rw [hC] at q2
            have HC := Lib.hid hC
            clear hC
            go_wp2_with (go_at_call 40; refine (HWC.out _).mono ?_; rintro e w3 ⟨rfl, hb3⟩; obtain ⟨hc3, hf3⟩ := bcell hb3; have hz3 := hb3.size; try simp only [World.size_alloc, World.size_setCell, World.heap_drewN, World.size_drew] at hz3; have hy3_0 : w.heap.size < w3.heap.size := (by omega); have hc3_0 := fun o => hc3 (w.heap.size) o (by first | omega | (simp; done) | (simp; omega)); have hf3_0 := fun o => hf3 (w.heap.size) o (by first | omega | (simp; done) | (simp; omega)); have hy3_1 : w1.heap.size < w3.heap.size := (by omega); have hc3_1 := fun o => hc3 (w1.heap.size) o (by first | omega | (simp; done) | (simp; omega)); have hf3_1 := fun o => hf3 (w1.heap.size) o (by first | omega | (simp; done) | (simp; omega)); have hy3_2 : g < w3.heap.size := (by omega); have hc3_2 := fun o => hc3 (g) o (by first | omega | (simp; done) | (simp; omega)); have hf3_2 := fun o => hf3 (g) o (by first | omega | (simp; done) | (simp; omega)))
            go_ret
            exact post_some (s := ⟨s.marks, s.written, false⟩) (by unfold ckNext; rw [if_pos (by rw [HF.out, HP.out]; rfl), if_neg (by rw [h20]; simp), if_pos hall.out, HD.out, HC.out, hS]; simp; try omega) rfl (by repeat (first | exact World.grownBy.refl _ _ | assumption | (with_reducible refine only_drew ?_) | (with_reducible refine only_drewN ?_ _) | (with_reducible refine only_alloc ?_ _) | (with_reducible refine only_setCell ?_ (by first | exact .inl rfl | (right; simp; omega)) _) | (with_reducible refine only_below ?_ (by assumption) (by first | exact Nat.le_refl _ | assumption | (simp; done) | (simp; omega) | omega)))) (has3 (by go_simp) (by go_simp) (by first | (go_simp; done) | exact World.cell?_setCell_same' _ _ _ (by go_simp)) (by go_simp) (by go_simp) (by go_simp))
          · rw [hC] at q2
            have HC := Lib.hid hC
            clear hC
            go_wp2_with (go_at_call 40; refine (HWC.out _).mono ?_; rintro e w3 ⟨rfl, hb3⟩; obtain ⟨hc3, hf3⟩ := bcell hb3; have hz3 := hb3.size; try simp only [World.size_alloc, World.size_setCell, World.heap_drewN, World.size_drew] at hz3; have hy3_0 : w.heap.size < w3.heap.size := (by omega); have hc3_0 := fun o => hc3 (w.heap.size) o (by first | omega | (simp; done) | (simp; omega)); have hf3_0 := fun o => hf3 (w.heap.size) o (by first | omega | (simp; done) | (simp; omega)); have hy3_1 : w1.heap.size < w3.heap.size := (by omega); have hc3_1 := fun o => hc3 (w1.heap.size) o (by first | omega | (simp; done) | (simp; omega)); have hf3_1 := fun o => hf3 (w1.heap.size) o (by first | omega | (simp; done) | (simp; omega)); have hy3_2 : g < w3.heap.size := (by omega); have hc3_2 := fun o => hc3 (g) o (by first | omega | (simp; done) | (simp; omega)); have hf3_2 := fun o => hf3 (g) o (by first | omega | (simp; done) | (simp; omega)))
            go_ret
            exact post_some (s := ⟨s.marks, s.written, true⟩) (by unfold ckNext; rw [if_pos (by rw [HF.out, HP.out]; rfl), if_neg (by rw [h20]; simp), if_pos hall.out, HD.out, HC.out, hS]; simp; try omega) rfl (by repeat (first | exact World.grownBy.refl _ _ | assumption | (with_reducible refine only_drew ?_) | (with_reducible refine only_drewN ?_ _) | (with_reducible refine only_alloc ?_ _) | (with_reducible refine only_setCell ?_ (by first | exact .inl rfl | (right; simp; omega)) _) | (with_reducible refine only_below ?_ (by assumption) (by first | exact Nat.le_refl _ | assumption | (simp; done) | (simp; omega) | omega)))) (has3 (by go_simp) (by go_simp) (by first | (go_simp; done) | exact World.cell?_setCell_same' _ _ _ (by go_simp)) (by go_simp) (by go_simp) (by go_simp))
          · rw [hC] at q2
            have HC := Lib.hid hC
            clear hC
            go_wp2_with (go_at_call 40; refine (HWC.out _).mono ?_; rintro e w3 ⟨rfl, hb3⟩; obtain ⟨hc3, hf3⟩ := bcell hb3; have hz3 := hb3.size; try simp only [World.size_alloc, World.size_setCell, World.heap_drewN, World.size_drew] at hz3; have hy3_0 : w.heap.size < w3.heap.size := (by omega); have hc3_0 := fun o => hc3 (w.heap.size) o (by first | omega | (simp; done) | (simp; omega)); have hf3_0 := fun o => hf3 (w.heap.size) o (by first | omega | (simp; done) | (simp; omega)); have hy3_1 : w1.heap.size < w3.heap.size := (by omega); have hc3_1 := fun o => hc3 (w1.heap.size) o (by first | omega | (simp; done) | (simp; omega)); have hf3_1 := fun o => hf3 (w1.heap.size) o (by first | omega | (simp; done) | (simp; omega)); have hy3_2 : g < w3.heap.size := (by omega); have hc3_2 := fun o => hc3 (g) o (by first | omega | (simp; done) | (simp; omega)); have hf3_2 := fun o => hf3 (g) o (by first | omega | (simp; done) | (simp; omega)))
            go_ret
            exact post_some (s := ⟨s.marks, s.written, true⟩) (by unfold ckNext; rw [if_pos (by rw [HF.out, HP.out]; rfl), if_neg (by rw [h20]; simp), if_pos hall.out, HD.out, HC.out, hS]; simp; try omega) rfl (by repeat (first | exact World.grownBy.refl _ _ | assumption | (with_reducible refine only_drew ?_) | (with_reducible refine only_drewN ?_ _) | (with_reducible refine only_alloc ?_ _) | (with_reducible refine only_setCell ?_ (by first | exact .inl rfl | (right; simp; omega)) _) | (with_reducible refine only_below ?_ (by assumption) (by first | exact Nat.le_refl _ | assumption | (simp; done) | (simp; omega) | omega)))) (has3 (by go_simp) (by go_simp) (by first | (go_simp; done) | exact World.cell?_setCell_same' _ _ _ (by go_simp)) (by go_simp) (by go_simp) (by go_simp))
          · rw [hC] at q2
            have HC := Lib.hid hC
            clear hC
            go_wp2_with (go_at_call 40; refine (HWC.out _).mono ?_; rintro e w3 ⟨rfl, hb3⟩; obtain ⟨hc3, hf3⟩ := bcell hb3; have hz3 := hb3.size; try simp only [World.size_alloc, World.size_setCell, World.heap_drewN, World.size_drew] at hz3; have hy3_0 : w.heap.size < w3.heap.size := (by omega); have hc3_0 := fun o => hc3 (w.heap.size) o (by first | omega | (simp; done) | (simp; omega)); have hf3_0 := fun o => hf3 (w.heap.size) o (by first | omega | (simp; done) | (simp; omega)); have hy3_1 : w1.heap.size < w3.heap.size := (by omega); have hc3_1 := fun o => hc3 (w1.heap.size) o (by first | omega | (simp; done) | (simp; omega)); have hf3_1 := fun o => hf3 (w1.heap.size) o (by first | omega | (simp; done) | (simp; omega)); have hy3_2 : g < w3.heap.size := (by omega); have hc3_2 := fun o => hc3 (g) o (by first | omega | (simp; done) | (simp; omega)); have hf3_2 := fun o => hf3 (g) o (by first | omega | (simp; done) | (simp; omega)))
            go_ret
            exact post_some (s := ⟨s.marks, s.written, true⟩) (by unfold ckNext; rw [if_pos (by rw [HF.out, HP.out]; rfl), if_neg (by rw [h20]; simp), if_pos hall.out, HD.out, HC.out, hS]; simp; try omega) rfl (by repeat (first | exact World.grownBy.refl _ _ | assumption | (with_reducible refine only_drew ?_) | (with_reducible refine only_drewN ?_ _) | (with_reducible refine only_alloc ?_ _) | (with_reducible refine only_setCell ?_ (by first | exact .inl rfl | (right; simp; omega)) _) | (with_reducible refine only_below ?_ (by assumption) (by first | exact Nat.le_refl _ | assumption | (simp; done) | (simp; omega) | omega)))) (has3 (by go_simp) (by go_simp) (by first | (go_simp; done) | exact World.cell?_setCell_same' _ _ _ (by go_simp)) (by go_simp) (by go_simp) (by go_simp))

end Go.Proofs.Ytmjfgnnefcimiaa
