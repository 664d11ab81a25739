/- Walks: with, before. Walks: the operations on words, of the program (a map of functions) and of the reference (a switch). Walks: word.Op, which looks its operation up in a map of functions, and the reference's Op. Walks: the folding of one operation. Walks: the passes: Fold. Blocks whose operations are seen through views: the passes called on them. make of a slice. Drawn regions in which memory is made: quiet operations are taken first, the others wait for one another. A built slice as a row that may be appended to. -/
import Derived.OrdersHeld
import Derived.Test.YtmjfgnnefcimiaaM9
namespace Go.Proofs.Ytmjfgnnefcimiaa
open Go.RowKit
attribute [local irreducible] wpStill wpQuiet

theorem with_opt (A1 A2 A3 A4 : Option Addr) (n1 n2 n3 n4 c1 c2 c3 c4 : Nat) (w : World) :
    Calls Try.prog 41 #[.agg #[.slice A1 n1 c1, .slice A2 n2 c2, .slice A3 n3 c3], .slice A4 n4 c4] w fun e w' => e = .returned (.agg #[.slice A1 n1 c1, .slice A2 n2 c2, .slice A4 n4 c4]) ∧ Below w.heap.size w w' := by
  go_enter Try.func41, Try.ntmps41
  go_wp2
  refine bodyPost_ret (v := .agg #[.slice A1 n1 c1, .slice A2 n2 c2, .slice A4 n4 c4]) ?_ rfl ⟨rfl, (by repeat (first | exact Below.refl _ _ | assumption | (with_reducible refine Below.drew ?_) | (with_reducible refine below_drewN ?_ _) | (with_reducible refine Below.alloc ?_ (by first | exact Nat.le_refl _ | assumption | (simp; done) | (simp; omega) | omega) _) | (with_reducible refine Below.setCell ?_ (by first | exact Nat.le_refl _ | assumption | (simp; done) | (simp; omega) | omega) _) | (with_reducible refine below_call ?_ (by assumption) (by first | exact Nat.le_refl _ | assumption | (simp; done) | (simp; omega) | omega)) | (with_reducible refine below_only ?_ (by assumption) (by first | exact Nat.le_refl _ | assumption | (simp; done) | (simp; omega) | omega) (by first | exact Nat.le_refl _ | assumption | (simp; done) | (simp; omega) | omega))))⟩
  simp only [results, Try.results41]; simp [go_sem]

theorem pow_u32 (d : Nat) (hd : d < 32) : 2 ^ d < 4294967296 := by
  have h1 : 2 ^ d < 2 ^ 32 := Nat.pow_lt_pow_right (by omega) hd
  simpa using h1
theorem pow_mod (d : Nat) (hd : d < 32) : (2 : Int) ^ d % 4294967296 = ((2 ^ d : Nat) : Int) := by
  have h2 := pow_u32 d hd
  rw [show (2 : Int) ^ d = ((2 ^ d : Nat) : Int) by simp]
  obtain ⟨q, hq⟩ : ∃ q, 2 ^ d = q := ⟨_, rfl⟩
  rw [hq] at h2 ⊢
  omega
theorem bit_clr (m d : Nat) (hm : m < 4294967296) (hd : d < 32) : bits .andNot .u32 (m : Int) (2 ^ d % 4294967296) = ((clrM m d : Nat) : Int) := by
  rw [pow_mod d hd]
  exact u32_andNot_nat m (2 ^ d) hm (pow_u32 d hd)
theorem bit_put (m d : Nat) (hm : m < 4294967296) (hd : d < 32) : bits .or .u32 (m : Int) (2 ^ d % 4294967296) = ((setM m d : Nat) : Int) := by
  rw [pow_mod d hd]
  exact u32_or_nat m (2 ^ d) hm (pow_u32 d hd)
theorem clrM_lt {m d : Nat} (h : m < 4294967296) : clrM m d < 4294967296 := Nat.lt_of_le_of_lt Nat.and_le_left h
theorem setM_lt {m d : Nat} (h : m < 4294967296) (hd : d < 32) : setM m d < 4294967296 := Nat.or_lt_two_pow (n := 32) h (by have := pow_u32 d hd; simpa using this)
theorem readsM_lt {m : Nat} {l : List Int} (h : m < 4294967296) (hl : ∀ x ∈ l, 0 ≤ x ∧ x < 28) : readsM m l < 4294967296 := by
  induction l generalizing m with
  | nil => exact h
  | cons x l ih =>
    have := hl x (by simp)
    exact ih (setM_lt h (by omega)) fun y hy => hl y (by simp [hy])
theorem readsM_at {m : Nat} {l : List Int} {k : Nat} {x : Int} (h : l[k]? = some x) : readsM m (l.take (k + 1)) = setM (readsM m (l.take k)) x.toNat := by
  rw [List.take_add_one, h]
  simp [readsM, List.foldl_append]

theorem mayLeave_of {o : BOp} {x : Bool} (h : leaves o.code = x) (w : World) :
    Calls Try.prog 76 #[opV o] w fun e w' => e = .returned (.bool x) ∧ Below w.heap.size w w' := by
  rw [← h]; exact mayLeave_ir o w
theorem reads_len (o : BOp) : (reads o).length ≤ 2 := by
  unfold reads
  rw [List.length_append]
  split <;> split <;> simp

def preM (o : BOp) (m : Nat) : Nat := if 0 ≤ writes o then clrM m (writes o).toNat else m

set_option maxRecDepth 100000 in
set_option maxHeartbeats 1600000 in
theorem before_opt (o : BOp) (m : Nat) (hm : m < 4294967296) (hf : formedB o = true) (w : World) :
    Calls Try.prog 49 #[opV o, .int .u32 (m : Int)] w fun e w' => e = .returned (.int .u32 (beforeM o m)) ∧ Below w.heap.size w w' := by
  obtain ⟨n, hn⟩ : ∃ n, (reads o).length = n := ⟨_, rfl⟩
  obtain ⟨d, hd⟩ : ∃ d, writes o = d := ⟨_, rfl⟩
  have hwv := writes_var hf
  have hwc := fun W => writes_ir o W
  rw [hd] at hwv hwc
  have hn2 : n ≤ 2 := by rw [← hn]; exact reads_len o
  have HWC := Lib.hid hwc
  have HN := Lib.hid hn
  have HF := Lib.hid hf
  have HD := Lib.hid hd
  clear hn hf hd hwc
  unfold opV
  obtain ⟨m1, hm1⟩ : ∃ m1, preM o m = m1 := ⟨_, rfl⟩
  have hm1lt : m1 < 4294967296 := by
    rw [← hm1]; unfold preM
    split
    · exact clrM_lt hm
    · exact hm
  have hpost : ∀ (r : Nat), (if observesB o then readsM m1 (reads o) ||| 524287 else readsM m1 (reads o)) = r → beforeM o m = r := by
    intro r hr
    rw [← hr, ← hm1]
    rfl
  have HPOST := Lib.hid hpost
  clear hpost
  go_enter Try.func49, Try.ntmps49
  by_cases hd0 : 0 ≤ d
  · have hcl := bit_clr m d.toNat hm (by omega)
    have hM1 : Hid (clrM m d.toNat = m1) := by
      unfold Hid; rw [← hm1]; unfold preM; rw [HD.out, if_pos hd0]
    clear hm1
    go_wp2_with (first | (go_at_call 40; refine (HWC.out _).mono ?_; rintro e w1 ⟨rfl, hb1⟩; obtain ⟨hc1, hf1⟩ := bcell hb1; have hz1 := hb1.size; (try simp only [World.size_alloc] at hz1); have hy1_0 : w.heap.size < w1.heap.size := (by omega); have hc1_0 := fun o => hc1 (w.heap.size) o (by first | omega | (simp; done) | (simp; omega)); have hf1_0 := fun o => hf1 (w.heap.size) o (by first | omega | (simp; done) | (simp; omega))) | (go_at_call 44; refine (reads_ir o _).mono ?_; rintro e w2 ⟨r, rfl, hown, hb2⟩; rw [HN.out] at hown; obtain ⟨A, c, rfl, hs, -, -, -⟩ := own_slice hown; clear hown; obtain ⟨hc2, hf2⟩ := bcell hb2; have hz2 := hb2.size; (try simp only [World.size_alloc, World.size_setCell, World.heap_drewN, World.size_drew] at hz2); have hy2_0 : w.heap.size < w2.heap.size := (by omega); have hc2_0 := fun o => hc2 (w.heap.size) o (by first | omega | (simp; done) | (simp; omega)); have hf2_0 := fun o => hf2 (w.heap.size) o (by first | omega | (simp; done) | (simp; omega))))
    go_loop [1, 19] (fun t i => ∃ k : Nat, ∃ q : Nat, k ≤ n ∧ i = .int .i64 k ∧ t = .int .u32 (q : Int) ∧ q < 4294967296 ∧ Hid (readsM m1 ((reads o).take k) = q)) (fun _ i => n - (intOf i).toNat)
    case atStart => exact ⟨0, m1, Nat.zero_le _, rfl, by rw [hM1.out], hm1lt, by unfold Hid; simp [readsM]⟩
    case round =>
      obtain ⟨k, q, hk, rfl, rfl, hql, hq⟩ := hrel
      by_cases hlt : k < n
      · obtain ⟨b, off, x, rfl, hbb, hx, hc⟩ := ints_at hs (by rw [HN.out]; exact hlt)
        have hx0 : 0 ≤ x := (reads_var HF.out x (List.mem_of_getElem? hx)).1
        have hx1 : x < 28 := (reads_var HF.out x (List.mem_of_getElem? hx)).2
        have HX := Lib.hid hx
        clear hx hs
        have hor := bit_put q x.toNat hql (by omega)
        go_wp2
        go_round
        case rel =>
          refine ⟨k + 1, setM q x.toNat, by omega, by go_num, rfl, setM_lt hql (by omega), ?_⟩
          unfold Hid
          rw [readsM_at HX.out, hq.out]
        case measure => simp [intOf]; omega
      · have hkn : k = n := by omega
        have HQ : Hid (readsM m1 (reads o) = q) := by
          unfold Hid
          rw [← hq.out, hkn, List.take_of_length_le (by rw [HN.out]; omega)]
        clear hq hkn
        have hgu : bits .or .u32 (q : Int) 524287 = ((q ||| 524287 : Nat) : Int) := by
          exact u32_or_nat q 524287 hql (by omega)
        cases hL : leaves o.code
        · by_cases h23 : o.code = 23
          · have e23 : (o.code == 23) = true := by simp [h23]
            have HO : Hid (observesB o = true) := by unfold Hid; simp [observesB, h23]
            clear h23
            go_wp2_with (first | (go_at_call 76; refine (mayLeave_of hL _).mono ?_; rintro e w3 ⟨rfl, hb3⟩; obtain ⟨hc3, hf3⟩ := bcell hb3; have hz3 := hb3.size; (try simp only [World.size_alloc, World.size_setCell, World.heap_drewN, World.size_drew] at hz3); have hy3_0 : w.heap.size < w3.heap.size := (by omega); have hc3_0 := fun o => hc3 (w.heap.size) o (by first | omega | (simp; done) | (simp; omega)); have hf3_0 := fun o => hf3 (w.heap.size) o (by first | omega | (simp; done) | (simp; omega))))
            go_ret
            refine ⟨?_, (by repeat (first | exact Below.refl _ _ | assumption | (with_reducible refine Below.drew ?_) | (with_reducible refine below_drewN ?_ _) | (with_reducible refine Below.alloc ?_ (by first | exact Nat.le_refl _ | assumption | (simp; done) | (simp; omega) | omega) _) | (with_reducible refine Below.setCell ?_ (by first | exact Nat.le_refl _ | assumption | (simp; done) | (simp; omega) | omega) _) | (with_reducible refine below_call ?_ (by assumption) (by first | exact Nat.le_refl _ | assumption | (simp; done) | (simp; omega) | omega)) | (with_reducible refine below_only ?_ (by assumption) (by first | exact Nat.le_refl _ | assumption | (simp; done) | (simp; omega) | omega) (by first | exact Nat.le_refl _ | assumption | (simp; done) | (simp; omega) | omega))))⟩
            rw [HPOST.out (q ||| 524287) (by rw [HO.out, HQ.out]; rfl)]; rfl
          · have e23 : (o.code == 23) = false := by simp [h23]
            clear h23
            by_cases h24 : o.code = 24
            · have e24 : (o.code == 24) = true := by simp [h24]
              have HO : Hid (observesB o = true) := by unfold Hid; simp [observesB, h24]
              clear h24
              go_wp2_with (first | (go_at_call 76; refine (mayLeave_of hL _).mono ?_; rintro e w3 ⟨rfl, hb3⟩; obtain ⟨hc3, hf3⟩ := bcell hb3; have hz3 := hb3.size; (try simp only [World.size_alloc, World.size_setCell, World.heap_drewN, World.size_drew] at hz3); have hy3_0 : w.heap.size < w3.heap.size := (by omega); have hc3_0 := fun o => hc3 (w.heap.size) o (by first | omega | (simp; done) | (simp; omega)); have hf3_0 := fun o => hf3 (w.heap.size) o (by first | omega | (simp; done) | (simp; omega))))
              go_ret
              refine ⟨?_, (by repeat (first | exact Below.refl _ _ | assumption | (with_reducible refine Below.drew ?_) | (with_reducible refine below_drewN ?_ _) | (with_reducible refine Below.alloc ?_ (by first | exact Nat.le_refl _ | assumption | (simp; done) | (simp; omega) | omega) _) | (with_reducible refine Below.setCell ?_ (by first | exact Nat.le_refl _ | assumption | (simp; done) | (simp; omega) | omega) _) | (with_reducible refine below_call ?_ (by assumption) (by first | exact Nat.le_refl _ | assumption | (simp; done) | (simp; omega) | omega)) | (with_reducible refine below_only ?_ (by assumption) (by first | exact Nat.le_refl _ | assumption | (simp; done) | (simp; omega) | omega) (by first | exact Nat.le_refl _ | assumption | (simp; done) | (simp; omega) | omega))))⟩
              rw [HPOST.out (q ||| 524287) (by rw [HO.out, HQ.out]; rfl)]; rfl
            · have e24 : (o.code == 24) = false := by simp [h24]
              clear h24
              by_cases h25 : o.code = 25
              · have e25 : (o.code == 25) = true := by simp [h25]
                have HO : Hid (observesB o = true) := by unfold Hid; simp [observesB, h25]
                clear h25
                go_wp2_with (first | (go_at_call 76; refine (mayLeave_of hL _).mono ?_; rintro e w3 ⟨rfl, hb3⟩; obtain ⟨hc3, hf3⟩ := bcell hb3; have hz3 := hb3.size; (try simp only [World.size_alloc, World.size_setCell, World.heap_drewN, World.size_drew] at hz3); have hy3_0 : w.heap.size < w3.heap.size := (by omega); have hc3_0 := fun o => hc3 (w.heap.size) o (by first | omega | (simp; done) | (simp; omega)); have hf3_0 := fun o => hf3 (w.heap.size) o (by first | omega | (simp; done) | (simp; omega))))
                go_ret
                refine ⟨?_, (by repeat (first | exact Below.refl _ _ | assumption | (with_reducible refine Below.drew ?_) | (with_reducible refine below_drewN ?_ _) | (with_reducible refine Below.alloc ?_ (by first | exact Nat.le_refl _ | assumption | (simp; done) | (simp; omega) | omega) _) | (with_reducible refine Below.setCell ?_ (by first | exact Nat.le_refl _ | assumption | (simp; done) | (simp; omega) | omega) _) | (with_reducible refine below_call ?_ (by assumption) (by first | exact Nat.le_refl _ | assumption | (simp; done) | (simp; omega) | omega)) | (with_reducible refine below_only ?_ (by assumption) (by first | exact Nat.le_refl _ | assumption | (simp; done) | (simp; omega) | omega) (by first | exact Nat.le_refl _ | assumption | (simp; done) | (simp; omega) | omega))))⟩
                rw [HPOST.out (q ||| 524287) (by rw [HO.out, HQ.out]; rfl)]; rfl
              · have e25 : (o.code == 25) = false := by simp [h25]
                clear h25
                have HO : Hid (observesB o = false) := by unfold Hid; simp [observesB, hL, e23, e24, e25]
                go_wp2_with (first | (go_at_call 76; refine (mayLeave_of hL _).mono ?_; rintro e w3 ⟨rfl, hb3⟩; obtain ⟨hc3, hf3⟩ := bcell hb3; have hz3 := hb3.size; (try simp only [World.size_alloc, World.size_setCell, World.heap_drewN, World.size_drew] at hz3); have hy3_0 : w.heap.size < w3.heap.size := (by omega); have hc3_0 := fun o => hc3 (w.heap.size) o (by first | omega | (simp; done) | (simp; omega)); have hf3_0 := fun o => hf3 (w.heap.size) o (by first | omega | (simp; done) | (simp; omega))))
                go_ret
                refine ⟨?_, (by repeat (first | exact Below.refl _ _ | assumption | (with_reducible refine Below.drew ?_) | (with_reducible refine below_drewN ?_ _) | (with_reducible refine Below.alloc ?_ (by first | exact Nat.le_refl _ | assumption | (simp; done) | (simp; omega) | omega) _) | (with_reducible refine Below.setCell ?_ (by first | exact Nat.le_refl _ | assumption | (simp; done) | (simp; omega) | omega) _) | (with_reducible refine below_call ?_ (by assumption) (by first | exact Nat.le_refl _ | assumption | (simp; done) | (simp; omega) | omega)) | (with_reducible refine below_only ?_ (by assumption) (by first | exact Nat.le_refl _ | assumption | (simp; done) | (simp; omega) | omega) (by first | exact Nat.le_refl _ | assumption | (simp; done) | (simp; omega) | omega))))⟩
                rw [HPOST.out q (by rw [HO.out, HQ.out]; rfl)]; rfl
        · have HO : Hid (observesB o = true) := by unfold Hid; simp [observesB, hL]
          go_wp2_with (first | (go_at_call 76; refine (mayLeave_of hL _).mono ?_; rintro e w3 ⟨rfl, hb3⟩; obtain ⟨hc3, hf3⟩ := bcell hb3; have hz3 := hb3.size; (try simp only [World.size_alloc, World.size_setCell, World.heap_drewN, World.size_drew] at hz3); have hy3_0 : w.heap.size < w3.heap.size := (by omega); have hc3_0 := fun o => hc3 (w.heap.size) o (by first | omega | (simp; done) | (simp; omega)); have hf3_0 := fun o => hf3 (w.heap.size) o (by first | omega | (simp; done) | (simp; omega))))
          go_ret
          refine ⟨?_, (by repeat (first | exact Below.refl _ _ | assumption | (with_reducible refine Below.drew ?_) | (with_reducible refine below_drewN ?_ _) | (with_reducible refine Below.alloc ?_ (by first | exact Nat.le_refl _ | assumption | (simp; done) | (simp; omega) | omega) _) | (with_reducible refine Below.setCell ?_ (by first | exact Nat.le_refl _ | assumption | (simp; done) | (simp; omega) | omega) _) | (with_reducible refine below_call ?_ (by assumption) (by first | exact Nat.le_refl _ | assumption | (simp; done) | (simp; omega) | omega)) | (with_reducible refine below_only ?_ (by assumption) (by first | exact Nat.le_refl _ | assumption | (simp; done) | (simp; omega) | omega) (by first | exact Nat.le_refl _ | assumption | (simp; done) | (simp; omega) | omega))))⟩
          rw [HPOST.out (q ||| 524287) (by rw [HO.out, HQ.out]; rfl)]; rfl
  · have hM1 : Hid (m = m1) := by
      unfold Hid; rw [← hm1]; unfold preM; rw [HD.out, if_neg hd0]
    clear hm1
    go_wp2_with (first | (go_at_call 40; refine (HWC.out _).mono ?_; rintro e w1 ⟨rfl, hb1⟩; obtain ⟨hc1, hf1⟩ := bcell hb1; have hz1 := hb1.size; (try simp only [World.size_alloc] at hz1); have hy1_0 : w.heap.size < w1.heap.size := (by omega); have hc1_0 := fun o => hc1 (w.heap.size) o (by first | omega | (simp; done) | (simp; omega)); have hf1_0 := fun o => hf1 (w.heap.size) o (by first | omega | (simp; done) | (simp; omega))) | (go_at_call 44; refine (reads_ir o _).mono ?_; rintro e w2 ⟨r, rfl, hown, hb2⟩; rw [HN.out] at hown; obtain ⟨A, c, rfl, hs, -, -, -⟩ := own_slice hown; clear hown; obtain ⟨hc2, hf2⟩ := bcell hb2; have hz2 := hb2.size; (try simp only [World.size_alloc, World.size_setCell, World.heap_drewN, World.size_drew] at hz2); have hy2_0 : w.heap.size < w2.heap.size := (by omega); have hc2_0 := fun o => hc2 (w.heap.size) o (by first | omega | (simp; done) | (simp; omega)); have hf2_0 := fun o => hf2 (w.heap.size) o (by first | omega | (simp; done) | (simp; omega))))
    go_loop [1, 19] (fun t i => ∃ k : Nat, ∃ q : Nat, k ≤ n ∧ i = .int .i64 k ∧ t = .int .u32 (q : Int) ∧ q < 4294967296 ∧ Hid (readsM m1 ((reads o).take k) = q)) (fun _ i => n - (intOf i).toNat)
    case atStart => exact ⟨0, m1, Nat.zero_le _, rfl, by rw [hM1.out], hm1lt, by unfold Hid; simp [readsM]⟩
    case round =>
      obtain ⟨k, q, hk, rfl, rfl, hql, hq⟩ := hrel
      by_cases hlt : k < n
      · obtain ⟨b, off, x, rfl, hbb, hx, hc⟩ := ints_at hs (by rw [HN.out]; exact hlt)
        have hx0 : 0 ≤ x := (reads_var HF.out x (List.mem_of_getElem? hx)).1
        have hx1 : x < 28 := (reads_var HF.out x (List.mem_of_getElem? hx)).2
        have HX := Lib.hid hx
        clear hx hs
        have hor := bit_put q x.toNat hql (by omega)
        go_wp2
        go_round
        case rel =>
          refine ⟨k + 1, setM q x.toNat, by omega, by go_num, rfl, setM_lt hql (by omega), ?_⟩
          unfold Hid
          rw [readsM_at HX.out, hq.out]
        case measure => simp [intOf]; omega
      · have hkn : k = n := by omega
        have HQ : Hid (readsM m1 (reads o) = q) := by
          unfold Hid
          rw [← hq.out, hkn, List.take_of_length_le (by rw [HN.out]; omega)]
        clear hq hkn
        have hgu : bits .or .u32 (q : Int) 524287 = ((q ||| 524287 : Nat) : Int) := by
          exact u32_or_nat q 524287 hql (by omega)
        cases hL : leaves o.code
        · by_cases h23 : o.code = 23
          · have e23 : (o.code == 23) = true := by simp [h23]
            have HO : Hid (observesB o = true) := by unfold Hid; simp [observesB, h23]
            clear h23
            go_wp2_with (first | (go_at_call 76; refine (mayLeave_of hL _).mono ?_; rintro e w3 ⟨rfl, hb3⟩; obtain ⟨hc3, hf3⟩ := bcell hb3; have hz3 := hb3.size; (try simp only [World.size_alloc, World.size_setCell, World.heap_drewN, World.size_drew] at hz3); have hy3_0 : w.heap.size < w3.heap.size := (by omega); have hc3_0 := fun o => hc3 (w.heap.size) o (by first | omega | (simp; done) | (simp; omega)); have hf3_0 := fun o => hf3 (w.heap.size) o (by first | omega | (simp; done) | (simp; omega))))
            go_ret
            refine ⟨?_, (by repeat (first | exact Below.refl _ _ | assumption | (with_reducible refine Below.drew ?_) | (with_reducible refine below_drewN ?_ _) | (with_reducible refine Below.alloc ?_ (by first | exact Nat.le_refl _ | assumption | (simp; done) | (simp; omega) | omega) _) | (with_reducible refine Below.setCell ?_ (by first | exact Nat.le_refl _ | assumption | (simp; done) | (simp; omega) | omega) _) | (with_reducible refine below_call ?_ (by assumption) (by first | exact Nat.le_refl _ | assumption | (simp; done) | (simp; omega) | omega)) | (with_reducible refine below_only ?_ (by assumption) (by first | exact Nat.le_refl _ | assumption | (simp; done) | (simp; omega) | omega) (by first | exact Nat.le_refl _ | assumption | (simp; done) | (simp; omega) | omega))))⟩
            rw [HPOST.out (q ||| 524287) (by rw [HO.out, HQ.out]; rfl)]; rfl
          · have e23 : (o.code == 23) = false := by simp [h23]
            clear h23
            by_cases h24 : o.code = 24
            · have e24 : (o.code == 24) = true := by simp [h24]
              have HO : Hid (observesB o = true) := by unfold Hid; simp [observesB, h24]
              clear h24
              go_wp2_with (first | (go_at_call 76; refine (mayLeave_of hL _).mono ?_; rintro e w3 ⟨rfl, hb3⟩; obtain ⟨hc3, hf3⟩ := bcell hb3; have hz3 := hb3.size; (try simp only [World.size_alloc, World.size_setCell, World.heap_drewN, World.size_drew] at hz3); have hy3_0 : w.heap.size < w3.heap.size := (by omega); have hc3_0 := fun o => hc3 (w.heap.size) o (by first | omega | (simp; done) | (simp; omega)); have hf3_0 := fun o => hf3 (w.heap.size) o (by first | omega | (simp; done) | (simp; omega))))
              go_ret
              refine ⟨?_, (by repeat (first | exact Below.refl _ _ | assumption | (with_reducible refine Below.drew ?_) | (with_reducible refine below_drewN ?_ _) | (with_reducible refine Below.alloc ?_ (by first | exact Nat.le_refl _ | assumption | (simp; done) | (simp; omega) | omega) _) | (with_reducible refine Below.setCell ?_ (by first | exact Nat.le_refl _ | assumption | (simp; done) | (simp; omega) | omega) _) | (with_reducible refine below_call ?_ (by assumption) (by first | exact Nat.le_refl _ | assumption | (simp; done) | (simp; omega) | omega)) | (with_reducible refine below_only ?_ (by assumption) (by first | exact Nat.le_refl _ | assumption | (simp; done) | (simp; omega) | omega) (by first | exact Nat.le_refl _ | assumption | (simp; done) | (simp; omega) | omega))))⟩
              rw [HPOST.out (q ||| 524287) (by rw [HO.out, HQ.out]; rfl)]; rfl
            · have e24 : (o.code == 24) = false := by simp [h24]
              clear h24
              by_cases h25 : o.code = 25
              · have e25 : (o.code == 25) = true := by simp [h25]
                have HO : Hid (observesB o = true) := by unfold Hid; simp [observesB, h25]
                clear h25
                go_wp2_with (first | (go_at_call 76; refine (mayLeave_of hL _).mono ?_; rintro e w3 ⟨rfl, hb3⟩; obtain ⟨hc3, hf3⟩ := bcell hb3; have hz3 := hb3.size; (try simp only [World.size_alloc, World.size_setCell, World.heap_drewN, World.size_drew] at hz3); have hy3_0 : w.heap.size < w3.heap.size := (by omega); have hc3_0 := fun o => hc3 (w.heap.size) o (by first | omega | (simp; done) | (simp; omega)); have hf3_0 := fun o => hf3 (w.heap.size) o (by first | omega | (simp; done) | (simp; omega))))
                go_ret
                refine ⟨?_, (by repeat (first | exact Below.refl _ _ | assumption | (with_reducible refine Below.drew ?_) | (with_reducible refine below_drewN ?_ _) | (with_reducible refine Below.alloc ?_ (by first | exact Nat.le_refl _ | assumption | (simp; done) | (simp; omega) | omega) _) | (with_reducible refine Below.setCell ?_ (by first | exact Nat.le_refl _ | assumption | (simp; done) | (simp; omega) | omega) _) | (with_reducible refine below_call ?_ (by assumption) (by first | exact Nat.le_refl _ | assumption | (simp; done) | (simp; omega) | omega)) | (with_reducible refine below_only ?_ (by assumption) (by first | exact Nat.le_refl _ | assumption | (simp; done) | (simp; omega) | omega) (by first | exact Nat.le_refl _ | assumption | (simp; done) | (simp; omega) | omega))))⟩
                rw [HPOST.out (q ||| 524287) (by rw [HO.out, HQ.out]; rfl)]; rfl
              · have e25 : (o.code == 25) = false := by simp [h25]
                clear h25
                have HO : Hid (observesB o = false) := by unfold Hid; simp [observesB, hL, e23, e24, e25]
                go_wp2_with (first | (go_at_call 76; refine (mayLeave_of hL _).mono ?_; rintro e w3 ⟨rfl, hb3⟩; obtain ⟨hc3, hf3⟩ := bcell hb3; have hz3 := hb3.size; (try simp only [World.size_alloc, World.size_setCell, World.heap_drewN, World.size_drew] at hz3); have hy3_0 : w.heap.size < w3.heap.size := (by omega); have hc3_0 := fun o => hc3 (w.heap.size) o (by first | omega | (simp; done) | (simp; omega)); have hf3_0 := fun o => hf3 (w.heap.size) o (by first | omega | (simp; done) | (simp; omega))))
                go_ret
                refine ⟨?_, (by repeat (first | exact Below.refl _ _ | assumption | (with_reducible refine Below.drew ?_) | (with_reducible refine below_drewN ?_ _) | (with_reducible refine Below.alloc ?_ (by first | exact Nat.le_refl _ | assumption | (simp; done) | (simp; omega) | omega) _) | (with_reducible refine Below.setCell ?_ (by first | exact Nat.le_refl _ | assumption | (simp; done) | (simp; omega) | omega) _) | (with_reducible refine below_call ?_ (by assumption) (by first | exact Nat.le_refl _ | assumption | (simp; done) | (simp; omega) | omega)) | (with_reducible refine below_only ?_ (by assumption) (by first | exact Nat.le_refl _ | assumption | (simp; done) | (simp; omega) | omega) (by first | exact Nat.le_refl _ | assumption | (simp; done) | (simp; omega) | omega))))⟩
                rw [HPOST.out q (by rw [HO.out, HQ.out]; rfl)]; rfl
        · have HO : Hid (observesB o = true) := by unfold Hid; simp [observesB, hL]
          go_wp2_with (first | (go_at_call 76; refine (mayLeave_of hL _).mono ?_; rintro e w3 ⟨rfl, hb3⟩; obtain ⟨hc3, hf3⟩ := bcell hb3; have hz3 := hb3.size; (try simp only [World.size_alloc, World.size_setCell, World.heap_drewN, World.size_drew] at hz3); have hy3_0 : w.heap.size < w3.heap.size := (by omega); have hc3_0 := fun o => hc3 (w.heap.size) o (by first | omega | (simp; done) | (simp; omega)); have hf3_0 := fun o => hf3 (w.heap.size) o (by first | omega | (simp; done) | (simp; omega))))
          go_ret
          refine ⟨?_, (by repeat (first | exact Below.refl _ _ | assumption | (with_reducible refine Below.drew ?_) | (with_reducible refine below_drewN ?_ _) | (with_reducible refine Below.alloc ?_ (by first | exact Nat.le_refl _ | assumption | (simp; done) | (simp; omega) | omega) _) | (with_reducible refine Below.setCell ?_ (by first | exact Nat.le_refl _ | assumption | (simp; done) | (simp; omega) | omega) _) | (with_reducible refine below_call ?_ (by assumption) (by first | exact Nat.le_refl _ | assumption | (simp; done) | (simp; omega) | omega)) | (with_reducible refine below_only ?_ (by assumption) (by first | exact Nat.le_refl _ | assumption | (simp; done) | (simp; omega) | omega) (by first | exact Nat.le_refl _ | assumption | (simp; done) | (simp; omega) | omega))))⟩
          rw [HPOST.out (q ||| 524287) (by rw [HO.out, HQ.out]; rfl)]; rfl
end Go.Proofs.Ytmjfgnnefcimiaa
namespace Go.Proofs.Ytmjfgnnefcimiaa
open Go.RowKit

theorem ofInt_u32 (a : Nat) (ha : a < 4294967296) : (BitVec.ofInt 32 (a : Int)).toNat = a := by
  rw [BitVec.ofInt_natCast, BitVec.toNat_ofNat]; exact Nat.mod_eq_of_lt (by omega)
theorem u32_and {a b : Int} (ha : word a) (hb : word b) : bits .and .u32 a b = andI a b := by
  unfold word at ha hb
  obtain ⟨n, rfl⟩ := Int.eq_ofNat_of_zero_le ha.1
  obtain ⟨m, rfl⟩ := Int.eq_ofNat_of_zero_le hb.1
  have hx : n &&& m < 2 ^ 32 := Nat.and_lt_two_pow _ (by omega)
  show IntKind.u32.wrap ((BitVec.ofInt 32 (n : Int) &&& BitVec.ofInt 32 (m : Int)).toNat : Int) = _
  rw [BitVec.toNat_and, ofInt_u32 n (by omega), ofInt_u32 m (by omega), IntKind.wrap_u32]
  simp only [andI, Int.toNat_natCast]
  omega
theorem u32_or {a b : Int} (ha : word a) (hb : word b) : bits .or .u32 a b = orI a b := by
  unfold word at ha hb
  obtain ⟨n, rfl⟩ := Int.eq_ofNat_of_zero_le ha.1
  obtain ⟨m, rfl⟩ := Int.eq_ofNat_of_zero_le hb.1
  have hx : n ||| m < 2 ^ 32 := Nat.or_lt_two_pow (by omega) (by omega)
  show IntKind.u32.wrap ((BitVec.ofInt 32 (n : Int) ||| BitVec.ofInt 32 (m : Int)).toNat : Int) = _
  rw [BitVec.toNat_or, ofInt_u32 n (by omega), ofInt_u32 m (by omega), IntKind.wrap_u32]
  simp only [orI, Int.toNat_natCast]
  omega
theorem u32_xor {a b : Int} (ha : word a) (hb : word b) : bits .xor .u32 a b = xorI a b := by
  unfold word at ha hb
  obtain ⟨n, rfl⟩ := Int.eq_ofNat_of_zero_le ha.1
  obtain ⟨m, rfl⟩ := Int.eq_ofNat_of_zero_le hb.1
  have hx : n ^^^ m < 2 ^ 32 := Nat.xor_lt_two_pow (by omega) (by omega)
  show IntKind.u32.wrap ((BitVec.ofInt 32 (n : Int) ^^^ BitVec.ofInt 32 (m : Int)).toNat : Int) = _
  rw [BitVec.toNat_xor, ofInt_u32 n (by omega), ofInt_u32 m (by omega), IntKind.wrap_u32]
  simp only [xorI, Int.toNat_natCast]
  omega
theorem wrap32_signed {a : Int} (ha : word a) : wrap32 a = signedI a := by
  unfold word at ha
  unfold wrap32 signedI
  split <;> omega

set_option maxHeartbeats 400000 in
theorem bit_word (x : Bool) (w : World) :
    Calls Try.prog 113 #[.bool x] w fun e w' => e = .returned (.int .u32 (bitI x)) ∧ w = w' := by
  cases x
  all_goals
    go_enter Try.func113, Try.ntmps113
    go_wp2
    go_ret
    exact ⟨rfl, rfl⟩
set_option maxHeartbeats 400000 in
theorem bit_ref (x : Bool) (w : World) :
    Calls Try.prog 99 #[.bool x] w fun e w' => e = .returned (.int .u32 (bitI x)) ∧ w = w' := by
  cases x
  all_goals
    go_enter Try.func99, Try.ntmps99
    go_wp2
    go_ret
    exact ⟨rfl, rfl⟩
set_option maxHeartbeats 400000 in
theorem signed_ref (a : Int) (w : World) (ha : word a) :
    Calls Try.prog 98 #[.int .u32 a] w fun e w' => e = .returned (.int .i64 (signedI a)) ∧ w = w' := by
  obtain ⟨h0, h1⟩ := ha
  by_cases hs : 2147483648 ≤ a
  all_goals
    go_enter Try.func98, Try.ntmps98
    go_wp2
    go_ret
    exact ⟨ret_int (by unfold signedI; split <;> omega), rfl⟩
set_option maxRecDepth 100000 in
set_option maxHeartbeats 400000 in
theorem op3 (a b : Int) (w : World) (ha : word a) (hb : word b) :
    Calls Try.prog 102 #[.int .u32 a, .int .u32 b] w fun e w' => e = .returned (.int .u32 (wordOp 3 a b)) ∧ w = w' := by
  have HA := Lib.hid ha
  have HB := Lib.hid hb
  obtain ⟨g1, g2⟩ := ha
  obtain ⟨g3, g4⟩ := hb
  go_enter Try.func102, Try.ntmps102
  go_wp2
  go_ret
  exact ⟨ret_int (by simp [wordOp]), rfl⟩
set_option maxRecDepth 100000 in
set_option maxHeartbeats 400000 in
theorem op4 (a b : Int) (w : World) (ha : word a) (hb : word b) :
    Calls Try.prog 103 #[.int .u32 a, .int .u32 b] w fun e w' => e = .returned (.int .u32 (wordOp 4 a b)) ∧ w = w' := by
  have HA := Lib.hid ha
  have HB := Lib.hid hb
  obtain ⟨g1, g2⟩ := ha
  obtain ⟨g3, g4⟩ := hb
  go_enter Try.func103, Try.ntmps103
  go_wp2
  go_ret
  exact ⟨ret_int (by simp [wordOp]), rfl⟩
set_option maxRecDepth 100000 in
set_option maxHeartbeats 400000 in
theorem op5 (a b : Int) (w : World) (ha : word a) (hb : word b) :
    Calls Try.prog 104 #[.int .u32 a, .int .u32 b] w fun e w' => e = .returned (.int .u32 (wordOp 5 a b)) ∧ w = w' := by
  have HA := Lib.hid ha
  have HB := Lib.hid hb
  obtain ⟨g1, g2⟩ := ha
  obtain ⟨g3, g4⟩ := hb
  go_enter Try.func104, Try.ntmps104
  go_wp2
  go_ret
  exact ⟨ret_int (by simp [wordOp]; exact u32_and HA.out HB.out), rfl⟩
set_option maxRecDepth 100000 in
set_option maxHeartbeats 400000 in
theorem op6 (a b : Int) (w : World) (ha : word a) (hb : word b) :
    Calls Try.prog 105 #[.int .u32 a, .int .u32 b] w fun e w' => e = .returned (.int .u32 (wordOp 6 a b)) ∧ w = w' := by
  have HA := Lib.hid ha
  have HB := Lib.hid hb
  obtain ⟨g1, g2⟩ := ha
  obtain ⟨g3, g4⟩ := hb
  go_enter Try.func105, Try.ntmps105
  go_wp2
  go_ret
  exact ⟨ret_int (by simp [wordOp]; exact u32_or HA.out HB.out), rfl⟩
set_option maxRecDepth 100000 in
set_option maxHeartbeats 400000 in
theorem op7 (a b : Int) (w : World) (ha : word a) (hb : word b) :
    Calls Try.prog 106 #[.int .u32 a, .int .u32 b] w fun e w' => e = .returned (.int .u32 (wordOp 7 a b)) ∧ w = w' := by
  have HA := Lib.hid ha
  have HB := Lib.hid hb
  obtain ⟨g1, g2⟩ := ha
  obtain ⟨g3, g4⟩ := hb
  go_enter Try.func106, Try.ntmps106
  go_wp2
  go_ret
  exact ⟨ret_int (by simp [wordOp]; exact u32_xor HA.out HB.out), rfl⟩
set_option maxRecDepth 100000 in
set_option maxHeartbeats 400000 in
theorem op8 (a b : Int) (w : World) (ha : word a) (hb : word b) :
    Calls Try.prog 107 #[.int .u32 a, .int .u32 b] w fun e w' => e = .returned (.int .u32 (wordOp 8 a b)) ∧ w = w' := by
  have HA := Lib.hid ha
  have HB := Lib.hid hb
  obtain ⟨g1, g2⟩ := ha
  obtain ⟨g3, g4⟩ := hb
  go_enter Try.func107, Try.ntmps107
  go_wp2
  go_ret
  exact ⟨ret_int (by simp [wordOp]), rfl⟩
set_option maxRecDepth 100000 in
set_option maxHeartbeats 400000 in
theorem op9 (a b : Int) (w : World) (ha : word a) (hb : word b) :
    Calls Try.prog 108 #[.int .u32 a, .int .u32 b] w fun e w' => e = .returned (.int .u32 (wordOp 9 a b)) ∧ w = w' := by
  have HA := Lib.hid ha
  have HB := Lib.hid hb
  obtain ⟨g1, g2⟩ := ha
  obtain ⟨g3, g4⟩ := hb
  go_enter Try.func108, Try.ntmps108
  go_wp2
  go_ret
  exact ⟨ret_int (by simp [wordOp]), rfl⟩
set_option maxRecDepth 100000 in
set_option maxHeartbeats 400000 in
theorem op10 (a b : Int) (w : World) (ha : word a) (hb : word b) :
    Calls Try.prog 109 #[.int .u32 a, .int .u32 b] w fun e w' => e = .returned (.int .u32 (wordOp 10 a b)) ∧ w = w' := by
  have HA := Lib.hid ha
  have HB := Lib.hid hb
  obtain ⟨g1, g2⟩ := ha
  obtain ⟨g3, g4⟩ := hb
  go_enter Try.func109, Try.ntmps109
  go_wp2
  go_ret
  exact ⟨ret_int (by simp [wordOp, wrap32_signed HA.out]), rfl⟩
set_option maxRecDepth 100000 in
set_option maxHeartbeats 400000 in
theorem op11 (a b : Int) (w : World) (ha : word a) (hb : word b) :
    Calls Try.prog 110 #[.int .u32 a, .int .u32 b] w fun e w' => e = .returned (.int .u32 (wordOp 11 a b)) ∧ w = w' := by
  have HA := Lib.hid ha
  have HB := Lib.hid hb
  obtain ⟨g1, g2⟩ := ha
  obtain ⟨g3, g4⟩ := hb
  go_enter Try.func110, Try.ntmps110
  go_wp2
  go_ret
  exact ⟨ret_int (by simp [wordOp]), rfl⟩
set_option maxRecDepth 100000 in
set_option maxHeartbeats 400000 in
theorem op12 (a b : Int) (w : World) (ha : word a) (hb : word b) :
    Calls Try.prog 111 #[.int .u32 a, .int .u32 b] w fun e w' => e = .returned (.int .u32 (wordOp 12 a b)) ∧ w = w' := by
  have HA := Lib.hid ha
  have HB := Lib.hid hb
  obtain ⟨g1, g2⟩ := ha
  obtain ⟨g3, g4⟩ := hb
  by_cases h0 : b = 0
  · subst h0
    go_enter Try.func111, Try.ntmps111
    go_wp2
    go_ret
    exact ⟨rfl, rfl⟩
  · have h1 : 1 ≤ b := by omega
    have e1 : (b == 0) = false := by simp [h0]
    clear h0
    go_enter Try.func111, Try.ntmps111
    go_wp2
    go_ret
    refine ⟨ret_int ?_, rfl⟩
    rw [show wordOp 12 a b = a / b from by simp [wordOp]; omega]
set_option maxRecDepth 100000 in
set_option maxHeartbeats 400000 in
theorem op13 (a b : Int) (w : World) (ha : word a) (hb : word b) :
    Calls Try.prog 112 #[.int .u32 a, .int .u32 b] w fun e w' => e = .returned (.int .u32 (wordOp 13 a b)) ∧ w = w' := by
  have HA := Lib.hid ha
  have HB := Lib.hid hb
  obtain ⟨g1, g2⟩ := ha
  obtain ⟨g3, g4⟩ := hb
  go_enter Try.func112, Try.ntmps112
  go_wp2_with (go_at_call 113; refine (bit_word _ _).mono ?_; rintro e w' ⟨rfl, rfl⟩)
  go_ret
  exact ⟨ret_int (by simp [wordOp]; rfl), rfl⟩
set_option maxRecDepth 100000 in
set_option maxHeartbeats 400000 in
theorem op14 (a b : Int) (w : World) (ha : word a) (hb : word b) :
    Calls Try.prog 114 #[.int .u32 a, .int .u32 b] w fun e w' => e = .returned (.int .u32 (wordOp 14 a b)) ∧ w = w' := by
  have HA := Lib.hid ha
  have HB := Lib.hid hb
  obtain ⟨g1, g2⟩ := ha
  obtain ⟨g3, g4⟩ := hb
  go_enter Try.func114, Try.ntmps114
  go_wp2_with (go_at_call 113; refine (bit_word _ _).mono ?_; rintro e w' ⟨rfl, rfl⟩)
  go_ret
  exact ⟨ret_int (by simp [wordOp]), rfl⟩
set_option maxRecDepth 100000 in
set_option maxHeartbeats 400000 in
theorem op15 (a b : Int) (w : World) (ha : word a) (hb : word b) :
    Calls Try.prog 115 #[.int .u32 a, .int .u32 b] w fun e w' => e = .returned (.int .u32 (wordOp 15 a b)) ∧ w = w' := by
  have HA := Lib.hid ha
  have HB := Lib.hid hb
  obtain ⟨g1, g2⟩ := ha
  obtain ⟨g3, g4⟩ := hb
  go_enter Try.func115, Try.ntmps115
  go_wp2_with (go_at_call 113; refine (bit_word _ _).mono ?_; rintro e w' ⟨rfl, rfl⟩)
  go_ret
  exact ⟨ret_int (by simp [wordOp, wrap32_signed HA.out, wrap32_signed HB.out]), rfl⟩
end Go.Proofs.Ytmjfgnnefcimiaa
namespace Go.Proofs.Ytmjfgnnefcimiaa
open Go.RowKit

/-- How a map's function values read: by their numbers. -/
def fnElem : Value → Option (DataW Unit × List MemPlace)
  | .func (.func f) a b => if a.size = 0 ∧ b.size = 0 then some (.lit (.int .i64 (f : Int)), []) else none
  | .nilFunc => some (.lit (.bool false), [])
  | _ => none
def fnMk (x : Int) : Value := .func (.func x.toNat) #[] #[]
def fnCd (x : Int) : DataW Unit := .lit (.int .i64 x)
theorem fnElems : Elems fnElem fnMk fnCd (fun x => 0 ≤ x) where
  to x hx := by simp [fnElem, fnMk, fnCd]; omega
  from_ v x ps h := by
    unfold fnElem at h
    split at h
    · rename_i f a b
      split at h
      · rename_i hs
        obtain ⟨ha, hb⟩ := hs
        have ea := Array.eq_empty_of_size_eq_zero ha
        have eb := Array.eq_empty_of_size_eq_zero hb
        subst ea; subst eb
        simp only [Option.some.injEq, Prod.mk.injEq, fnCd] at h
        have h1 := h.1
        injection h1 with h1
        injection h1 with _ h1
        subst h1
        simp [fnMk]
      · cases h
    · simp [fnCd] at h
    · cases h
theorem fnNil (v : Value) (ps : List MemPlace) (h : fnElem v = some (.lit (.bool false), ps)) : v = .nilFunc := by
  unfold fnElem at h
  split at h
  · split at h
    · simp at h
    · cases h
  · rfl
  · cases h
theorem fnZero (w : World) : (zeroValue 126).run Try.prog w = .ok .nilFunc w := by kernel_rfl

def opsF : Int → Option Int := mput (mput (mput (mput (mput (mput (mput (mput (mput (mput (mput (mput (mput (fun _ => none) 3 102) 4 103) 5 104) 6 105) 7 106) 8 107) 9 108) 10 109) 11 110) 12 111) 13 112) 14 114) 15 115

set_option maxRecDepth 100000 in
set_option maxHeartbeats 1000000 in
theorem ops_any (w : World) :
    Calls Try.prog 96 #[] w fun e w' => ∃ b, e = .returned (.map (some b)) ∧ IMap fnElem fnCd w' b 13 opsF ∧ Below w.heap.size w w' := by
  have hmm := @run_makeMap Try.prog
  have hT := Try.underlying128
  have m2 := IMap.made (R := fnElem) (cd := fnCd) w
  obtain ⟨w3, r3, m3, g3⟩ := m2.put fnElems hT (by omega) (k := 3) (x := 102) (by decide) (by decide)
  obtain ⟨w4, r4, m4, g4⟩ := m3.put fnElems hT (by omega) (k := 4) (x := 103) (by decide) (by decide)
  obtain ⟨w5, r5, m5, g5⟩ := m4.put fnElems hT (by omega) (k := 5) (x := 104) (by decide) (by decide)
  obtain ⟨w6, r6, m6, g6⟩ := m5.put fnElems hT (by omega) (k := 6) (x := 105) (by decide) (by decide)
  obtain ⟨w7, r7, m7, g7⟩ := m6.put fnElems hT (by omega) (k := 7) (x := 106) (by decide) (by decide)
  obtain ⟨w8, r8, m8, g8⟩ := m7.put fnElems hT (by omega) (k := 8) (x := 107) (by decide) (by decide)
  obtain ⟨w9, r9, m9, g9⟩ := m8.put fnElems hT (by omega) (k := 9) (x := 108) (by decide) (by decide)
  obtain ⟨w10, r10, m10, g10⟩ := m9.put fnElems hT (by omega) (k := 10) (x := 109) (by decide) (by decide)
  obtain ⟨w11, r11, m11, g11⟩ := m10.put fnElems hT (by omega) (k := 11) (x := 110) (by decide) (by decide)
  obtain ⟨w12, r12, m12, g12⟩ := m11.put fnElems hT (by omega) (k := 12) (x := 111) (by decide) (by decide)
  obtain ⟨w13, r13, m13, g13⟩ := m12.put fnElems hT (by omega) (k := 13) (x := 112) (by decide) (by decide)
  obtain ⟨w14, r14, m14, g14⟩ := m13.put fnElems hT (by omega) (k := 14) (x := 114) (by decide) (by decide)
  obtain ⟨w15, r15, m15, g15⟩ := m14.put fnElems hT (by omega) (k := 15) (x := 115) (by decide) (by decide)
  have hT' := Lib.hid hT
  clear hT
  have hB : Below w.heap.size w w15 := by
    have h := (Below.refl w.heap.size w).alloc (Nat.le_refl _) (.map #[] 0)
    have h := h.grown g3 (by simp) (fun k e => by cases e; exact Nat.le_refl _)
    have h := h.grown g4 h.size (fun k e => by cases e; exact Nat.le_refl _)
    have h := h.grown g5 h.size (fun k e => by cases e; exact Nat.le_refl _)
    have h := h.grown g6 h.size (fun k e => by cases e; exact Nat.le_refl _)
    have h := h.grown g7 h.size (fun k e => by cases e; exact Nat.le_refl _)
    have h := h.grown g8 h.size (fun k e => by cases e; exact Nat.le_refl _)
    have h := h.grown g9 h.size (fun k e => by cases e; exact Nat.le_refl _)
    have h := h.grown g10 h.size (fun k e => by cases e; exact Nat.le_refl _)
    have h := h.grown g11 h.size (fun k e => by cases e; exact Nat.le_refl _)
    have h := h.grown g12 h.size (fun k e => by cases e; exact Nat.le_refl _)
    have h := h.grown g13 h.size (fun k e => by cases e; exact Nat.le_refl _)
    have h := h.grown g14 h.size (fun k e => by cases e; exact Nat.le_refl _)
    have h := h.grown g15 h.size (fun k e => by cases e; exact Nat.le_refl _)
    exact h
  have HM := Lib.hid m15
  have HBB := Lib.hid hB
  clear hB m2 m3 g3 m4 g4 m5 g5 m6 g6 m7 g7 m8 g8 m9 g9 m10 g10 m11 g11 m12 g12 m13 g13 m14 g14 m15 g15
  simp only [fnMk, show (102 : Int).toNat = 102 from rfl] at r3
  simp only [fnMk, show (103 : Int).toNat = 103 from rfl] at r4
  simp only [fnMk, show (104 : Int).toNat = 104 from rfl] at r5
  simp only [fnMk, show (105 : Int).toNat = 105 from rfl] at r6
  simp only [fnMk, show (106 : Int).toNat = 106 from rfl] at r7
  simp only [fnMk, show (107 : Int).toNat = 107 from rfl] at r8
  simp only [fnMk, show (108 : Int).toNat = 108 from rfl] at r9
  simp only [fnMk, show (109 : Int).toNat = 109 from rfl] at r10
  simp only [fnMk, show (110 : Int).toNat = 110 from rfl] at r11
  simp only [fnMk, show (111 : Int).toNat = 111 from rfl] at r12
  simp only [fnMk, show (112 : Int).toNat = 112 from rfl] at r13
  simp only [fnMk, show (114 : Int).toNat = 114 from rfl] at r14
  simp only [fnMk, show (115 : Int).toNat = 115 from rfl] at r15
  go_enter Try.func96, Try.ntmps96
  go_wp2
  go_ret
  exact ⟨_, rfl, HM.out, HBB.out⟩

theorem opsF_none (c : Int) (h : isBin c = false) : opsF c = none := by
  simp [isBin] at h
  unfold opsF
  simp only [mput]
  repeat (rw [if_neg (by omega)])

set_option maxRecDepth 100000 in
set_option maxHeartbeats 400000 in
theorem op_none (c a b : Int) (w : World) (hc : mid c) (h : isBin c = false) :
    Calls Try.prog 72 #[.int .i64 c, .int .u32 a, .int .u32 b] w fun e w' => e = .returned (.int .u32 0) ∧ Below w.heap.size w w' := by
  have hf := Lib.hid (opsF_none c h)
  have hc' := Lib.hid hc
  clear h hc
  go_enter Try.func72, Try.ntmps72
  go_wp2_with (go_at_call 96; refine (ops_any _).mono ?_; rintro e w1 ⟨m1, rfl, him, hb1⟩; have hl := him.look fnElems (_x0 := 0) Try.underlying128 (fnZero _) rfl fnNil (wf_mid hc'.out); rw [hf.out] at hl; simp only [Option.map_none, Option.getD_none, Option.isSome_none] at hl; clear him)
  go_ret
  exact ⟨rfl, hb1⟩

set_option maxRecDepth 100000 in
set_option maxHeartbeats 400000 in
theorem op_is3 (a b : Int) (w : World) (ha : word a) (hb : word b) :
    Calls Try.prog 72 #[.int .i64 3, .int .u32 a, .int .u32 b] w fun e w' => e = .returned (.int .u32 (wordOp 3 a b)) ∧ Below w.heap.size w w' := by
  have HA := Lib.hid ha
  have HB := Lib.hid hb
  clear ha hb
  have hf : Hid (opsF 3 = some 102) := by unfold Hid opsF; simp [mput]
  go_enter Try.func72, Try.ntmps72
  go_wp2_with (first | (go_at_call 96; refine (ops_any _).mono ?_; rintro e w1 ⟨m1, rfl, him, hb1⟩; have hl := him.look fnElems (_x0 := 0) (k := 3) Try.underlying128 (fnZero _) rfl fnNil (by decide); rw [hf.out] at hl; simp only [Option.map_some, Option.getD_some, Option.isSome_some, fnMk, show (102 : Int).toNat = 102 from rfl] at hl; clear him) | (go_at_call 102; refine (op3 a b _ HA.out HB.out).mono ?_; rintro e w' ⟨rfl, rfl⟩))
  go_ret
  exact ⟨rfl, hb1⟩

set_option maxRecDepth 100000 in
set_option maxHeartbeats 400000 in
theorem op_is4 (a b : Int) (w : World) (ha : word a) (hb : word b) :
    Calls Try.prog 72 #[.int .i64 4, .int .u32 a, .int .u32 b] w fun e w' => e = .returned (.int .u32 (wordOp 4 a b)) ∧ Below w.heap.size w w' := by
  have HA := Lib.hid ha
  have HB := Lib.hid hb
  clear ha hb
  have hf : Hid (opsF 4 = some 103) := by unfold Hid opsF; simp [mput]
  go_enter Try.func72, Try.ntmps72
  go_wp2_with (first | (go_at_call 96; refine (ops_any _).mono ?_; rintro e w1 ⟨m1, rfl, him, hb1⟩; have hl := him.look fnElems (_x0 := 0) (k := 4) Try.underlying128 (fnZero _) rfl fnNil (by decide); rw [hf.out] at hl; simp only [Option.map_some, Option.getD_some, Option.isSome_some, fnMk, show (103 : Int).toNat = 103 from rfl] at hl; clear him) | (go_at_call 103; refine (op4 a b _ HA.out HB.out).mono ?_; rintro e w' ⟨rfl, rfl⟩))
  go_ret
  exact ⟨rfl, hb1⟩

set_option maxRecDepth 100000 in
set_option maxHeartbeats 400000 in
theorem op_is5 (a b : Int) (w : World) (ha : word a) (hb : word b) :
    Calls Try.prog 72 #[.int .i64 5, .int .u32 a, .int .u32 b] w fun e w' => e = .returned (.int .u32 (wordOp 5 a b)) ∧ Below w.heap.size w w' := by
  have HA := Lib.hid ha
  have HB := Lib.hid hb
  clear ha hb
  have hf : Hid (opsF 5 = some 104) := by unfold Hid opsF; simp [mput]
  go_enter Try.func72, Try.ntmps72
  go_wp2_with (first | (go_at_call 96; refine (ops_any _).mono ?_; rintro e w1 ⟨m1, rfl, him, hb1⟩; have hl := him.look fnElems (_x0 := 0) (k := 5) Try.underlying128 (fnZero _) rfl fnNil (by decide); rw [hf.out] at hl; simp only [Option.map_some, Option.getD_some, Option.isSome_some, fnMk, show (104 : Int).toNat = 104 from rfl] at hl; clear him) | (go_at_call 104; refine (op5 a b _ HA.out HB.out).mono ?_; rintro e w' ⟨rfl, rfl⟩))
  go_ret
  exact ⟨rfl, hb1⟩

set_option maxRecDepth 100000 in
set_option maxHeartbeats 400000 in
theorem op_is6 (a b : Int) (w : World) (ha : word a) (hb : word b) :
    Calls Try.prog 72 #[.int .i64 6, .int .u32 a, .int .u32 b] w fun e w' => e = .returned (.int .u32 (wordOp 6 a b)) ∧ Below w.heap.size w w' := by
  have HA := Lib.hid ha
  have HB := Lib.hid hb
  clear ha hb
  have hf : Hid (opsF 6 = some 105) := by unfold Hid opsF; simp [mput]
  go_enter Try.func72, Try.ntmps72
  go_wp2_with (first | (go_at_call 96; refine (ops_any _).mono ?_; rintro e w1 ⟨m1, rfl, him, hb1⟩; have hl := him.look fnElems (_x0 := 0) (k := 6) Try.underlying128 (fnZero _) rfl fnNil (by decide); rw [hf.out] at hl; simp only [Option.map_some, Option.getD_some, Option.isSome_some, fnMk, show (105 : Int).toNat = 105 from rfl] at hl; clear him) | (go_at_call 105; refine (op6 a b _ HA.out HB.out).mono ?_; rintro e w' ⟨rfl, rfl⟩))
  go_ret
  exact ⟨rfl, hb1⟩

set_option maxRecDepth 100000 in
set_option maxHeartbeats 400000 in
theorem op_is7 (a b : Int) (w : World) (ha : word a) (hb : word b) :
    Calls Try.prog 72 #[.int .i64 7, .int .u32 a, .int .u32 b] w fun e w' => e = .returned (.int .u32 (wordOp 7 a b)) ∧ Below w.heap.size w w' := by
  have HA := Lib.hid ha
  have HB := Lib.hid hb
  clear ha hb
  have hf : Hid (opsF 7 = some 106) := by unfold Hid opsF; simp [mput]
  go_enter Try.func72, Try.ntmps72
  go_wp2_with (first | (go_at_call 96; refine (ops_any _).mono ?_; rintro e w1 ⟨m1, rfl, him, hb1⟩; have hl := him.look fnElems (_x0 := 0) (k := 7) Try.underlying128 (fnZero _) rfl fnNil (by decide); rw [hf.out] at hl; simp only [Option.map_some, Option.getD_some, Option.isSome_some, fnMk, show (106 : Int).toNat = 106 from rfl] at hl; clear him) | (go_at_call 106; refine (op7 a b _ HA.out HB.out).mono ?_; rintro e w' ⟨rfl, rfl⟩))
  go_ret
  exact ⟨rfl, hb1⟩

set_option maxRecDepth 100000 in
set_option maxHeartbeats 400000 in
theorem op_is8 (a b : Int) (w : World) (ha : word a) (hb : word b) :
    Calls Try.prog 72 #[.int .i64 8, .int .u32 a, .int .u32 b] w fun e w' => e = .returned (.int .u32 (wordOp 8 a b)) ∧ Below w.heap.size w w' := by
  have HA := Lib.hid ha
  have HB := Lib.hid hb
  clear ha hb
  have hf : Hid (opsF 8 = some 107) := by unfold Hid opsF; simp [mput]
  go_enter Try.func72, Try.ntmps72
  go_wp2_with (first | (go_at_call 96; refine (ops_any _).mono ?_; rintro e w1 ⟨m1, rfl, him, hb1⟩; have hl := him.look fnElems (_x0 := 0) (k := 8) Try.underlying128 (fnZero _) rfl fnNil (by decide); rw [hf.out] at hl; simp only [Option.map_some, Option.getD_some, Option.isSome_some, fnMk, show (107 : Int).toNat = 107 from rfl] at hl; clear him) | (go_at_call 107; refine (op8 a b _ HA.out HB.out).mono ?_; rintro e w' ⟨rfl, rfl⟩))
  go_ret
  exact ⟨rfl, hb1⟩

set_option maxRecDepth 100000 in
set_option maxHeartbeats 400000 in
theorem op_is9 (a b : Int) (w : World) (ha : word a) (hb : word b) :
    Calls Try.prog 72 #[.int .i64 9, .int .u32 a, .int .u32 b] w fun e w' => e = .returned (.int .u32 (wordOp 9 a b)) ∧ Below w.heap.size w w' := by
  have HA := Lib.hid ha
  have HB := Lib.hid hb
  clear ha hb
  have hf : Hid (opsF 9 = some 108) := by unfold Hid opsF; simp [mput]
  go_enter Try.func72, Try.ntmps72
  go_wp2_with (first | (go_at_call 96; refine (ops_any _).mono ?_; rintro e w1 ⟨m1, rfl, him, hb1⟩; have hl := him.look fnElems (_x0 := 0) (k := 9) Try.underlying128 (fnZero _) rfl fnNil (by decide); rw [hf.out] at hl; simp only [Option.map_some, Option.getD_some, Option.isSome_some, fnMk, show (108 : Int).toNat = 108 from rfl] at hl; clear him) | (go_at_call 108; refine (op9 a b _ HA.out HB.out).mono ?_; rintro e w' ⟨rfl, rfl⟩))
  go_ret
  exact ⟨rfl, hb1⟩

set_option maxRecDepth 100000 in
set_option maxHeartbeats 400000 in
theorem op_is10 (a b : Int) (w : World) (ha : word a) (hb : word b) :
    Calls Try.prog 72 #[.int .i64 10, .int .u32 a, .int .u32 b] w fun e w' => e = .returned (.int .u32 (wordOp 10 a b)) ∧ Below w.heap.size w w' := by
  have HA := Lib.hid ha
  have HB := Lib.hid hb
  clear ha hb
  have hf : Hid (opsF 10 = some 109) := by unfold Hid opsF; simp [mput]
  go_enter Try.func72, Try.ntmps72
  go_wp2_with (first | (go_at_call 96; refine (ops_any _).mono ?_; rintro e w1 ⟨m1, rfl, him, hb1⟩; have hl := him.look fnElems (_x0 := 0) (k := 10) Try.underlying128 (fnZero _) rfl fnNil (by decide); rw [hf.out] at hl; simp only [Option.map_some, Option.getD_some, Option.isSome_some, fnMk, show (109 : Int).toNat = 109 from rfl] at hl; clear him) | (go_at_call 109; refine (op10 a b _ HA.out HB.out).mono ?_; rintro e w' ⟨rfl, rfl⟩))
  go_ret
  exact ⟨rfl, hb1⟩

set_option maxRecDepth 100000 in
set_option maxHeartbeats 400000 in
theorem op_is11 (a b : Int) (w : World) (ha : word a) (hb : word b) :
    Calls Try.prog 72 #[.int .i64 11, .int .u32 a, .int .u32 b] w fun e w' => e = .returned (.int .u32 (wordOp 11 a b)) ∧ Below w.heap.size w w' := by
  have HA := Lib.hid ha
  have HB := Lib.hid hb
  clear ha hb
  have hf : Hid (opsF 11 = some 110) := by unfold Hid opsF; simp [mput]
  go_enter Try.func72, Try.ntmps72
  go_wp2_with (first | (go_at_call 96; refine (ops_any _).mono ?_; rintro e w1 ⟨m1, rfl, him, hb1⟩; have hl := him.look fnElems (_x0 := 0) (k := 11) Try.underlying128 (fnZero _) rfl fnNil (by decide); rw [hf.out] at hl; simp only [Option.map_some, Option.getD_some, Option.isSome_some, fnMk, show (110 : Int).toNat = 110 from rfl] at hl; clear him) | (go_at_call 110; refine (op11 a b _ HA.out HB.out).mono ?_; rintro e w' ⟨rfl, rfl⟩))
  go_ret
  exact ⟨rfl, hb1⟩

set_option maxRecDepth 100000 in
set_option maxHeartbeats 400000 in
theorem op_is12 (a b : Int) (w : World) (ha : word a) (hb : word b) :
    Calls Try.prog 72 #[.int .i64 12, .int .u32 a, .int .u32 b] w fun e w' => e = .returned (.int .u32 (wordOp 12 a b)) ∧ Below w.heap.size w w' := by
  have HA := Lib.hid ha
  have HB := Lib.hid hb
  clear ha hb
  have hf : Hid (opsF 12 = some 111) := by unfold Hid opsF; simp [mput]
  go_enter Try.func72, Try.ntmps72
  go_wp2_with (first | (go_at_call 96; refine (ops_any _).mono ?_; rintro e w1 ⟨m1, rfl, him, hb1⟩; have hl := him.look fnElems (_x0 := 0) (k := 12) Try.underlying128 (fnZero _) rfl fnNil (by decide); rw [hf.out] at hl; simp only [Option.map_some, Option.getD_some, Option.isSome_some, fnMk, show (111 : Int).toNat = 111 from rfl] at hl; clear him) | (go_at_call 111; refine (op12 a b _ HA.out HB.out).mono ?_; rintro e w' ⟨rfl, rfl⟩))
  go_ret
  exact ⟨rfl, hb1⟩

set_option maxRecDepth 100000 in
set_option maxHeartbeats 400000 in
theorem op_is13 (a b : Int) (w : World) (ha : word a) (hb : word b) :
    Calls Try.prog 72 #[.int .i64 13, .int .u32 a, .int .u32 b] w fun e w' => e = .returned (.int .u32 (wordOp 13 a b)) ∧ Below w.heap.size w w' := by
  have HA := Lib.hid ha
  have HB := Lib.hid hb
  clear ha hb
  have hf : Hid (opsF 13 = some 112) := by unfold Hid opsF; simp [mput]
  go_enter Try.func72, Try.ntmps72
  go_wp2_with (first | (go_at_call 96; refine (ops_any _).mono ?_; rintro e w1 ⟨m1, rfl, him, hb1⟩; have hl := him.look fnElems (_x0 := 0) (k := 13) Try.underlying128 (fnZero _) rfl fnNil (by decide); rw [hf.out] at hl; simp only [Option.map_some, Option.getD_some, Option.isSome_some, fnMk, show (112 : Int).toNat = 112 from rfl] at hl; clear him) | (go_at_call 112; refine (op13 a b _ HA.out HB.out).mono ?_; rintro e w' ⟨rfl, rfl⟩))
  go_ret
  exact ⟨rfl, hb1⟩

set_option maxRecDepth 100000 in
set_option maxHeartbeats 400000 in
theorem op_is14 (a b : Int) (w : World) (ha : word a) (hb : word b) :
    Calls Try.prog 72 #[.int .i64 14, .int .u32 a, .int .u32 b] w fun e w' => e = .returned (.int .u32 (wordOp 14 a b)) ∧ Below w.heap.size w w' := by
  have HA := Lib.hid ha
  have HB := Lib.hid hb
  clear ha hb
  have hf : Hid (opsF 14 = some 114) := by unfold Hid opsF; simp [mput]
  go_enter Try.func72, Try.ntmps72
  go_wp2_with (first | (go_at_call 96; refine (ops_any _).mono ?_; rintro e w1 ⟨m1, rfl, him, hb1⟩; have hl := him.look fnElems (_x0 := 0) (k := 14) Try.underlying128 (fnZero _) rfl fnNil (by decide); rw [hf.out] at hl; simp only [Option.map_some, Option.getD_some, Option.isSome_some, fnMk, show (114 : Int).toNat = 114 from rfl] at hl; clear him) | (go_at_call 114; refine (op14 a b _ HA.out HB.out).mono ?_; rintro e w' ⟨rfl, rfl⟩))
  go_ret
  exact ⟨rfl, hb1⟩

set_option maxRecDepth 100000 in
set_option maxHeartbeats 400000 in
theorem op_is15 (a b : Int) (w : World) (ha : word a) (hb : word b) :
    Calls Try.prog 72 #[.int .i64 15, .int .u32 a, .int .u32 b] w fun e w' => e = .returned (.int .u32 (wordOp 15 a b)) ∧ Below w.heap.size w w' := by
  have HA := Lib.hid ha
  have HB := Lib.hid hb
  clear ha hb
  have hf : Hid (opsF 15 = some 115) := by unfold Hid opsF; simp [mput]
  go_enter Try.func72, Try.ntmps72
  go_wp2_with (first | (go_at_call 96; refine (ops_any _).mono ?_; rintro e w1 ⟨m1, rfl, him, hb1⟩; have hl := him.look fnElems (_x0 := 0) (k := 15) Try.underlying128 (fnZero _) rfl fnNil (by decide); rw [hf.out] at hl; simp only [Option.map_some, Option.getD_some, Option.isSome_some, fnMk, show (115 : Int).toNat = 115 from rfl] at hl; clear him) | (go_at_call 115; refine (op15 a b _ HA.out HB.out).mono ?_; rintro e w' ⟨rfl, rfl⟩))
  go_ret
  exact ⟨rfl, hb1⟩

/-- word.Op gives 'wordOp'. -/
theorem op_word (c a b : Int) (w : World) (hc : mid c) (ha : word a) (hb : word b) :
    Calls Try.prog 72 #[.int .i64 c, .int .u32 a, .int .u32 b] w fun e w' => e = .returned (.int .u32 (wordOp c a b)) ∧ Below w.heap.size w w' := by
  by_cases h : isBin c = true
  · have h' : 3 ≤ c ∧ c ≤ 15 := by simpa [isBin] using h
    rcases (by omega : c = 3 ∨ c = 4 ∨ c = 5 ∨ c = 6 ∨ c = 7 ∨ c = 8 ∨ c = 9 ∨ c = 10 ∨ c = 11 ∨ c = 12 ∨ c = 13 ∨ c = 14 ∨ c = 15) with rfl | rfl | rfl | rfl | rfl | rfl | rfl | rfl | rfl | rfl | rfl | rfl | rfl
    · exact op_is3 a b w ha hb
    · exact op_is4 a b w ha hb
    · exact op_is5 a b w ha hb
    · exact op_is6 a b w ha hb
    · exact op_is7 a b w ha hb
    · exact op_is8 a b w ha hb
    · exact op_is9 a b w ha hb
    · exact op_is10 a b w ha hb
    · exact op_is11 a b w ha hb
    · exact op_is12 a b w ha hb
    · exact op_is13 a b w ha hb
    · exact op_is14 a b w ha hb
    · exact op_is15 a b w ha hb
  · have h' : isBin c = false := by simpa using h
    have h0 : wordOp c a b = 0 := by
      simp [isBin] at h'
      unfold wordOp
      repeat (rw [if_neg (by omega)])
    rw [h0]
    exact op_none c a b w hc h'

end Go.Proofs.Ytmjfgnnefcimiaa
namespace Go.Proofs.Ytmjfgnnefcimiaa
open Go.RowKit

theorem mixed : Try.prog.follows .mixedOrders = true := by kernel_rfl
set_option maxRecDepth 100000 in
theorem fold_opt (g b n : Nat) (f : Int → Option Int) (o : BOp) (w : World) (hg : w.cell? ⟨g, 0, none⟩ = some (.map (some b))) (hgl : g < w.heap.size) (hm : IMap u32R u32D w b n f) (ho : o.ok) (hw : ∀ k x, f k = some x → word x) :
    Calls Try.prog 39 #[.pointer (some ⟨g, 0, none⟩), opV o] w fun e w' => e = .returned (.tuple #[opV (foldB f o).1, .bool (foldB f o).2]) ∧ Below w.heap.size w w' := by
  have ka := wf_mid ho.a
  have kb := wf_mid ho.b
  refine calls_vc (args := [.pointer (some ⟨g, 0, none⟩), opV o]) (avs := [one (.pointer (some ⟨g, 0, none⟩)), AV.of (opV o)]) Try.func39 Try.ntmps39 rfl (rel_none w) ⟨_, _, rfl, den_one _ _, _, _, rfl, AV.of_den _ _, rfl⟩ (by simp) ?_
  conv => whnf
  refine sat_quiet mixed (by kernel_rfl) ?_
  conv => whnf
  refine ⟨_, cells_one hgl (by simp) hg, ?_⟩
  conv => whnf
  refine q_look_u32_old rfl o.a rfl hm (by simp) rfl ka ?_
  conv => whnf
  refine sat_quiet mixed (by kernel_rfl) ?_
  conv => whnf
  refine ⟨_, cells_one hgl (by simp) hg, ?_⟩
  conv => whnf
  refine q_look_u32_old rfl o.b rfl hm (by simp) rfl kb ?_
  conv => whnf
  apply Exists.intro
  refine ⟨fun h => ?_, ?_⟩
  · conv => whnf
    exact ⟨rfl, rfl, rfl, rfl, rfl⟩
  conv => whnf
  refine ⟨fun h1 => ?_, fun h1 => ?_⟩
  · conv => whnf
    refine fin_val rfl fun w' hb => ⟨?_, hb⟩
    have e : foldB f o = (⟨1, o.d, 0, 0, (f o.a).getD 0⟩, true) := by unfold foldB; exact if_pos h1
    rw [e]
  conv => whnf
  refine call_same rfl (by kernel_rfl) (fun r w' _ => binary_any _ w') ?_
  conv => whnf
  apply Exists.intro
  refine ⟨fun h => ?_, ?_⟩
  · conv => whnf
    exact ⟨rfl, rfl, rfl, rfl, rfl⟩
  conv => whnf
  apply Exists.intro
  refine ⟨fun h => ?_, ?_⟩
  · conv => whnf
    exact ⟨rfl, rfl, rfl, rfl, rfl⟩
  conv => whnf
  refine ⟨fun h2 => ?_, fun h2 => ?_⟩
  · conv => whnf
    have h3 : (isBin o.code = true ∧ (f o.a).isSome = true) ∧ (f o.b).isSome = true := by simpa [cmb] using h2
    obtain ⟨x, hx⟩ := Option.isSome_iff_exists.1 h3.1.2
    obtain ⟨y, hy⟩ := Option.isSome_iff_exists.1 h3.2
    refine sat_tail 8 mixed (by kernel_rfl) ?_
    conv => whnf
    refine q_con rfl (by kernel_rfl) (fun r w' _ => op_word _ _ _ w' ho.code (by rw [hx]; exact hw _ _ hx) (by rw [hy]; exact hw _ _ hy)) ?_
    conv => whnf
    refine fin_val rfl fun w' hb => ⟨?_, hb⟩
    have e : foldB f o = (⟨1, o.d, 0, 0, wordOp o.code ((f o.a).getD 0) ((f o.b).getD 0)⟩, true) := by unfold foldB; exact (if_neg (Bool.eq_false_iff.1 h1)).trans (if_pos h2)
    rw [e]
  conv => whnf
  apply Exists.intro
  refine ⟨fun h => ?_, ?_⟩
  · conv => whnf
    exact ⟨rfl, rfl, rfl, rfl, rfl⟩
  conv => whnf
  apply Exists.intro
  refine ⟨fun h => ?_, ?_⟩
  · conv => whnf
    refine callS_val (.bool (memI o.code [3, 4, 6, 7, 8, 9, 10])) (by kernel_rfl) (fun r w1 us hR hd => ?_) ?_
    · obtain ⟨u1, l1, rfl, d1, u2, l2, rfl, d2, d3⟩ := hd
      obtain rfl : l2 = [] := d3
      obtain ⟨bb, hbb, rfl⟩ := den_sl d1
      obtain rfl := den_v d2
      exact (contains_int _ 7 7 _ [3, 4, 6, 7, 8, 9, 10] w1 (hR.slAt (i := 2) rfl hbb) rfl (by omega)).mono fun e w' ⟨h1, h2⟩ => ⟨h1, by subst h2; exact Below.refl _ _⟩
    · conv => whnf
      exact ⟨rfl, rfl, rfl, rfl, rfl⟩
  conv => whnf
  refine ⟨fun h3 => ?_, fun h3 => ?_⟩
  · conv => whnf
    refine fin_val rfl fun w' hb => ⟨?_, hb⟩
    have e : foldB f o = (⟨2, o.d, o.a, 0, 0⟩, true) := by
      unfold foldB
      exact (if_neg (Bool.eq_false_iff.1 h1)).trans ((if_neg (Bool.eq_false_iff.1 h2)).trans (if_pos h3))
    rw [e]
  conv => whnf
  apply Exists.intro
  refine ⟨fun h => ?_, ?_⟩
  · conv => whnf
    exact ⟨rfl, rfl, rfl, rfl, rfl⟩
  conv => whnf
  apply Exists.intro
  refine ⟨fun h => ?_, ?_⟩
  · conv => whnf
    exact ⟨rfl, rfl, rfl, rfl, rfl⟩
  conv => whnf
  refine ⟨fun h4 => ?_, fun h4 => ?_⟩
  · conv => whnf
    refine fin_val rfl fun w' hb => ⟨?_, hb⟩
    have e : foldB f o = (⟨0, 0, 0, 0, 0⟩, false) := by
      unfold foldB
      exact (if_neg (Bool.eq_false_iff.1 h1)).trans ((if_neg (Bool.eq_false_iff.1 h2)).trans ((if_neg (Bool.eq_false_iff.1 h3)).trans (if_pos h4)))
    rw [e]
  conv => whnf
  apply Exists.intro
  refine ⟨fun h => ?_, ?_⟩
  · conv => whnf
    exact ⟨rfl, rfl, rfl, rfl, rfl⟩
  conv => whnf
  refine ⟨fun h5 => ?_, fun h5 => ?_⟩
  · conv => whnf
    refine fin_val rfl fun w' hb => ⟨?_, hb⟩
    have e : foldB f o = (⟨24, 0, 0, 0, o.n⟩, (f o.a).getD 0 != 0) := by
      unfold foldB
      exact (if_neg (Bool.eq_false_iff.1 h1)).trans ((if_neg (Bool.eq_false_iff.1 h2)).trans ((if_neg (Bool.eq_false_iff.1 h3)).trans ((if_neg (Bool.eq_false_iff.1 h4)).trans (if_pos h5))))
    rw [e]
  conv => whnf
  apply Exists.intro
  refine ⟨fun h => ?_, ?_⟩
  · conv => whnf
    exact ⟨rfl, rfl, rfl, rfl, rfl⟩
  conv => whnf
  refine ⟨fun h6 => ?_, fun h6 => ?_⟩
  · conv => whnf
    refine fin_val rfl fun w' hb => ⟨?_, hb⟩
    have e : foldB f o = (⟨24, 0, 0, 0, (f o.a).getD 0⟩, true) := by
      unfold foldB
      exact (if_neg (Bool.eq_false_iff.1 h1)).trans ((if_neg (Bool.eq_false_iff.1 h2)).trans ((if_neg (Bool.eq_false_iff.1 h3)).trans ((if_neg (Bool.eq_false_iff.1 h4)).trans ((if_neg (Bool.eq_false_iff.1 h5)).trans (if_pos h6)))))
    rw [e]
  conv => whnf
  refine fin_val rfl fun w' hb => ⟨?_, hb⟩
  have e : foldB f o = (o, true) := by
    unfold foldB
    exact (if_neg (Bool.eq_false_iff.1 h1)).trans ((if_neg (Bool.eq_false_iff.1 h2)).trans ((if_neg (Bool.eq_false_iff.1 h3)).trans ((if_neg (Bool.eq_false_iff.1 h4)).trans ((if_neg (Bool.eq_false_iff.1 h5)).trans (if_neg (Bool.eq_false_iff.1 h6))))))
  rw [e]
end Go.Proofs.Ytmjfgnnefcimiaa
namespace Go.Proofs.Ytmjfgnnefcimiaa
open Go.RowKit

theorem valid_pos {b : Blk} (h : validB b = true) : 0 < b.ops.length ∧ b.ops.length ≤ 2000 := by
  unfold validB headerB at h
  simp only [Bool.and_eq_true, decide_eq_true_eq] at h
  omega
theorem sl_later {w w' : World} {A : Option Addr} {xs : List Value} (h : SlAt w w.heap.size A xs) (hB : Below w.heap.size w w') : SlAt w' w'.heap.size A xs := (h.below hB (Nat.le_refl _)).more hB.size
structure FoldSt (n : Nat) (ops : List BOp) where
  k : Nat
  f : Int → Option Int
  out : List BOp
  hk : k ≤ n
  hw : wordsF f
  hl : out.length ≤ k
  eq : foldRun noneF ops = out ++ foldRun f (ops.drop k)
theorem foldUpd_put {f : Int → Option Int} {p : BOp} (hc : (p.code == 1) = true) (hd : 0 ≤ writes p) (j : Int) : mput (mdel f (writes p)) (writes p) p.n j = foldUpd f p j := by unfold foldUpd; rw [if_pos hc, if_pos hd]
theorem foldUpd_put2 {f : Int → Option Int} {p : BOp} (hc : (p.code == 1) = true) (hd : ¬ 0 ≤ writes p) (j : Int) : mput f (writes p) p.n j = foldUpd f p j := by unfold foldUpd; rw [if_pos hc, if_neg hd]
theorem foldUpd_del {f : Int → Option Int} {p : BOp} (hc : (p.code == 1) = false) (hd : 0 ≤ writes p) (j : Int) : mdel f (writes p) j = foldUpd f p j := by unfold foldUpd; rw [hc, if_neg (by simp), if_pos hd]
theorem foldUpd_not {f : Int → Option Int} {p : BOp} (hc : (p.code == 1) = false) (hd : ¬ 0 ≤ writes p) (j : Int) : f j = foldUpd f p j := by unfold foldUpd; rw [hc, if_neg (by simp), if_neg hd]
theorem call_with {w0 : World} {G : Gs} {S : List Ow} {K : AV → List Ow → Prop} {A1 A2 A3 : Option Addr} {n1 n2 n3 c1 c2 c3 : Nat} (i : Nat) {e : TypeId} {size n : Nat} {xs : List Value} (hi : S[i]? = some (.row e size n xs))
    (hK : K (.p (.agg [.v (.slice A1 n1 c1), .v (.slice A2 n2 c2), .row i])) S) : CallS Try.prog w0 G 41 [.p (.agg [.v (.slice A1 n1 c1), .v (.slice A2 n2 c2), .v (.slice A3 n3 c3)]), .p (.c (.row i))] S K := by
  refine ⟨by kernel_rfl, fun r w us hR hd => ?_⟩
  obtain ⟨u1, l1, rfl, d1, u2, l2, rfl, d2, d3⟩ := hd
  obtain rfl : l2 = [] := d3
  obtain rfl := AV.val_den (x := .agg #[.slice A1 n1 c1, .slice A2 n2 c2, .slice A3 n3 c3]) rfl d1
  have d2' := den_row d2
  obtain ⟨A, c, hu, _⟩ := hR.rowAt hi d2'
  subst hu
  refine (with_opt A1 A2 A3 A n1 n2 n3 n c1 c2 c3 c w).mono fun e w' ⟨h1, h2⟩ => ⟨.p (.agg [.v (.slice A1 n1 c1), .v (.slice A2 n2 c2), .row i]), _, S, r, h1, ⟨_, rfl, ?_⟩, hR.below h2, Env.le.refl r, hK⟩
  simp only [denL, CV.den]
  exact ⟨_, _, rfl, rfl, _, _, rfl, rfl, _, _, rfl, d2', rfl⟩
set_option maxRecDepth 100000 in
theorem fold_pass : Pass Try.prog 17 foldAll := by
  intro b A1 A2 A3 c1 c2 c3 w hb h1 h2 h3 hc3 hm3
  cases hv : validB b
  · have hF : foldAll b = b.ops := by unfold foldAll; rw [hv]; rfl
    refine calls_val [.agg #[.slice A1 b.at_.length c1, .slice A2 b.pages.length c2, .slice A3 b.ops.length c3]] Try.func17 Try.ntmps17 rfl (by simp) ?_
    conv => whnf
    refine call_con rfl (by kernel_rfl) (fun r w' hR => valid_ir A1 A2 A3 c1 c2 c3 b w' hb (sl_later h2 hR.toBelow) (sl_later h3 hR.toBelow)) ?_
    conv => whnf
    refine ⟨fun h => ?_, (fun h => by rw [hv] at h; cases h)⟩
    conv => whnf
    refine fin_val rfl fun w' hB => ⟨A3, c3, by rw [hF], by rw [hF]; exact sl_later h3 hB, by rw [hF]; exact hc3, hm3, .inr rfl, hB⟩
  · have hF : foldAll b = foldRun noneF b.ops := by unfold foldAll; rw [hv]; rfl
    obtain ⟨hpos, hmax⟩ := valid_pos hv
    obtain ⟨bb, off, rfl⟩ := ops_addr h3 hpos
    refine calls_val [.agg #[.slice A1 b.at_.length c1, .slice A2 b.pages.length c2, .slice (some ⟨bb, off, none⟩) b.ops.length c3]] Try.func17 Try.ntmps17 rfl (by simp) ?_
    conv => whnf
    refine call_con rfl (by kernel_rfl) (fun r w' hR => valid_ir A1 A2 _ c1 c2 c3 b w' hb (sl_later h2 hR.toBelow) (sl_later h3 hR.toBelow)) ?_
    conv => whnf
    refine ⟨(fun h => by rw [hv] at h; cases h), fun h => ?_⟩
    conv => whnf
    refine op_makeMap (R := u32R) (cd := u32D) rfl rfl ?_
    conv => whnf
    refine ⟨FoldSt b.ops.length b.ops, fun x => [(1, .p (.c (.ref 0 0))), (2, .p (.c (.ref 1 0))), (3, .p (.c (.ref 3 0))), (4, .p (.c (.row 4))), (18, one (.slice (some ⟨bb, off, none⟩) b.ops.length c3)), (19, one (.int .i64 b.ops.length)), (20, one (.int .i64 x.k))],
      fun x => [.cells 32 [.v (.slice A1 b.at_.length c1), .v (.slice A2 b.pages.length c2), .v (.slice (some ⟨bb, off, none⟩) b.ops.length c3)], .cells 32 [.v (.slice none 0 0), .v (.slice none 0 0), .v (.slice none 0 0)], mapOw u32R u32D x.k x.f, .cells 58 [.mp 2], .row 53 5 x.out.length (x.out.flatMap opC)],
      fun x => b.ops.length - x.k, ⟨⟨0, noneF, [], Nat.zero_le _, wordsF_none, Nat.le_refl _, by simp⟩, ?_⟩, fun x => ?_⟩
    · exact ent_trans (ent_row 4 53 5 rfl) (ent_same rfl (And.intro (rfl) (And.intro (rfl) (And.intro (rfl) (And.intro (rfl) (And.intro (rfl) (And.intro (rfl) (And.intro (rfl) trivial))))))) (And.intro ((And.intro rfl (Or.inl rfl))) (And.intro ((And.intro rfl (Or.inl rfl))) (And.intro ((fun _ _ h => h)) (And.intro ((And.intro rfl (Or.inl rfl))) (And.intro ((And.intro rfl (And.intro rfl (And.intro (rfl) (rfl))))) trivial))))))
    have hk := x.hk
    have hl := x.hl
    have heq := x.eq
    conv => whnf
    refine ⟨fun hc => ?_, fun hc => ?_⟩
    · have hlt : x.k < b.ops.length := by simpa using hc
      obtain ⟨o, hx⟩ : ∃ o, b.ops[x.k]? = some o := ⟨_, List.getElem?_eq_getElem hlt⟩
      have ho : o.ok := hb.ops o (List.mem_of_getElem? hx)
      have hat := foldRun_at (f := x.f) hx
      conv => whnf
      refine ⟨⟨by omega, by omega⟩, ?_⟩
      conv => whnf
      refine ⟨opC o, cells_op h3 (by simp) hx, rfl, ?_⟩
      conv => whnf
      obtain ⟨g, hg⟩ : ∃ g, g = foldMark x.f o := ⟨_, rfl⟩
      have hgw : wordsF g := by rw [hg]; exact foldMark_words x.hw
      have hp : (foldB g o).1.ok := foldB_ok hgw ho
      rw [← hg] at hat
      obtain ⟨p, hpe⟩ : ∃ p, p = (foldB g o).1 := ⟨_, rfl⟩
      obtain ⟨kp, hkp⟩ : ∃ kp, kp = (foldB g o).2 := ⟨_, rfl⟩
      rw [← hpe, ← hkp] at hat
      rw [← hpe] at hp
      refine ⟨fun hm => ?_, fun hm => ?_⟩
      · conv => whnf
        refine call_map (m' := g) 2 rfl (by kernel_rfl) (fun w' b' hmap => (forget_u32 w' hmap).mono fun e w2 ⟨e1, e2, e3⟩ => ⟨e1, e2.is (fun j => by rw [hg]; unfold foldMark; rw [if_pos hm]), e3⟩) ?_
        conv => whnf
        refine callS_val (.tuple #[opV p, .bool kp]) (by kernel_rfl) (fun r w' us hR hd => ?_) ?_
        · obtain ⟨u1, l1, rfl, d1, u2, l2, rfl, d2, d3⟩ := hd
          obtain rfl : l2 = [] := d3
          obtain ⟨gb, hgb, rfl⟩ := den_ref d1
          obtain rfl := AV.val_den (x := opV o) rfl d2
          obtain ⟨b1, v1, e1, e2, e3⟩ := hR.cell (i := 3) (off := 0) rfl rfl
          rw [hgb] at e1; injection e1 with e1; subst e1
          simp only [CV.den] at e3
          obtain ⟨b2, e4, rfl⟩ := e3
          obtain ⟨b3, e5, hmap, _⟩ := hR.own 2 _ rfl
          rw [e4] at e5; injection e5 with e5; subst e5
          rw [hpe, hkp]
          exact fold_opt gb b2 x.k g o w' e2 (hR.new 3 gb hgb).1 hmap ho hgw
        conv => whnf
        refine ⟨fun hn => ?_, fun hn => ?_⟩
        · conv => whnf
          have hkf : kp = false := by simpa using hn
          refine ⟨(x.k : Int) + 1, wr64 (by omega), ?_⟩
          conv => whnf
          refine ⟨⟨x.k + 1, g, x.out, by omega, hgw, by omega, by rw [heq, hat, hkf]; rfl⟩, ent_drop (And.intro (rfl) (And.intro (rfl) (And.intro (rfl) (And.intro (rfl) (And.intro (rfl) (And.intro (rfl) (And.intro (num_succ x.k) trivial))))))) (And.intro ((And.intro rfl (Or.inl rfl))) (And.intro ((And.intro rfl (Or.inl rfl))) (And.intro (imap_le (Nat.le_succ _) (fun _ => rfl)) (And.intro ((And.intro rfl (Or.inl rfl))) (And.intro ((And.intro rfl (And.intro rfl (And.intro (rfl) (rfl))))) trivial))))) rfl rfl, by dsimp only; omega⟩
        have hkt : kp = true := by simpa using hn
        conv => whnf
        refine appK_sound rfl ?_ rfl
        conv => whnf
        refine ⟨by omega, ?_⟩
        conv => whnf
        refine call_con rfl (by kernel_rfl) (fun r w' _ => writes_ir p w') ?_
        conv => whnf
        refine ⟨fun hd => ?_, fun hd => ?_⟩
        · have hd' : 0 ≤ writes p := by simpa using hd
          conv => whnf
          refine op_delete rfl Try.underlying56 2 (writes p) rfl rfl rfl (wf_mid (writes_mid hp)) rfl ?_
          conv => whnf
          refine ⟨fun h1 => ?_, fun h1 => ?_⟩
          · conv => whnf
            refine sat_tail 7 mixed (by kernel_rfl) ?_
            conv => whnf
            refine op_mapUpdate rfl Try.underlying56 u32Elems 2 (writes p) p.n rfl rfl rfl rfl (by omega) (wf_mid (writes_mid hp)) hp.n rfl ?_
            conv => whnf
            refine ⟨fun h2 => ?_, fun h2 => ?_⟩
            · conv => whnf
              refine ⟨_, _, ent_refl, ?_⟩
              conv => whnf
              refine call_with 4 rfl ?_
              conv => whnf
              refine fin_block (l := x.out ++ [p]) rfl (by simp) (by simp [opC]) fun w' A c e1 e2 e3 e4 e5 => ?_
              have he : foldAll b = x.out ++ [p] := by rw [hF, heq, hat, hkt, if_pos rfl, if_pos h2]
              exact ⟨A, c, by rw [he], by rw [he]; exact e1, by rw [he]; exact e2, e3, .inl e4, e5⟩
            · conv => whnf
              refine ⟨(x.k : Int) + 1, wr64 (by omega), ?_⟩
              conv => whnf
              refine ⟨⟨x.k + 1, foldUpd g p, x.out ++ [p], by omega, foldUpd_words hgw hp, by simp; omega, by rw [heq, hat, hkt, if_pos rfl, if_neg (Bool.eq_false_iff.1 h2)]; simp⟩, ent_drop (And.intro (rfl) (And.intro (rfl) (And.intro (rfl) (And.intro (rfl) (And.intro (rfl) (And.intro (rfl) (And.intro (num_succ x.k) trivial))))))) (And.intro ((And.intro rfl (Or.inl rfl))) (And.intro ((And.intro rfl (Or.inl rfl))) (And.intro (imap_le (by simp) (foldUpd_put h1 hd')) (And.intro ((And.intro rfl (Or.inl rfl))) (And.intro ((And.intro rfl (And.intro rfl (And.intro (by simp) (by simp [opC]))))) trivial))))) rfl rfl, by dsimp only; omega⟩
          · conv => whnf
            refine ⟨fun h2 => ?_, fun h2 => ?_⟩
            · conv => whnf
              refine ⟨_, _, ent_refl, ?_⟩
              conv => whnf
              refine call_with 4 rfl ?_
              conv => whnf
              refine fin_block (l := x.out ++ [p]) rfl (by simp) (by simp [opC]) fun w' A c e1 e2 e3 e4 e5 => ?_
              have he : foldAll b = x.out ++ [p] := by rw [hF, heq, hat, hkt, if_pos rfl, if_pos h2]
              exact ⟨A, c, by rw [he], by rw [he]; exact e1, by rw [he]; exact e2, e3, .inl e4, e5⟩
            · conv => whnf
              refine ⟨(x.k : Int) + 1, wr64 (by omega), ?_⟩
              conv => whnf
              refine ⟨⟨x.k + 1, foldUpd g p, x.out ++ [p], by omega, foldUpd_words hgw hp, by simp; omega, by rw [heq, hat, hkt, if_pos rfl, if_neg (Bool.eq_false_iff.1 h2)]; simp⟩, ent_drop (And.intro (rfl) (And.intro (rfl) (And.intro (rfl) (And.intro (rfl) (And.intro (rfl) (And.intro (rfl) (And.intro (num_succ x.k) trivial))))))) (And.intro ((And.intro rfl (Or.inl rfl))) (And.intro ((And.intro rfl (Or.inl rfl))) (And.intro (imap_le (by simp) (foldUpd_del h1 hd')) (And.intro ((And.intro rfl (Or.inl rfl))) (And.intro ((And.intro rfl (And.intro rfl (And.intro (by simp) (by simp [opC]))))) trivial))))) rfl rfl, by dsimp only; omega⟩
        · have hd' : ¬ 0 ≤ writes p := by simpa using hd
          conv => whnf
          refine ⟨fun h1 => ?_, fun h1 => ?_⟩
          · conv => whnf
            refine sat_tail 7 mixed (by kernel_rfl) ?_
            conv => whnf
            refine op_mapUpdate rfl Try.underlying56 u32Elems 2 (writes p) p.n rfl rfl rfl rfl (by omega) (wf_mid (writes_mid hp)) hp.n rfl ?_
            conv => whnf
            refine ⟨fun h2 => ?_, fun h2 => ?_⟩
            · conv => whnf
              refine ⟨_, _, ent_refl, ?_⟩
              conv => whnf
              refine call_with 4 rfl ?_
              conv => whnf
              refine fin_block (l := x.out ++ [p]) rfl (by simp) (by simp [opC]) fun w' A c e1 e2 e3 e4 e5 => ?_
              have he : foldAll b = x.out ++ [p] := by rw [hF, heq, hat, hkt, if_pos rfl, if_pos h2]
              exact ⟨A, c, by rw [he], by rw [he]; exact e1, by rw [he]; exact e2, e3, .inl e4, e5⟩
            · conv => whnf
              refine ⟨(x.k : Int) + 1, wr64 (by omega), ?_⟩
              conv => whnf
              refine ⟨⟨x.k + 1, foldUpd g p, x.out ++ [p], by omega, foldUpd_words hgw hp, by simp; omega, by rw [heq, hat, hkt, if_pos rfl, if_neg (Bool.eq_false_iff.1 h2)]; simp⟩, ent_drop (And.intro (rfl) (And.intro (rfl) (And.intro (rfl) (And.intro (rfl) (And.intro (rfl) (And.intro (rfl) (And.intro (num_succ x.k) trivial))))))) (And.intro ((And.intro rfl (Or.inl rfl))) (And.intro ((And.intro rfl (Or.inl rfl))) (And.intro (imap_le (by simp) (foldUpd_put2 h1 hd')) (And.intro ((And.intro rfl (Or.inl rfl))) (And.intro ((And.intro rfl (And.intro rfl (And.intro (by simp) (by simp [opC]))))) trivial))))) rfl rfl, by dsimp only; omega⟩
          · conv => whnf
            refine ⟨fun h2 => ?_, fun h2 => ?_⟩
            · conv => whnf
              refine ⟨_, _, ent_refl, ?_⟩
              conv => whnf
              refine call_with 4 rfl ?_
              conv => whnf
              refine fin_block (l := x.out ++ [p]) rfl (by simp) (by simp [opC]) fun w' A c e1 e2 e3 e4 e5 => ?_
              have he : foldAll b = x.out ++ [p] := by rw [hF, heq, hat, hkt, if_pos rfl, if_pos h2]
              exact ⟨A, c, by rw [he], by rw [he]; exact e1, by rw [he]; exact e2, e3, .inl e4, e5⟩
            · conv => whnf
              refine ⟨(x.k : Int) + 1, wr64 (by omega), ?_⟩
              conv => whnf
              refine ⟨⟨x.k + 1, foldUpd g p, x.out ++ [p], by omega, foldUpd_words hgw hp, by simp; omega, by rw [heq, hat, hkt, if_pos rfl, if_neg (Bool.eq_false_iff.1 h2)]; simp⟩, ent_drop (And.intro (rfl) (And.intro (rfl) (And.intro (rfl) (And.intro (rfl) (And.intro (rfl) (And.intro (rfl) (And.intro (num_succ x.k) trivial))))))) (And.intro ((And.intro rfl (Or.inl rfl))) (And.intro ((And.intro rfl (Or.inl rfl))) (And.intro (imap_le (by simp) (foldUpd_not h1 hd')) (And.intro ((And.intro rfl (Or.inl rfl))) (And.intro ((And.intro rfl (And.intro rfl (And.intro (by simp) (by simp [opC]))))) trivial))))) rfl rfl, by dsimp only; omega⟩
      · rw [show x.f = g by rw [hg]; unfold foldMark; rw [if_neg (Bool.eq_false_iff.1 hm)]]
        conv => whnf
        refine callS_val (.tuple #[opV p, .bool kp]) (by kernel_rfl) (fun r w' us hR hd => ?_) ?_
        · obtain ⟨u1, l1, rfl, d1, u2, l2, rfl, d2, d3⟩ := hd
          obtain rfl : l2 = [] := d3
          obtain ⟨gb, hgb, rfl⟩ := den_ref d1
          obtain rfl := AV.val_den (x := opV o) rfl d2
          obtain ⟨b1, v1, e1, e2, e3⟩ := hR.cell (i := 3) (off := 0) rfl rfl
          rw [hgb] at e1; injection e1 with e1; subst e1
          simp only [CV.den] at e3
          obtain ⟨b2, e4, rfl⟩ := e3
          obtain ⟨b3, e5, hmap, _⟩ := hR.own 2 _ rfl
          rw [e4] at e5; injection e5 with e5; subst e5
          rw [hpe, hkp]
          exact fold_opt gb b2 x.k g o w' e2 (hR.new 3 gb hgb).1 hmap ho hgw
        conv => whnf
        refine ⟨fun hn => ?_, fun hn => ?_⟩
        · conv => whnf
          have hkf : kp = false := by simpa using hn
          refine ⟨(x.k : Int) + 1, wr64 (by omega), ?_⟩
          conv => whnf
          refine ⟨⟨x.k + 1, g, x.out, by omega, hgw, by omega, by rw [heq, hat, hkf]; rfl⟩, ent_drop (And.intro (rfl) (And.intro (rfl) (And.intro (rfl) (And.intro (rfl) (And.intro (rfl) (And.intro (rfl) (And.intro (num_succ x.k) trivial))))))) (And.intro ((And.intro rfl (Or.inl rfl))) (And.intro ((And.intro rfl (Or.inl rfl))) (And.intro (imap_le (Nat.le_succ _) (fun _ => rfl)) (And.intro ((And.intro rfl (Or.inl rfl))) (And.intro ((And.intro rfl (And.intro rfl (And.intro (rfl) (rfl))))) trivial))))) rfl rfl, by dsimp only; omega⟩
        have hkt : kp = true := by simpa using hn
        conv => whnf
        refine appK_sound rfl ?_ rfl
        conv => whnf
        refine ⟨by omega, ?_⟩
        conv => whnf
        refine call_con rfl (by kernel_rfl) (fun r w' _ => writes_ir p w') ?_
        conv => whnf
        refine ⟨fun hd => ?_, fun hd => ?_⟩
        · have hd' : 0 ≤ writes p := by simpa using hd
          conv => whnf
          refine op_delete rfl Try.underlying56 2 (writes p) rfl rfl rfl (wf_mid (writes_mid hp)) rfl ?_
          conv => whnf
          refine ⟨fun h1 => ?_, fun h1 => ?_⟩
          · conv => whnf
            refine sat_tail 7 mixed (by kernel_rfl) ?_
            conv => whnf
            refine op_mapUpdate rfl Try.underlying56 u32Elems 2 (writes p) p.n rfl rfl rfl rfl (by omega) (wf_mid (writes_mid hp)) hp.n rfl ?_
            conv => whnf
            refine ⟨fun h2 => ?_, fun h2 => ?_⟩
            · conv => whnf
              refine ⟨_, _, ent_refl, ?_⟩
              conv => whnf
              refine call_with 4 rfl ?_
              conv => whnf
              refine fin_block (l := x.out ++ [p]) rfl (by simp) (by simp [opC]) fun w' A c e1 e2 e3 e4 e5 => ?_
              have he : foldAll b = x.out ++ [p] := by rw [hF, heq, hat, hkt, if_pos rfl, if_pos h2]
              exact ⟨A, c, by rw [he], by rw [he]; exact e1, by rw [he]; exact e2, e3, .inl e4, e5⟩
            · conv => whnf
              refine ⟨(x.k : Int) + 1, wr64 (by omega), ?_⟩
              conv => whnf
              refine ⟨⟨x.k + 1, foldUpd g p, x.out ++ [p], by omega, foldUpd_words hgw hp, by simp; omega, by rw [heq, hat, hkt, if_pos rfl, if_neg (Bool.eq_false_iff.1 h2)]; simp⟩, ent_drop (And.intro (rfl) (And.intro (rfl) (And.intro (rfl) (And.intro (rfl) (And.intro (rfl) (And.intro (rfl) (And.intro (num_succ x.k) trivial))))))) (And.intro ((And.intro rfl (Or.inl rfl))) (And.intro ((And.intro rfl (Or.inl rfl))) (And.intro (imap_le (by simp) (foldUpd_put h1 hd')) (And.intro ((And.intro rfl (Or.inl rfl))) (And.intro ((And.intro rfl (And.intro rfl (And.intro (by simp) (by simp [opC]))))) trivial))))) rfl rfl, by dsimp only; omega⟩
          · conv => whnf
            refine ⟨fun h2 => ?_, fun h2 => ?_⟩
            · conv => whnf
              refine ⟨_, _, ent_refl, ?_⟩
              conv => whnf
              refine call_with 4 rfl ?_
              conv => whnf
              refine fin_block (l := x.out ++ [p]) rfl (by simp) (by simp [opC]) fun w' A c e1 e2 e3 e4 e5 => ?_
              have he : foldAll b = x.out ++ [p] := by rw [hF, heq, hat, hkt, if_pos rfl, if_pos h2]
              exact ⟨A, c, by rw [he], by rw [he]; exact e1, by rw [he]; exact e2, e3, .inl e4, e5⟩
            · conv => whnf
              refine ⟨(x.k : Int) + 1, wr64 (by omega), ?_⟩
              conv => whnf
              refine ⟨⟨x.k + 1, foldUpd g p, x.out ++ [p], by omega, foldUpd_words hgw hp, by simp; omega, by rw [heq, hat, hkt, if_pos rfl, if_neg (Bool.eq_false_iff.1 h2)]; simp⟩, ent_drop (And.intro (rfl) (And.intro (rfl) (And.intro (rfl) (And.intro (rfl) (And.intro (rfl) (And.intro (rfl) (And.intro (num_succ x.k) trivial))))))) (And.intro ((And.intro rfl (Or.inl rfl))) (And.intro ((And.intro rfl (Or.inl rfl))) (And.intro (imap_le (by simp) (foldUpd_del h1 hd')) (And.intro ((And.intro rfl (Or.inl rfl))) (And.intro ((And.intro rfl (And.intro rfl (And.intro (by simp) (by simp [opC]))))) trivial))))) rfl rfl, by dsimp only; omega⟩
        · have hd' : ¬ 0 ≤ writes p := by simpa using hd
          conv => whnf
          refine ⟨fun h1 => ?_, fun h1 => ?_⟩
          · conv => whnf
            refine sat_tail 7 mixed (by kernel_rfl) ?_
            conv => whnf
            refine op_mapUpdate rfl Try.underlying56 u32Elems 2 (writes p) p.n rfl rfl rfl rfl (by omega) (wf_mid (writes_mid hp)) hp.n rfl ?_
            conv => whnf
            refine ⟨fun h2 => ?_, fun h2 => ?_⟩
            · conv => whnf
              refine ⟨_, _, ent_refl, ?_⟩
              conv => whnf
              refine call_with 4 rfl ?_
              conv => whnf
              refine fin_block (l := x.out ++ [p]) rfl (by simp) (by simp [opC]) fun w' A c e1 e2 e3 e4 e5 => ?_
              have he : foldAll b = x.out ++ [p] := by rw [hF, heq, hat, hkt, if_pos rfl, if_pos h2]
              exact ⟨A, c, by rw [he], by rw [he]; exact e1, by rw [he]; exact e2, e3, .inl e4, e5⟩
            · conv => whnf
              refine ⟨(x.k : Int) + 1, wr64 (by omega), ?_⟩
              conv => whnf
              refine ⟨⟨x.k + 1, foldUpd g p, x.out ++ [p], by omega, foldUpd_words hgw hp, by simp; omega, by rw [heq, hat, hkt, if_pos rfl, if_neg (Bool.eq_false_iff.1 h2)]; simp⟩, ent_drop (And.intro (rfl) (And.intro (rfl) (And.intro (rfl) (And.intro (rfl) (And.intro (rfl) (And.intro (rfl) (And.intro (num_succ x.k) trivial))))))) (And.intro ((And.intro rfl (Or.inl rfl))) (And.intro ((And.intro rfl (Or.inl rfl))) (And.intro (imap_le (by simp) (foldUpd_put2 h1 hd')) (And.intro ((And.intro rfl (Or.inl rfl))) (And.intro ((And.intro rfl (And.intro rfl (And.intro (by simp) (by simp [opC]))))) trivial))))) rfl rfl, by dsimp only; omega⟩
          · conv => whnf
            refine ⟨fun h2 => ?_, fun h2 => ?_⟩
            · conv => whnf
              refine ⟨_, _, ent_refl, ?_⟩
              conv => whnf
              refine call_with 4 rfl ?_
              conv => whnf
              refine fin_block (l := x.out ++ [p]) rfl (by simp) (by simp [opC]) fun w' A c e1 e2 e3 e4 e5 => ?_
              have he : foldAll b = x.out ++ [p] := by rw [hF, heq, hat, hkt, if_pos rfl, if_pos h2]
              exact ⟨A, c, by rw [he], by rw [he]; exact e1, by rw [he]; exact e2, e3, .inl e4, e5⟩
            · conv => whnf
              refine ⟨(x.k : Int) + 1, wr64 (by omega), ?_⟩
              conv => whnf
              refine ⟨⟨x.k + 1, foldUpd g p, x.out ++ [p], by omega, foldUpd_words hgw hp, by simp; omega, by rw [heq, hat, hkt, if_pos rfl, if_neg (Bool.eq_false_iff.1 h2)]; simp⟩, ent_drop (And.intro (rfl) (And.intro (rfl) (And.intro (rfl) (And.intro (rfl) (And.intro (rfl) (And.intro (rfl) (And.intro (num_succ x.k) trivial))))))) (And.intro ((And.intro rfl (Or.inl rfl))) (And.intro ((And.intro rfl (Or.inl rfl))) (And.intro (imap_le (by simp) (foldUpd_not h1 hd')) (And.intro ((And.intro rfl (Or.inl rfl))) (And.intro ((And.intro rfl (And.intro rfl (And.intro (by simp) (by simp [opC]))))) trivial))))) rfl rfl, by dsimp only; omega⟩
    · conv => whnf
      refine ⟨_, _, ent_refl, ?_⟩
      conv => whnf
      refine call_with 4 rfl ?_
      conv => whnf
      refine fin_block rfl rfl rfl fun w' A c e1 e2 e3 e4 e5 => ?_
      have he : foldAll b = x.out := by rw [hF, heq, List.drop_eq_nil_of_le (by have := of_decide_eq_false hc; omega)]; simp [foldRun]
      exact ⟨A, c, by rw [he], by rw [he]; exact e1, by rw [he]; exact e2, e3, .inl e4, e5⟩
end Go.Proofs.Ytmjfgnnefcimiaa
namespace Go.Proofs.Ytmjfgnnefcimiaa
open Go.RowKit

theorem ent_view {w0 : World} {N : Nd} {f f' : Fr} {S : List Ow} (i k : Nat) {t : TypeId} {l : List CV} {A : Option Addr} {n c : Nat} {xs : List Value} {φ : Option Addr → Prop} (hi : S[i]? = some (.cells t l)) (hk : l[k]? = some (.v (.slice A n c)))
    (hA : SlAt w0 w0.heap.size A xs) (hn : n ≤ c) (hc : c ≤ maxLen) (hφ : φ A) (hf : FLe f f') : Ent w0 Gs.nil N f S f' (S.set i (.cells t (l.set k (.row S.length))) ++ [.view φ n xs]) := by
  refine ⟨fun a w ⟨r, hR, hd, hN, hdf⟩ => ?_⟩
  obtain ⟨b, us, h1, h2, h3⟩ := hR.own i _ hi
  obtain ⟨u, hu, hv⟩ := denL_at h3 hk
  simp only [CV.den] at hv
  subst hv
  have hle := hR.le_new none (some (.slice A n c))
  have hil := hR.lt_of_blk h1
  have hnew : ∀ q b', (r.set S.length none (some (.slice A n c))).blk q = some b' → w0.heap.size ≤ b' := fun q b' hq => by
    simp only [Env.set] at hq
    split at hq
    · cases hq
    · rcases Nat.lt_or_ge b' w0.heap.size with h | h
      · exact absurd ((hR.new q b' hq).2 h) (by simp)
      · exact h
  have hR2 := hR.snoc (o := .view φ n xs) (Below.refl _ _) (b := none) (v := some (.slice A n c)) nofun ⟨A, c, by simp [Env.set], hn, ⟨hc, hφ⟩, by simp [Env.set], fun j u hj => by
    obtain ⟨b', off, e1, e2, e3⟩ := hA j u hj
    exact ⟨b', off, e1, Nat.lt_of_lt_of_le e2 hR.size, fun q hq => by have := hnew q b' hq; omega, (hR.oldCell e2 (by simp) _).trans e3⟩⟩
  refine ⟨_, ?_, hf.den (hd.mono hle), hN, hdf⟩
  have h4 := denL_set k (denL_mono hle l us h3) (c := .row S.length) (u := .slice A n c) (by simp only [CV.den]; simp [Env.set])
  have hus : us.set k (.slice A n c) = us := by
    refine List.ext_getElem? fun j => ?_
    rw [List.getElem?_set]
    split
    · rename_i e; subst e; rw [hu]; split
      · rfl
      · rename_i h; rw [List.getElem?_eq_none (by omega)] at hu; cases hu
    · rfl
  rw [hus] at h4
  have := rel_setSame hR2 (i := i) (o := .cells t (l.set k (.row S.length))) ⟨b, us, hle.blk _ _ h1, h2, h4⟩
  rwa [List.set_append_left _ _ hil] at this
theorem viewAt {w0 : World} {G : Gs} {S : List Ow} {r : Env} {w : World} {i : Nat} {φ : Option Addr → Prop} {n : Nat} {xs : List Value} {u : Value} (hR : Rel w0 G S r w) (hi : S[i]? = some (.view φ n xs)) (hu : r.val i = some u) :
    ∃ A c, u = .slice A n c ∧ SlAt w w.heap.size A xs ∧ n ≤ c ∧ c ≤ maxLen ∧ φ A ∧ ∀ (j : Nat) (x : Value), xs[j]? = some x → ∀ b off, A = some ⟨b, off, none⟩ → ∀ k, r.blk k ≠ some b := by
  obtain ⟨A, c, h1, h2, h3, h4, h5⟩ := hR.own i _ hi
  rw [hu] at h1; injection h1 with h1; subst h1
  refine ⟨A, c, rfl, fun j x hj => ?_, h2, h3.1, h3.2, fun j x hj b off hb k => ?_⟩
  · obtain ⟨b, off, e1, e2, _, e4⟩ := h5 j x hj; exact ⟨b, off, e1, e2, e4⟩
  · obtain ⟨b', off', e1, e2, e3, e4⟩ := h5 j x hj
    rw [e1] at hb; injection hb with hb; injection hb with hb; subst hb; exact e3 k
theorem call_pass {P : Program} {w0 : World} {S : List Ow} {K : AV → List Ow → Prop} {fid : FuncId} {F : Blk → List BOp} (hp : Pass P fid F) (hok : fnOk P fid = true) (i : Nat) (b : Blk) {φ : Option Addr → Prop} {A1 A2 : Option Addr} {c1 c2 : Nat} (hi : S[i]? = some (.view φ b.ops.length (b.ops.flatMap opC))) (hb : b.ok) (h0 : b.ops = [] → F b = [])
    (h1 : SlAt w0 w0.heap.size A1 (b.at_.map (.int .u32))) (h2 : SlAt w0 w0.heap.size A2 (b.pages.map (.int .i64))) (hφ : ∀ A, Fresh w0.heap.size A → φ A)
    (hK : K (.p (.agg [.v (.slice A1 b.at_.length c1), .v (.slice A2 b.pages.length c2), .row S.length])) (S ++ [.view φ (F b).length ((F b).flatMap opC)])) :
    CallS P w0 Gs.nil fid [.p (.agg [.v (.slice A1 b.at_.length c1), .v (.slice A2 b.pages.length c2), .row i])] S K := by
  refine ⟨hok, fun r w us hR hd => ?_⟩
  obtain ⟨u1, l1, rfl, d1, d2⟩ := hd
  obtain rfl : l1 = [] := d2
  obtain ⟨us, rfl, hl⟩ := den_agg d1
  simp only [denL] at hl
  obtain ⟨u1, l1, rfl, e1, u2, l2, rfl, e2, u3, l3, rfl, e3, rfl⟩ := hl
  simp only [CV.den] at e1 e2 e3
  subst e1; subst e2
  obtain ⟨A, c, rfl, hs, hc1, hc2, hA, hfar⟩ := viewAt hR hi e3
  refine (hp b A1 A2 A c1 c2 c w hb (sl_later h1 hR.toBelow) (sl_later h2 hR.toBelow) hs hc1 hc2).mono fun e w' ⟨A', c', he, ho, k1, k2, k3, hB⟩ => ?_
  refine ⟨.p (.agg [.v (.slice A1 b.at_.length c1), .v (.slice A2 b.pages.length c2), .row S.length]), _, _, r.set S.length none (some (.slice A' (F b).length c')), he, ⟨[.slice A1 b.at_.length c1, .slice A2 b.pages.length c2, .slice A' (F b).length c'], rfl, ?_⟩, hR.snoc (o := .view φ (F b).length ((F b).flatMap opC)) hB (b := none) nofun ⟨A', c', by simp [Env.set], k1, ⟨k2, ?_⟩, by simp [Env.set], fun j u hj => ?_⟩, hR.le_new _ _, hK⟩
  · simp only [denL, CV.den]
    exact ⟨_, _, rfl, rfl, _, _, rfl, rfl, _, _, rfl, by simp [Env.set], rfl⟩
  · rcases k3 with k3 | rfl
    · exact hφ _ fun b off sp hA => Nat.le_trans hR.size (k3 b off sp hA)
    · exact hA
  · obtain ⟨b', off, e4, e5, e6⟩ := ho j u hj
    refine ⟨b', off, e4, e5, fun q hq => ?_, e6⟩
    simp only [Env.set] at hq
    split at hq
    · cases hq
    · rcases k3 with k3 | rfl
      · have := k3 b' off none e4
        have := (hR.new q b' hq).1
        omega
      · cases hl : b.ops with
        | nil => rw [h0 hl] at hj; simp at hj
        | cons o l => exact hfar 0 (.int .i64 o.code) (by rw [hl]; rfl) b' off e4 q hq
theorem call_pass_at {P : Program} {w0 : World} {S : List Ow} {K : AV → List Ow → Prop} {fid : FuncId} {F : Blk → List BOp} (hp : Pass P fid F) (hok : fnOk P fid = true) (i : Nat) (b b0 : Blk) {φ : Option Addr → Prop} {A1 A2 : Option Addr} {c1 c2 : Nat} (hi : S[i]? = some (.view φ b.ops.length (b.ops.flatMap opC))) (hb : b.ok) (hat : b.at_ = b0.at_) (hpg : b.pages = b0.pages) (h0 : b.ops = [] → F b = [])
    (h1 : SlAt w0 w0.heap.size A1 (b0.at_.map (.int .u32))) (h2 : SlAt w0 w0.heap.size A2 (b0.pages.map (.int .i64))) (hφ : ∀ A, Fresh w0.heap.size A → φ A)
    (hK : K (.p (.agg [.v (.slice A1 b0.at_.length c1), .v (.slice A2 b0.pages.length c2), .row S.length])) (S ++ [.view φ (F b).length ((F b).flatMap opC)])) :
    CallS P w0 Gs.nil fid [.p (.agg [.v (.slice A1 b0.at_.length c1), .v (.slice A2 b0.pages.length c2), .row i])] S K := by
  rw [← hat, ← hpg] at *
  exact call_pass hp hok i b hi hb h0 h1 h2 hφ hK
end Go.Proofs.Ytmjfgnnefcimiaa
namespace Go.Proofs.Ytmjfgnnefcimiaa
open Go.RowKit

theorem op_makeSlice {P : Program} {w0 : World} {G : Gs} {N : Nd} {o : Oper} {f : Fr} {S : List Ow} {K : Fr → List Ow → Prop} {t e : TypeId} {i : TypeInfo} {z : Value} {x y : Operand} (size n : Nat) (hop : o.op = .makeSlice t x y) (ht : P.underlying t = some (.slice e)) (hi : P.info? e = some i) (hz : i.zero = some z) (hsize : i.size = size)
    (hx : f.ev x = one (.int .i64 (n : Int))) (hy : f.ev y = one (.int .i64 (n : Int))) (hn : n * size ≤ 16777216) (hb : i.bytes * n ≤ 281474976710656) (hm : n ≤ maxLen) (hdst : dstOk N.n o.dst = true) {xs : List Value} (hxs : (madeCells z.cells (n * size)).toList = xs)
    (hk : K (f.put o.dst (.p (.c (.row S.length)))) (S ++ [.row e size n xs])) : OpS P w0 G N o f S K := by
  refine ⟨fun r a w hR hf hN hd next Q hK => ?_⟩
  have h1 := hf.ev x
  have h2 := hf.ev y
  rw [hx] at h1; rw [hy] at h2
  obtain ⟨w', hrun, hown, hg⟩ := run_makeSlice_full (w := w) 0 t e i z size ht hi hz hsize .i64 .i64 n hn hb hm (Nat.zero_le _)
  rw [hxs] at hown
  have hex : (execOp a.eval o).run P w = .ok (.value (.slice (some ⟨w.heap.size, 0, none⟩) n n)) w' := by
    simp [execOp, hop, den_v h1, den_v h2, hrun]
  have hB : Below w.heap.size w w' := ⟨hg.os, hg.tape, hg.output, hg.size, fun k hk => hg.block k hk (by simp)⟩
  have hlt : w.heap.size < w'.heap.size := by
    rcases hown.2 with ⟨h, _⟩ | ⟨g, cap, cur, h, _, hh, _⟩
    · cases h
    · injection h with h; injection h with h; injection h with h; subst h; exact (Array.getElem?_eq_some_iff.1 hh).1
  have hle := hR.le_new (some w.heap.size) (some (.slice (some ⟨w.heap.size, 0, none⟩) n n))
  refine wp_of_value hex (hK _ _ _ _ hk (good_value hR hf hN hd hdst (r' := r.set S.length (some w.heap.size) (some (.slice (some ⟨w.heap.size, 0, none⟩) n n))) ?_ (hR.snoc hB (fun x hx => by injection hx with hx; subst hx; exact ⟨Nat.le_refl _, hlt⟩) ⟨_, by simp [Env.set], by simp [Env.set, Value.ownBlock], hown⟩) hle))
  simp only [AV.den, Pc.den, CV.den]
  simp [Env.set]
/-- The end of a function that hands back a row. -/
theorem fin_row {w0 : World} {S : List Ow} {i n size : Nat} {e : TypeId} {xs : List Value} {R : Ending → World → Prop} (hi : S[i]? = some (.row e size n xs))
    (h : ∀ w' A c, SlAt w' w'.heap.size A xs → n ≤ c → c ≤ maxLen → Fresh w0.heap.size A → Below w0.heap.size w0 w' → R (.returned (.slice A n c)) w') : Fin w0 Gs.nil S (.p (.c (.row i))) R := by
  refine ⟨fun r w u hR hd => ?_⟩
  obtain ⟨A, c, hu, hs, hc, hm⟩ := hR.rowAt hi (den_row hd)
  have d3 := den_row hd
  subst hu
  refine h w A c hs hc hm (fun b off sp hA => ?_) hR.toBelow
  subst hA
  obtain ⟨v, hv, hob, _⟩ := hR.own i _ hi
  rw [d3] at hv; injection hv with hv; subst hv
  have hb : r.blk i = some b := by rw [← hob]; rfl
  rcases Nat.lt_or_ge b w0.heap.size with h1 | h1
  · have := (hR.new i b hb).2 h1; simp at this
  · exact h1
end Go.Proofs.Ytmjfgnnefcimiaa
namespace Go.Proofs.Ytmjfgnnefcimiaa
open Go.RowKit

def plainF : Fr → Fr
  | [] => []
  | (d, x) :: f => match x.fx (fun _ => false) with | true => (d, x) :: plainF f | false => (d, .p (.c .any)) :: plainF f
theorem plain_den {r : Env} {f : Fr} {a : Act} (hf : FDen r f a) : FDen Env.none (plainF f) a := by
  have key : ∀ f : Fr, ∀ k u, (f.get k).den r u → ((plainF f).get k).den Env.none u := by
    intro f
    induction f with
    | nil => intro k u _; simp [plainF, Fr.get, AV.den, Pc.den, CV.den]
    | cons p f ih =>
      obtain ⟨d, x⟩ := p
      intro k u h
      unfold plainF
      cases hx : x.fx (fun _ => false) <;> cases hk : Nat.beq d k <;> simp only [Fr.get, hk] at h ⊢
      · exact ih k u h
      · simp [AV.den, Pc.den, CV.den]
      · exact ih k u h
      · exact AV.den_fx (ok := fun _ => false) (fun i b hi => by cases hi) hx h
  exact fun k => key f k _ (hf k)
/-- The flags fit: a quiet one may be taken first; another one is the only one that may come up. -/
def mixB (ops : Array Oper) : List Bool → Nat → Array Bool → Bool
  | [], _, listed => (Region.ready .any ops listed).isEmpty
  | q :: qs, k, listed => (match q with
      | true => Region.free .any ops listed k && (Region.ready .any ops listed).contains k
      | false => Region.ready .any ops listed == [k]) && mixB ops qs (k + 1) (listed.setIfInBounds k true)
def guardOf (ops : Array Oper) (f : Fr) (o : Oper) : Option Bool := match o.guard with
  | none => some true
  | some (j, pol) => (match slotOf ops j with
    | some d => (match f.get d with | .p (.c (.v (.bool x))) => some (x == pol) | _ => none)
    | none => none)
section
variable (P : Program) (W : World) (N : Nd) (ops : Array Oper)
def mixK : List Oper → List Bool → Fr → List Ow → (Fr → List Ow → Prop) → Prop
  | [], [], f, T, K => K f T
  | o :: rest, q :: qs, f, T, K => (match dstOk N.n o.dst with
    | false => False
    | true => (match guardOf ops f o with
      | some true => (match q with
        | true => (match opTy P o.op with | true => qop P W Gs.nil [] (plainF f) o fun v => f.putK o.dst v fun f' => mixK rest qs f' T K | false => False)
        | false => opK P W Gs.nil N o f T fun f' T' => mixK rest qs f' T' K)
      | some false => (match q with | true => f.putK o.dst (.p (.c .any)) fun f' => mixK rest qs f' T K | false => False)
      | none => False))
  | _, _, _, _, _ => False
end
section
variable {P : Program} {W : World} {N : Nd} {ops : Array Oper}
theorem guard_wanted {r : Env} {f : Fr} {a : Act} {o : Oper} {x : Bool} (hf : FDen r f a) (h : guardOf ops f o = some x) : Region.wanted o (yielded ops a.tmps) = x := by
  unfold guardOf at h
  split at h
  · rename_i hg; injection h with h; subst h; exact wanted_none hg _
  · rename_i j pol hg
    split at h
    · rename_i d hs
      split at h
      · rename_i y hy
        injection h with h; subst h
        rw [wanted_some hg, yielded_of hf hs hy]
        cases y <;> cases pol <;> rfl
      · cases h
    · cases h
theorem mixK_sound (hns : Region.noSelect ops = true) {K : Fr → List Ow → Prop} {Q : Exit → Act → World → Prop} (hQ0 : ∀ c a w, ¬ Q (.panic c) a w) (hQ : ∀ f T a w, K f T → Good W Gs.nil N f T a w → Q .normal a w) :
    ∀ (l : List Oper) (qs : List Bool) (k : Nat) (listed : Array Bool) (f : Fr) (T : List Ow), (∀ j o, l[j]? = some o → ops[k + j]? = some o) → mixB ops qs k listed = true → mixK P W N ops l qs f T K →
    ∀ a w, Good W Gs.nil N f T a w → wpAnyH P .any ops Q (fun w' => Below W.heap.size W w') l.length listed a w
  | [], [], k, listed, f, T, _, hB, h, a, w, hg => wpAnyH_done (by simpa [mixB] using hB) (hQ f T a w h hg) _
  | o :: l, q :: qs, k, listed, f, T, hl, hB, h, a, w, ⟨r, hR, hf, hN, hd⟩ => by
    have h0 : ops[k]? = some o := hl 0 o rfl
    have hl2 : ∀ j p, l[j]? = some p → ops[k + 1 + j]? = some p := fun j p hj => by have := hl (j + 1) p (by simpa using hj); rwa [show k + 1 + j = k + (j + 1) by omega]
    simp only [mixB, Bool.and_eq_true] at hB
    unfold mixK at h
    split at h
    · exact h.elim
    · rename_i hdst
      split at h
      · rename_i hgd
        have hw := guard_wanted hf hgd
        cases q with
        | true =>
          simp only [Bool.and_eq_true] at hB
          simp only at h
          split at h
          · rename_i hty
            obtain ⟨v, u, hK, hden, hrun⟩ := qop_sound h hty (rel_none W) (plain_den hf)
            have hK := putK_iff.1 hK
            refine wpAnyH_take (v := u) h0 hns hB.1.1 hB.1.2 (fun c a w h => absurd h (hQ0 c _ w)) (.inl ⟨hw, fun w' hw' => hrun w' hw'⟩) hR.toBelow ?_
            refine mixK_sound hns hQ0 hQ l qs (k + 1) _ _ T hl2 hB.2 hK _ w ⟨r, hR, hf.put (AV.den_mono ⟨(fun i b h => by cases h), (fun i b h => by cases h)⟩ _ _ hden) (by rw [hN]; exact hdst), (put_size a _ _).trans hN, (put_defers a _ _).trans hd⟩
          · exact h.elim
        | false =>
          simp only at h hB
          have hr : Region.ready .any ops listed = [k] := by simpa using hB.1
          refine wpAnyH_all (rs := [k]) hr (by simp) fun i hi => ?_
          obtain rfl : i = k := by simpa using hi
          unfold wpOp
          simp only [h0, hw, if_true]
          refine .inl (se_wp ((opK_sound h).out r a w hR hf hN hd (fun a' w' => Below W.heap.size W w' ∧ wpAnyH P .any ops Q (fun w' => Below W.heap.size W w') l.length (listed.setIfInBounds i true) a' w') Q fun f' T' a' w' hk hg' => ?_) fun _ _ h => h)
          refine ⟨?_, mixK_sound hns hQ0 hQ l qs (i + 1) _ f' T' hl2 hB.2 hk a' w' hg'⟩
          obtain ⟨r', hR', _⟩ := hg'
          exact hR'.toBelow
      · rename_i hgd
        have hw := guard_wanted hf hgd
        cases q with
        | true =>
          simp only [Bool.and_eq_true] at hB
          simp only at h
          have hK := putK_iff.1 h
          refine wpAnyH_take (v := undef) h0 hns hB.1.1 hB.1.2 (fun c a w h => absurd h (hQ0 c _ w)) (.inr ⟨hw, rfl⟩) hR.toBelow ?_
          exact mixK_sound hns hQ0 hQ l qs (k + 1) _ _ T hl2 hB.2 hK _ w ⟨r, hR, hf.putAny _ (by rw [hN]; exact hdst), (put_size a _ _).trans hN, (put_defers a _ _).trans hd⟩
        | false => exact h.elim
      · exact h.elim
  | [], _ :: _, _, _, _, _, _, _, h, _, _, _ => h.elim
  | _ :: _, [], _, _, _, _, _, _, h, _, _, _ => h.elim
/-- A drawn region over plain memory. -/
theorem sat_mix {id : Nat} {l : List Oper} {f : Fr} {K : Exit → Fr → List Ow → Prop} (qs : List Bool) (hm : P.follows .mixedOrders = true) (hns : Region.noSelect l.toArray = true) (hB : mixB l.toArray qs 0 (Array.replicate l.toArray.size false) = true)
    (h : mixK P W N l.toArray l qs f [] (K .normal)) : Sat none P W Gs.nil N (.region id l.toArray true) f [] K := by
  refine ⟨fun n a w ⟨r, hR, hf, hN, hd⟩ => wpIn_wide.2 ?_⟩
  have hf0 : FDen Env.none f a := hf.mono ⟨(fun i x hx => by rw [hR.outB i (by simp)] at hx; cases hx), (fun i x hx => by rw [hR.outV i (by simp)] at hx; cases hx)⟩
  refine Code.wp_mono (Q := fun e a w => match e with | .normal => PostK W Gs.nil N K .normal a w | _ => False) (fun e a w h => by cases e <;> first | exact h | exact h.elim) (wp_region_held (S := fun w' => Below W.heap.size W w') hm ?_)
  have := mixK_sound (P := P) (W := W) (N := N) (Q := fun e a w => match e with | .normal => PostK W Gs.nil N K .normal a w | _ => False) hns (fun c a w h => h) (fun f T a w hk hg => ⟨f, T, hk, hg⟩) l qs 0 _ f [] (fun j o hj => by simpa using hj) hB h a w.drew ⟨Env.none, (rel_none W).below hR.drew.toBelow, hf0, hN, hd⟩
  simpa using this
/-- The memory seen anew, as plain memory. -/
theorem satq_restart {w0 : World} {d : Code} {f : Fr} {S : List Ow} {Q : Exit → Act → World → Prop} (h : ∀ r w, Rel w0 Gs.nil S r w → ∃ f2, (∀ a, FDen r f a → FDen Env.none f2 a) ∧ SatQ P w Gs.nil N d f2 [] Q) : SatQ P w0 Gs.nil N d f S Q :=
  ⟨fun a w ⟨r, hR, hf, hN, hd⟩ => by
    obtain ⟨f2, h1, h2⟩ := h r w hR
    exact h2.out a w ⟨Env.none, rel_none w, h1 a hf, hN, hd⟩⟩
end
end Go.Proofs.Ytmjfgnnefcimiaa
namespace Go.Proofs.Ytmjfgnnefcimiaa
open Go.RowKit

theorem opS_ent {P : Program} {w0 : World} {G : Gs} {N : Nd} {o : Oper} {f f1 : Fr} {S S1 : List Ow} {K : Fr → List Ow → Prop} (h : Ent w0 G N f S f1 S1) (k : OpS P w0 G N o f1 S1 K) : OpS P w0 G N o f S K :=
  ⟨fun r a w hR hf hN hd next Q hK => by
    obtain ⟨r1, hR1, hf1, hN1, hd1⟩ := h.out a w ⟨r, hR, hf, hN, hd⟩
    exact k.out r1 a w hR1 hf1 hN1 hd1 next Q hK⟩
def othersFx (i : Nat) : List Ow → Nat → Bool
  | [], _ => true
  | .cells _ l :: S, k => (match Nat.beq k i with | true => othersFx i S (k + 1) | false => (match fxL (fun _ => true) l with | true => othersFx i S (k + 1) | false => false))
  | _ :: S, k => othersFx i S (k + 1)
theorem othersFx_get {i : Nat} : ∀ {S : List Ow} {k j : Nat} {t : TypeId} {l : List CV}, othersFx i S k = true → S[j]? = some (.cells t l) → k + j ≠ i → fxL (fun _ => true) l = true
  | [], k, j, t, l, _, h, _ => by simp at h
  | o :: S, k, 0, t, l, hb, h, hne => by
    simp at h; subst h
    simp only [othersFx] at hb
    have : Nat.beq k i = false := by
      cases hk : Nat.beq k i
      · rfl
      · exact absurd (Nat.eq_of_beq_eq_true hk) (by omega)
    rw [this] at hb
    simp only at hb
    split at hb
    · assumption
    · cases hb
  | o :: S, k, j + 1, t, l, hb, h, hne => by
    have hb2 : othersFx i S (k + 1) = true := by
      cases o <;> simp only [othersFx] at hb <;> try exact hb
      split at hb
      · exact hb
      · split at hb
        · exact hb
        · cases hb
    exact othersFx_get (k := k + 1) (j := j) hb2 (by simpa using h) (by omega)
theorem ent_slrow {w0 : World} {G : Gs} {N : Nd} {f f' : Fr} {S : List Ow} (i d size n : Nat) {e : TypeId} {xs : List Value} (hs : f.get d = .p (.c (.sl i 0 n n))) (hi : S[i]? = some (.cells e (xs.map .v))) (hlen : xs.length = n * size) (hn : n ≤ maxLen) (hf : FLe f f') (hfx : f'.fx (fun _ => true) = true) (hS : othersFx i S 0 = true) : Ent w0 G N f S ((d, .p (.c (.row i))) :: f') (S.set i (.row e size n xs)) := by
  refine ⟨fun a w ⟨r, hR, hd, hN, hdf⟩ => ?_⟩
  obtain ⟨b, us, h1, h2, h3⟩ := hR.own i _ hi
  obtain rfl := denL_vals_inv h3
  have hil := hR.lt_of_blk h1
  obtain ⟨r1, hr1⟩ : ∃ r1 : Env, r1 = ⟨r.blk, fun j => if j = i then some (.slice (some ⟨b, 0, none⟩) n n) else r.val j⟩ := ⟨_, rfl⟩
  have hb1 : r1.blk = r.blk := by rw [hr1]
  have hv1 : ∀ j, j ≠ i → r1.val j = r.val j := fun j hj => by rw [hr1]; exact if_neg hj
  have hvi : r1.val i = some (.slice (some ⟨b, 0, none⟩) n n) := by rw [hr1]; exact if_pos rfl
  have hag : ∀ j x, (true = true) → r.blk j = some x → r1.blk j = some x := fun j x _ h => by rw [hb1]; exact h
  refine ⟨r1, ⟨hR.os, hR.tape, hR.output, hR.size, hR.old, fun j o hj => ?_, fun j k x h k' => hR.inj j k x (hb1 ▸ h) (hb1 ▸ k'), fun j x h => hR.new j x (hb1 ▸ h), fun j hj => by rw [hb1]; exact hR.outB j (by simpa using hj), fun j hj => ?_, fun j g h => by rw [hb1]; exact hR.first j g h⟩, fun k => ?_, hN, hdf⟩
  · rw [List.getElem?_set] at hj
    split at hj
    · rename_i hij; subst hij
      injection hj with hj; subst hj
      exact ⟨_, hvi, by rw [hb1, h1]; rfl, hlen, .inr ⟨b, n, us.toArray, rfl, Nat.zero_le _, h2, Nat.le_refl _, hn, by simpa using hlen, by rw [← hlen]; simp⟩⟩
    · rename_i hij
      have hh := hR.own j o hj
      have hv := hv1 j (Ne.symm hij)
      cases o with
      | cells t l =>
        obtain ⟨b', us', j1, j2, j3⟩ := hh
        exact ⟨b', us', by rw [hb1]; exact j1, j2, denL_fx (ok := fun _ => true) (fun k x hk hx => hag k x rfl hx) (othersFx_get hS hj (by omega)) j3⟩
      | row e' size' m ys => obtain ⟨v, j1, j2, j3⟩ := hh; exact ⟨v, hv.trans j1, by rw [hb1]; exact j2, j3⟩
      | ext φ => obtain ⟨b', j1, j2⟩ := hh; exact ⟨b', by rw [hb1]; exact j1, j2⟩
      | view φ m ys => obtain ⟨A, c, j1, j2, j3, j4, j5⟩ := hh; exact ⟨A, c, hv.trans j1, j2, j3, by rw [hb1]; exact j4, by rw [hb1]; exact j5⟩
      | gone => trivial
  · have : j ≠ i := fun e => by subst e; simp at hj; omega
    rw [hv1 j this]; exact hR.outV j (by simpa using hj)
  · simp only [Fr.get]
    split
    · rename_i hk
      have := Nat.eq_of_beq_eq_true hk; subst this
      have hsl := hd d
      rw [hs] at hsl
      obtain ⟨b', h4, h5⟩ := den_sl hsl
      rw [h1] at h4; injection h4 with h4; subst h4
      simp only [AV.den, Pc.den, CV.den]
      rw [h5, hvi]
    · exact ((hf.den hd).fx (ok := fun _ => true) (fun k x hk hx => hag k x rfl hx) hfx) k
end Go.Proofs.Ytmjfgnnefcimiaa
