/- Walks: with, before. -/
import Derived.ChangeKeysEq
import Derived.Test.YtmjfgnnefcimiaaK1
import Derived.Test.YtmjfgnnefcimiaaK13
import Derived.Test.YtmjfgnnefcimiaaK3
import Derived.Test.YtmjfgnnefcimiaaK5
import Derived.Test.YtmjfgnnefcimiaaK6
namespace Go.Proofs.Ytmjfgnnefcimiaa
open Go.RowKit
attribute [local irreducible] wpStill wpQuiet

theorem with_opt (A1 A2 A3 A4 : Option Addr) (n1 n2 n3 n4 c1 c2 c3 c4 : Nat) (w : World) :
    Calls Try.prog 41 #[.agg #[.slice A1 n1 c1, .slice A2 n2 c2, .slice A3 n3 c3], .slice A4 n4 c4] w fun e w' => e = .returned (.agg #[.slice A1 n1 c1, .slice A2 n2 c2, .slice A4 n4 c4]) ∧ Below w.heap.size w w' := by
  go_enter Try.func41, Try.ntmps41
  go_wp2
  refine bodyPost_ret (v := .agg #[.slice A1 n1 c1, .slice A2 n2 c2, .slice A4 n4 c4]) ?_ rfl ⟨rfl, (by repeat (first | exact Below.refl _ _ | assumption | (with_reducible refine Below.drew ?_) | (with_reducible refine below_drewN ?_ _) | (with_reducible refine Below.alloc ?_ (by first | exact Nat.le_refl _ | assumption | (simp; done) | (simp; omega) | omega) _) | (with_reducible refine Below.setCell ?_ (by first | exact Nat.le_refl _ | assumption | (simp; done) | (simp; omega) | omega) _) | (with_reducible refine below_call ?_ (by assumption) (by first | exact Nat.le_refl _ | assumption | (simp; done) | (simp; omega) | omega)) | (with_reducible refine below_only ?_ (by assumption) (by first | exact Nat.le_refl _ | assumption | (simp; done) | (simp; omega) | omega) (by first | exact Nat.le_refl _ | assumption | (simp; done) | (simp; omega) | omega))))⟩
  simp only [results, Try.results41]; simp [go_sem]

theorem pow_u32 (d : Nat) (hd : d < 32) : 2 ^ d < 4294967296 := by
  have h1 : 2 ^ d < 2 ^ 32 := Nat.pow_lt_pow_right (by omega) hd
  simpa using h1
theorem pow_mod (d : Nat) (hd : d < 32) : (2 : Int) ^ d % 4294967296 = ((2 ^ d : Nat) : Int) := by
  have h2 := pow_u32 d hd
  rw [show (2 : Int) ^ d = ((2 ^ d : Nat) : Int) by simp]
  obtain ⟨q, hq⟩ : ∃ q, 2 ^ d = q := ⟨_, rfl⟩
  rw [hq] at h2 ⊢
  omega
theorem bit_clr (m d : Nat) (hm : m < 4294967296) (hd : d < 32) : bits .andNot .u32 (m : Int) (2 ^ d % 4294967296) = ((clrM m d : Nat) : Int) := by
  rw [pow_mod d hd]
  exact u32_andNot_nat m (2 ^ d) hm (pow_u32 d hd)
theorem bit_put (m d : Nat) (hm : m < 4294967296) (hd : d < 32) : bits .or .u32 (m : Int) (2 ^ d % 4294967296) = ((setM m d : Nat) : Int) := by
  rw [pow_mod d hd]
  exact u32_or_nat m (2 ^ d) hm (pow_u32 d hd)
theorem clrM_lt {m d : Nat} (h : m < 4294967296) : clrM m d < 4294967296 := Nat.lt_of_le_of_lt Nat.and_le_left h
theorem setM_lt {m d : Nat} (h : m < 4294967296) (hd : d < 32) : setM m d < 4294967296 := Nat.or_lt_two_pow (n := 32) h (by have := pow_u32 d hd; simpa using this)
theorem readsM_lt {m : Nat} {l : List Int} (h : m < 4294967296) (hl : ∀ x ∈ l, 0 ≤ x ∧ x < 28) : readsM m l < 4294967296 := by
  induction l generalizing m with
  | nil => exact h
  | cons x l ih =>
    have := hl x (by simp)
    exact ih (setM_lt h (by omega)) fun y hy => hl y (by simp [hy])
theorem readsM_at {m : Nat} {l : List Int} {k : Nat} {x : Int} (h : l[k]? = some x) : readsM m (l.take (k + 1)) = setM (readsM m (l.take k)) x.toNat := by
  rw [List.take_add_one, h]
  simp [readsM, List.foldl_append]

theorem mayLeave_of {o : BOp} {x : Bool} (h : leaves o.code = x) (w : World) :
    Calls Try.prog 76 #[opV o] w fun e w' => e = .returned (.bool x) ∧ Below w.heap.size w w' := by
  rw [← h]; exact mayLeave_ir o w
theorem reads_len (o : BOp) : (reads o).length ≤ 2 := by
  unfold reads
  rw [List.length_append]
  split <;> split <;> simp

def preM (o : BOp) (m : Nat) : Nat := if 0 ≤ writes o then clrM m (writes o).toNat else m

set_option maxRecDepth 100000 in
set_option maxHeartbeats 1600000 in
theorem before_opt (o : BOp) (m : Nat) (hm : m < 4294967296) (hf : formedB o = true) (w : World) :
    Calls Try.prog 49 #[opV o, .int .u32 (m : Int)] w fun e w' => e = .returned (.int .u32 (beforeM o m)) ∧ Below w.heap.size w w' := by
  obtain ⟨n, hn⟩ : ∃ n, (reads o).length = n := ⟨_, rfl⟩
  obtain ⟨d, hd⟩ : ∃ d, writes o = d := ⟨_, rfl⟩
  have hwv := writes_var hf
  have hwc := fun W => writes_ir o W
  rw [hd] at hwv hwc
  have hn2 : n ≤ 2 := by rw [← hn]; exact reads_len o
  have HWC := Lib.hid hwc
  have HN := Lib.hid hn
  have HF := Lib.hid hf
  have HD := Lib.hid hd
  clear hn hf hd hwc
  unfold opV
  obtain ⟨m1, hm1⟩ : ∃ m1, preM o m = m1 := ⟨_, rfl⟩
  have hm1lt : m1 < 4294967296 := by
    rw [← hm1]; unfold preM
    split
    · exact clrM_lt hm
    · exact hm
  have hpost : ∀ (r : Nat), (if observesB o then readsM m1 (reads o) ||| 524287 else readsM m1 (reads o)) = r → beforeM o m = r := by
    intro r hr
    rw [← hr, ← hm1]
    rfl
  have HPOST := Lib.hid hpost
  clear hpost
  go_enter Try.func49, Try.ntmps49
  by_cases hd0 : 0 ≤ d
  · have hcl := bit_clr m d.toNat hm (by omega)
    have hM1 : Hid (clrM m d.toNat = m1) := by
      unfold Hid; rw [← hm1]; unfold preM; rw [HD.out, if_pos hd0]
    clear hm1
    go_wp2_with (first | (go_at_call 40; refine (HWC.out _).mono ?_; rintro e w1 ⟨rfl, hb1⟩; obtain ⟨hc1, hf1⟩ := bcell hb1; have hz1 := hb1.size; (try simp only [World.size_alloc] at hz1); have hy1_0 : w.heap.size < w1.heap.size := (by omega); have hc1_0 := fun o => hc1 (w.heap.size) o (by first | omega | (simp; done) | (simp; omega)); have hf1_0 := fun o => hf1 (w.heap.size) o (by first | omega | (simp; done) | (simp; omega))) | (go_at_call 44; refine (reads_ir o _).mono ?_; rintro e w2 ⟨r, rfl, hown, hb2⟩; rw [HN.out] at hown; obtain ⟨A, c, rfl, hs, -, -, -⟩ := own_slice hown; clear hown; obtain ⟨hc2, hf2⟩ := bcell hb2; have hz2 := hb2.size; (try simp only [World.size_alloc, World.size_setCell, World.heap_drewN, World.size_drew] at hz2); have hy2_0 : w.heap.size < w2.heap.size := (by omega); have hc2_0 := fun o => hc2 (w.heap.size) o (by first | omega | (simp; done) | (simp; omega)); have hf2_0 := fun o => hf2 (w.heap.size) o (by first | omega | (simp; done) | (simp; omega))))
    go_loop [1, 19] (fun t i => ∃ k : Nat, ∃ q : Nat, k ≤ n ∧ i = .int .i64 k ∧ t = .int .u32 (q : Int) ∧ q < 4294967296 ∧ Hid (readsM m1 ((reads o).take k) = q)) (fun _ i => n - (intOf i).toNat)
    case atStart => exact ⟨0, m1, Nat.zero_le _, rfl, by rw [hM1.out], hm1lt, by unfold Hid; simp [readsM]⟩
    case round =>
      obtain ⟨k, q, hk, rfl, rfl, hql, hq⟩ := hrel
      by_cases hlt : k < n
      · obtain ⟨b, off, x, rfl, hbb, hx, hc⟩ := ints_at hs (by rw [HN.out]; exact hlt)
        have hx0 : 0 ≤ x := (reads_var HF.out x (List.mem_of_getElem? hx)).1
        have hx1 : x < 28 := (reads_var HF.out x (List.mem_of_getElem? hx)).2
        have HX := Lib.hid hx
        clear hx hs
        have hor := bit_put q x.toNat hql (by omega)
        go_wp2
        go_round
        case rel =>
          refine ⟨k + 1, setM q x.toNat, by omega, by go_num, rfl, setM_lt hql (by omega), ?_⟩
          unfold Hid
          rw [readsM_at HX.out, hq.out]
        case measure => simp [intOf]; omega
      · have hkn : k = n := by omega
        have HQ : Hid (readsM m1 (reads o) = q) := by
          unfold Hid
          rw [← hq.out, hkn, List.take_of_length_le (by rw [HN.out]; omega)]
        clear hq hkn
        have hgu : bits .or .u32 (q : Int) 524287 = ((q ||| 524287 : Nat) : Int) := by
          exact u32_or_nat q 524287 hql (by omega)
        cases hL : leaves o.code
        · by_cases h23 : o.code = 23
          · have e23 : (o.code == 23) = true := by simp [h23]
            have HO : Hid (observesB o = true) := by unfold Hid; simp [observesB, h23]
            clear h23
            go_wp2_with (first | (go_at_call 76; refine (mayLeave_of hL _).mono ?_; rintro e w3 ⟨rfl, hb3⟩; obtain ⟨hc3, hf3⟩ := bcell hb3; have hz3 := hb3.size; (try simp only [World.size_alloc, World.size_setCell, World.heap_drewN, World.size_drew] at hz3); have hy3_0 : w.heap.size < w3.heap.size := (by omega); have hc3_0 := fun o => hc3 (w.heap.size) o (by first | omega | (simp; done) | (simp; omega)); have hf3_0 := fun o => hf3 (w.heap.size) o (by first | omega | (simp; done) | (simp; omega))))
            go_ret
            refine ⟨?_, (by repeat (first | exact Below.refl _ _ | assumption | (with_reducible refine Below.drew ?_) | (with_reducible refine below_drewN ?_ _) | (with_reducible refine Below.alloc ?_ (by first | exact Nat.le_refl _ | assumption | (simp; done) | (simp; omega) | omega) _) | (with_reducible refine Below.setCell ?_ (by first | exact Nat.le_refl _ | assumption | (simp; done) | (simp; omega) | omega) _) | (with_reducible refine below_call ?_ (by assumption) (by first | exact Nat.le_refl _ | assumption | (simp; done) | (simp; omega) | omega)) | (with_reducible refine below_only ?_ (by assumption) (by first | exact Nat.le_refl _ | assumption | (simp; done) | (simp; omega) | omega) (by first | exact Nat.le_refl _ | assumption | (simp; done) | (simp; omega) | omega))))⟩
            rw [HPOST.out (q ||| 524287) (by rw [HO.out, HQ.out]; rfl)]; rfl
          · have e23 : (o.code == 23) = false := by simp [h23]
            clear h23
            by_cases h24 : o.code = 24
            · have e24 : (o.code == 24) = true := by simp [h24]
              have HO : Hid (observesB o = true) := by unfold Hid; simp [observesB, h24]
              clear h24
              go_wp2_with (first | (go_at_call 76; refine (mayLeave_of hL _).mono ?_; rintro e w3 ⟨rfl, hb3⟩; obtain ⟨hc3, hf3⟩ := bcell hb3; have hz3 := hb3.size; (try simp only [World.size_alloc, World.size_setCell, World.heap_drewN, World.size_drew] at hz3); have hy3_0 : w.heap.size < w3.heap.size := (by omega); have hc3_0 := fun o => hc3 (w.heap.size) o (by first | omega | (simp; done) | (simp; omega)); have hf3_0 := fun o => hf3 (w.heap.size) o (by first | omega | (simp; done) | (simp; omega))))
              go_ret
              refine ⟨?_, (by repeat (first | exact Below.refl _ _ | assumption | (with_reducible refine Below.drew ?_) | (with_reducible refine below_drewN ?_ _) | (with_reducible refine Below.alloc ?_ (by first | exact Nat.le_refl _ | assumption | (simp; done) | (simp; omega) | omega) _) | (with_reducible refine Below.setCell ?_ (by first | exact Nat.le_refl _ | assumption | (simp; done) | (simp; omega) | omega) _) | (with_reducible refine below_call ?_ (by assumption) (by first | exact Nat.le_refl _ | assumption | (simp; done) | (simp; omega) | omega)) | (with_reducible refine below_only ?_ (by assumption) (by first | exact Nat.le_refl _ | assumption | (simp; done) | (simp; omega) | omega) (by first | exact Nat.le_refl _ | assumption | (simp; done) | (simp; omega) | omega))))⟩
              rw [HPOST.out (q ||| 524287) (by rw [HO.out, HQ.out]; rfl)]; rfl
            · have e24 : (o.code == 24) = false := by simp [h24]
              clear h24
              by_cases h25 : o.code = 25
              · have e25 : (o.code == 25) = true := by simp [h25]
                have HO : Hid (observesB o = true) := by unfold Hid; simp [observesB, h25]
                clear h25
                go_wp2_with (first | (go_at_call 76; refine (mayLeave_of hL _).mono ?_; rintro e w3 ⟨rfl, hb3⟩; obtain ⟨hc3, hf3⟩ := bcell hb3; have hz3 := hb3.size; (try simp only [World.size_alloc, World.size_setCell, World.heap_drewN, World.size_drew] at hz3); have hy3_0 : w.heap.size < w3.heap.size := (by omega); have hc3_0 := fun o => hc3 (w.heap.size) o (by first | omega | (simp; done) | (simp; omega)); have hf3_0 := fun o => hf3 (w.heap.size) o (by first | omega | (simp; done) | (simp; omega))))
                go_ret
                refine ⟨?_, (by repeat (first | exact Below.refl _ _ | assumption | (with_reducible refine Below.drew ?_) | (with_reducible refine below_drewN ?_ _) | (with_reducible refine Below.alloc ?_ (by first | exact Nat.le_refl _ | assumption | (simp; done) | (simp; omega) | omega) _) | (with_reducible refine Below.setCell ?_ (by first | exact Nat.le_refl _ | assumption | (simp; done) | (simp; omega) | omega) _) | (with_reducible refine below_call ?_ (by assumption) (by first | exact Nat.le_refl _ | assumption | (simp; done) | (simp; omega) | omega)) | (with_reducible refine below_only ?_ (by assumption) (by first | exact Nat.le_refl _ | assumption | (simp; done) | (simp; omega) | omega) (by first | exact Nat.le_refl _ | assumption | (simp; done) | (simp; omega) | omega))))⟩
                rw [HPOST.out (q ||| 524287) (by rw [HO.out, HQ.out]; rfl)]; rfl
              · have e25 : (o.code == 25) = false := by simp [h25]
                clear h25
                have HO : Hid (observesB o = false) := by unfold Hid; simp [observesB, hL, e23, e24, e25]
                go_wp2_with (first | (go_at_call 76; refine (mayLeave_of hL _).mono ?_; rintro e w3 ⟨rfl, hb3⟩; obtain ⟨hc3, hf3⟩ := bcell hb3; have hz3 := hb3.size; (try simp only [World.size_alloc, World.size_setCell, World.heap_drewN, World.size_drew] at hz3); have hy3_0 : w.heap.size < w3.heap.size := (by omega); have hc3_0 := fun o => hc3 (w.heap.size) o (by first | omega | (simp; done) | (simp; omega)); have hf3_0 := fun o => hf3 (w.heap.size) o (by first | omega | (simp; done) | (simp; omega))))
                go_ret
                refine ⟨?_, (by repeat (first | exact Below.refl _ _ | assumption | (with_reducible refine Below.drew ?_) | (with_reducible refine below_drewN ?_ _) | (with_reducible refine Below.alloc ?_ (by first | exact Nat.le_refl _ | assumption | (simp; done) | (simp; omega) | omega) _) | (with_reducible refine Below.setCell ?_ (by first | exact Nat.le_refl _ | assumption | (simp; done) | (simp; omega) | omega) _) | (with_reducible refine below_call ?_ (by assumption) (by first | exact Nat.le_refl _ | assumption | (simp; done) | (simp; omega) | omega)) | (with_reducible refine below_only ?_ (by assumption) (by first | exact Nat.le_refl _ | assumption | (simp; done) | (simp; omega) | omega) (by first | exact Nat.le_refl _ | assumption | (simp; done) | (simp; omega) | omega))))⟩
                rw [HPOST.out q (by rw [HO.out, HQ.out]; rfl)]; rfl
        · have HO : Hid (observesB o = true) := by unfold Hid; simp [observesB, hL]
          go_wp2_with (first | (go_at_call 76; refine (mayLeave_of hL _).mono ?_; rintro e w3 ⟨rfl, hb3⟩; obtain ⟨hc3, hf3⟩ := bcell hb3; have hz3 := hb3.size; (try simp only [World.size_alloc, World.size_setCell, World.heap_drewN, World.size_drew] at hz3); have hy3_0 : w.heap.size < w3.heap.size := (by omega); have hc3_0 := fun o => hc3 (w.heap.size) o (by first | omega | (simp; done) | (simp; omega)); have hf3_0 := fun o => hf3 (w.heap.size) o (by first | omega | (simp; done) | (simp; omega))))
          go_ret
          refine ⟨?_, (by repeat (first | exact Below.refl _ _ | assumption | (with_reducible refine Below.drew ?_) | (with_reducible refine below_drewN ?_ _) | (with_reducible refine Below.alloc ?_ (by first | exact Nat.le_refl _ | assumption | (simp; done) | (simp; omega) | omega) _) | (with_reducible refine Below.setCell ?_ (by first | exact Nat.le_refl _ | assumption | (simp; done) | (simp; omega) | omega) _) | (with_reducible refine below_call ?_ (by assumption) (by first | exact Nat.le_refl _ | assumption | (simp; done) | (simp; omega) | omega)) | (with_reducible refine below_only ?_ (by assumption) (by first | exact Nat.le_refl _ | assumption | (simp; done) | (simp; omega) | omega) (by first | exact Nat.le_refl _ | assumption | (simp; done) | (simp; omega) | omega))))⟩
          rw [HPOST.out (q ||| 524287) (by rw [HO.out, HQ.out]; rfl)]; rfl
  · have hM1 : Hid (m = m1) := by
      unfold Hid; rw [← hm1]; unfold preM; rw [HD.out, if_neg hd0]
    clear hm1
    go_wp2_with (first | (go_at_call 40; refine (HWC.out _).mono ?_; rintro e w1 ⟨rfl, hb1⟩; obtain ⟨hc1, hf1⟩ := bcell hb1; have hz1 := hb1.size; (try simp only [World.size_alloc] at hz1); have hy1_0 : w.heap.size < w1.heap.size := (by omega); have hc1_0 := fun o => hc1 (w.heap.size) o (by first | omega | (simp; done) | (simp; omega)); have hf1_0 := fun o => hf1 (w.heap.size) o (by first | omega | (simp; done) | (simp; omega))) | (go_at_call 44; refine (reads_ir o _).mono ?_; rintro e w2 ⟨r, rfl, hown, hb2⟩; rw [HN.out] at hown; obtain ⟨A, c, rfl, hs, -, -, -⟩ := own_slice hown; clear hown; obtain ⟨hc2, hf2⟩ := bcell hb2; have hz2 := hb2.size; (try simp only [World.size_alloc, World.size_setCell, World.heap_drewN, World.size_drew] at hz2); have hy2_0 : w.heap.size < w2.heap.size := (by omega); have hc2_0 := fun o => hc2 (w.heap.size) o (by first | omega | (simp; done) | (simp; omega)); have hf2_0 := fun o => hf2 (w.heap.size) o (by first | omega | (simp; done) | (simp; omega))))
    go_loop [1, 19] (fun t i => ∃ k : Nat, ∃ q : Nat, k ≤ n ∧ i = .int .i64 k ∧ t = .int .u32 (q : Int) ∧ q < 4294967296 ∧ Hid (readsM m1 ((reads o).take k) = q)) (fun _ i => n - (intOf i).toNat)
    case atStart => exact ⟨0, m1, Nat.zero_le _, rfl, by rw [hM1.out], hm1lt, by unfold Hid; simp [readsM]⟩
    case round =>
      obtain ⟨k, q, hk, rfl, rfl, hql, hq⟩ := hrel
      by_cases hlt : k < n
      · obtain ⟨b, off, x, rfl, hbb, hx, hc⟩ := ints_at hs (by rw [HN.out]; exact hlt)
        have hx0 : 0 ≤ x := (reads_var HF.out x (List.mem_of_getElem? hx)).1
        have hx1 : x < 28 := (reads_var HF.out x (List.mem_of_getElem? hx)).2
        have HX := Lib.hid hx
        clear hx hs
        have hor := bit_put q x.toNat hql (by omega)
        go_wp2
        go_round
        case rel =>
          refine ⟨k + 1, setM q x.toNat, by omega, by go_num, rfl, setM_lt hql (by omega), ?_⟩
          unfold Hid
          rw [readsM_at HX.out, hq.out]
        case measure => simp [intOf]; omega
      · have hkn : k = n := by omega
        have HQ : Hid (readsM m1 (reads o) = q) := by
          unfold Hid
          rw [← hq.out, hkn, List.take_of_length_le (by rw [HN.out]; omega)]
        clear hq hkn
        have hgu : bits .or .u32 (q : Int) 524287 = ((q ||| 524287 : Nat) : Int) := by
          exact u32_or_nat q 524287 hql (by omega)
        cases hL : leaves o.code
        · by_cases h23 : o.code = 23
          · have e23 : (o.code == 23) = true := by simp [h23]
            have HO : Hid (observesB o = true) := by unfold Hid; simp [observesB, h23]
            clear h23
            go_wp2_with (first | (go_at_call 76; refine (mayLeave_of hL _).mono ?_; rintro e w3 ⟨rfl, hb3⟩; obtain ⟨hc3, hf3⟩ := bcell hb3; have hz3 := hb3.size; (try simp only [World.size_alloc, World.size_setCell, World.heap_drewN, World.size_drew] at hz3); have hy3_0 : w.heap.size < w3.heap.size := (by omega); have hc3_0 := fun o => hc3 (w.heap.size) o (by first | omega | (simp; done) | (simp; omega)); have hf3_0 := fun o => hf3 (w.heap.size) o (by first | omega | (simp; done) | (simp; omega))))
            go_ret
            refine ⟨?_, (by repeat (first | exact Below.refl _ _ | assumption | (with_reducible refine Below.drew ?_) | (with_reducible refine below_drewN ?_ _) | (with_reducible refine Below.alloc ?_ (by first | exact Nat.le_refl _ | assumption | (simp; done) | (simp; omega) | omega) _) | (with_reducible refine Below.setCell ?_ (by first | exact Nat.le_refl _ | assumption | (simp; done) | (simp; omega) | omega) _) | (with_reducible refine below_call ?_ (by assumption) (by first | exact Nat.le_refl _ | assumption | (simp; done) | (simp; omega) | omega)) | (with_reducible refine below_only ?_ (by assumption) (by first | exact Nat.le_refl _ | assumption | (simp; done) | (simp; omega) | omega) (by first | exact Nat.le_refl _ | assumption | (simp; done) | (simp; omega) | omega))))⟩
            rw [HPOST.out (q ||| 524287) (by rw [HO.out, HQ.out]; rfl)]; rfl
          · have e23 : (o.code == 23) = false := by simp [h23]
            clear h23
            by_cases h24 : o.code = 24
            · have e24 : (o.code == 24) = true := by simp [h24]
              have HO : Hid (observesB o = true) := by unfold Hid; simp [observesB, h24]
              clear h24
              go_wp2_with (first | (go_at_call 76; refine (mayLeave_of hL _).mono ?_; rintro e w3 ⟨rfl, hb3⟩; obtain ⟨hc3, hf3⟩ := bcell hb3; have hz3 := hb3.size; (try simp only [World.size_alloc, World.size_setCell, World.heap_drewN, World.size_drew] at hz3); have hy3_0 : w.heap.size < w3.heap.size := (by omega); have hc3_0 := fun o => hc3 (w.heap.size) o (by first | omega | (simp; done) | (simp; omega)); have hf3_0 := fun o => hf3 (w.heap.size) o (by first | omega | (simp; done) | (simp; omega))))
              go_ret
              refine ⟨?_, (by repeat (first | exact Below.refl _ _ | assumption | (with_reducible refine Below.drew ?_) | (with_reducible refine below_drewN ?_ _) | (with_reducible refine Below.alloc ?_ (by first | exact Nat.le_refl _ | assumption | (simp; done) | (simp; omega) | omega) _) | (with_reducible refine Below.setCell ?_ (by first | exact Nat.le_refl _ | assumption | (simp; done) | (simp; omega) | omega) _) | (with_reducible refine below_call ?_ (by assumption) (by first | exact Nat.le_refl _ | assumption | (simp; done) | (simp; omega) | omega)) | (with_reducible refine below_only ?_ (by assumption) (by first | exact Nat.le_refl _ | assumption | (simp; done) | (simp; omega) | omega) (by first | exact Nat.le_refl _ | assumption | (simp; done) | (simp; omega) | omega))))⟩
              rw [HPOST.out (q ||| 524287) (by rw [HO.out, HQ.out]; rfl)]; rfl
            · have e24 : (o.code == 24) = false := by simp [h24]
              clear h24
              by_cases h25 : o.code = 25
              · have e25 : (o.code == 25) = true := by simp [h25]
                have HO : Hid (observesB o = true) := by unfold Hid; simp [observesB, h25]
                clear h25
                go_wp2_with (first | (go_at_call 76; refine (mayLeave_of hL _).mono ?_; rintro e w3 ⟨rfl, hb3⟩; obtain ⟨hc3, hf3⟩ := bcell hb3; have hz3 := hb3.size; (try simp only [World.size_alloc, World.size_setCell, World.heap_drewN, World.size_drew] at hz3); have hy3_0 : w.heap.size < w3.heap.size := (by omega); have hc3_0 := fun o => hc3 (w.heap.size) o (by first | omega | (simp; done) | (simp; omega)); have hf3_0 := fun o => hf3 (w.heap.size) o (by first | omega | (simp; done) | (simp; omega))))
                go_ret
                refine ⟨?_, (by repeat (first | exact Below.refl _ _ | assumption | (with_reducible refine Below.drew ?_) | (with_reducible refine below_drewN ?_ _) | (with_reducible refine Below.alloc ?_ (by first | exact Nat.le_refl _ | assumption | (simp; done) | (simp; omega) | omega) _) | (with_reducible refine Below.setCell ?_ (by first | exact Nat.le_refl _ | assumption | (simp; done) | (simp; omega) | omega) _) | (with_reducible refine below_call ?_ (by assumption) (by first | exact Nat.le_refl _ | assumption | (simp; done) | (simp; omega) | omega)) | (with_reducible refine below_only ?_ (by assumption) (by first | exact Nat.le_refl _ | assumption | (simp; done) | (simp; omega) | omega) (by first | exact Nat.le_refl _ | assumption | (simp; done) | (simp; omega) | omega))))⟩
                rw [HPOST.out (q ||| 524287) (by rw [HO.out, HQ.out]; rfl)]; rfl
              · have e25 : (o.code == 25) = false := by simp [h25]
                clear h25
                have HO : Hid (observesB o = false) := by unfold Hid; simp [observesB, hL, e23, e24, e25]
                go_wp2_with (first | (go_at_call 76; refine (mayLeave_of hL _).mono ?_; rintro e w3 ⟨rfl, hb3⟩; obtain ⟨hc3, hf3⟩ := bcell hb3; have hz3 := hb3.size; (try simp only [World.size_alloc, World.size_setCell, World.heap_drewN, World.size_drew] at hz3); have hy3_0 : w.heap.size < w3.heap.size := (by omega); have hc3_0 := fun o => hc3 (w.heap.size) o (by first | omega | (simp; done) | (simp; omega)); have hf3_0 := fun o => hf3 (w.heap.size) o (by first | omega | (simp; done) | (simp; omega))))
                go_ret
                refine ⟨?_, (by repeat (first | exact Below.refl _ _ | assumption | (with_reducible refine Below.drew ?_) | (with_reducible refine below_drewN ?_ _) | (with_reducible refine Below.alloc ?_ (by first | exact Nat.le_refl _ | assumption | (simp; done) | (simp; omega) | omega) _) | (with_reducible refine Below.setCell ?_ (by first | exact Nat.le_refl _ | assumption | (simp; done) | (simp; omega) | omega) _) | (with_reducible refine below_call ?_ (by assumption) (by first | exact Nat.le_refl _ | assumption | (simp; done) | (simp; omega) | omega)) | (with_reducible refine below_only ?_ (by assumption) (by first | exact Nat.le_refl _ | assumption | (simp; done) | (simp; omega) | omega) (by first | exact Nat.le_refl _ | assumption | (simp; done) | (simp; omega) | omega))))⟩
                rw [HPOST.out q (by rw [HO.out, HQ.out]; rfl)]; rfl
        · have HO : Hid (observesB o = true) := by unfold Hid; simp [observesB, hL]
          go_wp2_with (first | (go_at_call 76; refine (mayLeave_of hL _).mono ?_; rintro e w3 ⟨rfl, hb3⟩; obtain ⟨hc3, hf3⟩ := bcell hb3; have hz3 := hb3.size; (try simp only [World.size_alloc, World.size_setCell, World.heap_drewN, World.size_drew] at hz3); have hy3_0 : w.heap.size < w3.heap.size := (by omega); have hc3_0 := fun o => hc3 (w.heap.size) o (by first | omega | (simp; done) | (simp; omega)); have hf3_0 := fun o => hf3 (w.heap.size) o (by first | omega | (simp; done) | (simp; omega))))
          go_ret
          refine ⟨?_, (by repeat (first | exact Below.refl _ _ | assumption | (with_reducible refine Below.drew ?_) | (with_reducible refine below_drewN ?_ _) | (with_reducible refine Below.alloc ?_ (by first | exact Nat.le_refl _ | assumption | (simp; done) | (simp; omega) | omega) _) | (with_reducible refine Below.setCell ?_ (by first | exact Nat.le_refl _ | assumption | (simp; done) | (simp; omega) | omega) _) | (with_reducible refine below_call ?_ (by assumption) (by first | exact Nat.le_refl _ | assumption | (simp; done) | (simp; omega) | omega)) | (with_reducible refine below_only ?_ (by assumption) (by first | exact Nat.le_refl _ | assumption | (simp; done) | (simp; omega) | omega) (by first | exact Nat.le_refl _ | assumption | (simp; done) | (simp; omega) | omega))))⟩
          rw [HPOST.out (q ||| 524287) (by rw [HO.out, HQ.out]; rfl)]; rfl
end Go.Proofs.Ytmjfgnnefcimiaa
