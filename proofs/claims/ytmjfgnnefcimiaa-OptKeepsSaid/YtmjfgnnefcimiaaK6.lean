/- Walks: one step of the program's validity check: a mark. Walks: word.Op, which looks its operation up in a map of functions, and the reference's Op. Operations that leave memory alone, over states that are known part by part. Operations that turn memory, over states that are known part by part. Walks: one step of the program's validity check: an operation other than a mark. -/
import Derived.Laws.StructEq
import Derived.Test.YtmjfgnnefcimiaaK1
import Derived.Test.YtmjfgnnefcimiaaK3
namespace Go.Proofs.Ytmjfgnnefcimiaa
open Go.RowKit

section
variable (g : Nat) (s : Ck) (exit : Bool) (n : Int) (w : World)

theorem lt_heap {g : Nat} {w : World} (h : g < w.heap.size) : g < w.heap.size + 1 := by omega

set_option maxRecDepth 100000 in
set_option maxHeartbeats 1000000 in
theorem next_mark (hg : Has w g (ckRow s)) (hm : s.marks ≤ 1000000) :
    Calls Try.prog 70 #[.pointer (some ⟨g, 0, none⟩), opV ⟨20, 0, 0, 0, n⟩, .bool false, .bool exit] w (CkPost g w (ckNext s ⟨20, 0, 0, 0, n⟩ false exit)) := by
  have hglt := hg.lt
  have hgl1 := lt_heap hglt
  have q0 : w.cell? ⟨g, 0, none⟩ = some (.int .i64 (s.marks : Int)) := (hg 0 _ rfl).1
  have q1 : w.cell? ⟨g, 1, none⟩ = some (.int .u32 (s.written : Int)) := (hg 1 _ rfl).1
  have q2 : w.cell? ⟨g, 2, none⟩ = some (.bool s.changed) := (hg 2 _ rfl).1
  have f0 := (hg 0 _ rfl).2
  have f1 := (hg 1 _ rfl).2
  have f2 := (hg 2 _ rfl).2
  clear hg
  have i1 : isOp 20 = true := rfl
  have i2 : hasD 20 = false := rfl
  have i3 : hasA 20 = false := rfl
  have i4 : hasB 20 = false := rfl
  have i5 : hasN 20 = true := rfl
  have i6 : leaves 20 = false := rfl
  have i7 : endsB 20 = false := rfl
  have i8 : fieldB false 0 = true := rfl
  have i9 : stores 20 = false := rfl
  unfold opV
  by_cases hn : n = (s.marks : Int)
  · have e0 : (n != (s.marks : Int)) = false := by simp [hn]
    have HN := Lib.hid hn
    clear hn
    go_enter Try.func70, Try.ntmps70
    go_wp2_with (first | (go_at_call 73; refine (shapeOf_any _ _).mono ?_; rintro e w1 ⟨rfl, hb1⟩; obtain ⟨hc1, hf1⟩ := bcell hb1; have hz1 := hb1.size; try simp only [World.size_alloc] at hz1; have hy1_0 : w.heap.size < w1.heap.size := (by omega); have hc1_0 := fun o => hc1 (w.heap.size) o (by first | omega | (simp; done) | (simp; omega)); have hf1_0 := fun o => hf1 (w.heap.size) o (by first | omega | (simp; done) | (simp; omega)); have hy1_1 : g < w1.heap.size := (by omega); have hc1_1 := fun o => hc1 (g) o (by first | omega | (simp; done) | (simp; omega)); have hf1_1 := fun o => hf1 (g) o (by first | omega | (simp; done) | (simp; omega))) | (go_at_call 94; refine (field_ir _ _ _).mono ?_; rintro e w' ⟨rfl, rfl⟩) | (go_at_call 95; refine (ends_ir _ _).mono ?_; rintro e w' ⟨rfl, rfl⟩))
    go_quiet (fail)
    go_wp2_with (first | (go_at_call 44; refine (reads_ir ⟨20, 0, 0, 0, n⟩ _).mono ?_; rintro e w2 ⟨r, rfl, hown, hb2⟩; rw [show reads ⟨20, 0, 0, 0, n⟩ = [] from rfl] at hown; simp only [List.length_nil, List.map_nil] at hown; obtain ⟨A, c, rfl, hs, -, -, -⟩ := own_slice hown; clear hown; obtain ⟨hc2, hf2⟩ := bcell hb2; have hz2 := hb2.size; try simp only [World.size_alloc, World.size_setCell, World.heap_drewN] at hz2; have hy2_0 : w.heap.size < w2.heap.size := (by omega); have hc2_0 := fun o => hc2 (w.heap.size) o (by first | omega | (simp; done) | (simp; omega)); have hf2_0 := fun o => hf2 (w.heap.size) o (by first | omega | (simp; done) | (simp; omega)); have hy2_1 : w1.heap.size < w2.heap.size := (by omega); have hc2_1 := fun o => hc2 (w1.heap.size) o (by first | omega | (simp; done) | (simp; omega)); have hf2_1 := fun o => hf2 (w1.heap.size) o (by first | omega | (simp; done) | (simp; omega)); have hy2_2 : g < w2.heap.size := (by omega); have hc2_2 := fun o => hc2 (g) o (by first | omega | (simp; done) | (simp; omega)); have hf2_2 := fun o => hf2 (g) o (by first | omega | (simp; done) | (simp; omega))) | (go_at_call 40; refine (writes_ir ⟨20, 0, 0, 0, n⟩ _).mono ?_; rintro e w3 ⟨rfl, hb3⟩; obtain ⟨hc3, hf3⟩ := bcell hb3; have hz3 := hb3.size; try simp only [World.size_alloc, World.size_setCell, World.heap_drewN, World.size_drew] at hz3; have hy3_0 : w.heap.size < w3.heap.size := (by omega); have hc3_0 := fun o => hc3 (w.heap.size) o (by first | omega | (simp; done) | (simp; omega)); have hf3_0 := fun o => hf3 (w.heap.size) o (by first | omega | (simp; done) | (simp; omega)); have hy3_1 : w1.heap.size < w3.heap.size := (by omega); have hc3_1 := fun o => hc3 (w1.heap.size) o (by first | omega | (simp; done) | (simp; omega)); have hf3_1 := fun o => hf3 (w1.heap.size) o (by first | omega | (simp; done) | (simp; omega)); have hy3_2 : g < w3.heap.size := (by omega); have hc3_2 := fun o => hc3 (g) o (by first | omega | (simp; done) | (simp; omega)); have hf3_2 := fun o => hf3 (g) o (by first | omega | (simp; done) | (simp; omega))))
    have hw := fun W => writes_ir ⟨20, 0, 0, 0, n⟩ W
    simp only [show writes ⟨20, 0, 0, 0, n⟩ = -1 from rfl] at hw
    have HW := Lib.hid hw
    clear hw
    refine wp_loop_once ?_
    go_wp2_with (go_at_call 40; refine (HW.out _).mono ?_; rintro e w3 ⟨rfl, hb3⟩; obtain ⟨hc3, hf3⟩ := bcell hb3; have hz3 := hb3.size; try simp only [World.size_alloc, World.size_setCell, World.heap_drewN, World.size_drew] at hz3; have hy3_0 : w.heap.size < w3.heap.size := (by omega); have hc3_0 := fun o => hc3 (w.heap.size) o (by first | omega | (simp; done) | (simp; omega)); have hf3_0 := fun o => hf3 (w.heap.size) o (by first | omega | (simp; done) | (simp; omega)); have hy3_1 : w1.heap.size < w3.heap.size := (by omega); have hc3_1 := fun o => hc3 (w1.heap.size) o (by first | omega | (simp; done) | (simp; omega)); have hf3_1 := fun o => hf3 (w1.heap.size) o (by first | omega | (simp; done) | (simp; omega)); have hy3_2 : g < w3.heap.size := (by omega); have hc3_2 := fun o => hc3 (g) o (by first | omega | (simp; done) | (simp; omega)); have hf3_2 := fun o => hf3 (g) o (by first | omega | (simp; done) | (simp; omega)))
    have hn := HN.out
    go_ret
    exact post_some (s := ⟨s.marks + 1, 0, false⟩) (by unfold ckNext; rw [if_pos (by simp [formedB, placedB, i1, i2, i3, i4, i5, i6, i7, i8])]; simp [hn]) rfl (by repeat (first | exact World.grownBy.refl _ _ | assumption | (with_reducible refine only_drew ?_) | (with_reducible refine only_drewN ?_ _) | (with_reducible refine only_alloc ?_ _) | (with_reducible refine only_setCell ?_ (by first | exact .inl rfl | (right; simp; omega)) _) | (with_reducible refine only_below ?_ (by assumption) (by first | exact Nat.le_refl _ | assumption | (simp; done) | (simp; omega) | omega)))) (has3 (by go_simp) (by go_simp) (World.cell?_setCell_same' _ _ _ (by go_simp)) (by go_simp) (by go_simp) (by go_simp))
  · have e0 : (n != (s.marks : Int)) = true := by simp [hn]
    clear hn
    go_enter Try.func70, Try.ntmps70
    go_wp2_with (first | (go_at_call 73; refine (shapeOf_any _ _).mono ?_; rintro e w1 ⟨rfl, hb1⟩; obtain ⟨hc1, hf1⟩ := bcell hb1; have hz1 := hb1.size; try simp only [World.size_alloc] at hz1; have hy1_0 : w.heap.size < w1.heap.size := (by omega); have hc1_0 := fun o => hc1 (w.heap.size) o (by first | omega | (simp; done) | (simp; omega)); have hf1_0 := fun o => hf1 (w.heap.size) o (by first | omega | (simp; done) | (simp; omega)); have hy1_1 : g < w1.heap.size := (by omega); have hc1_1 := fun o => hc1 (g) o (by first | omega | (simp; done) | (simp; omega)); have hf1_1 := fun o => hf1 (g) o (by first | omega | (simp; done) | (simp; omega))) | (go_at_call 94; refine (field_ir _ _ _).mono ?_; rintro e w' ⟨rfl, rfl⟩) | (go_at_call 95; refine (ends_ir _ _).mono ?_; rintro e w' ⟨rfl, rfl⟩))
    go_quiet (fail)
    go_wp2
    go_ret
    refine post_none ?_ rfl (by repeat (first | exact World.grownBy.refl _ _ | assumption | (with_reducible refine only_drew ?_) | (with_reducible refine only_drewN ?_ _) | (with_reducible refine only_alloc ?_ _) | (with_reducible refine only_setCell ?_ (by first | exact .inl rfl | (right; simp; omega)) _) | (with_reducible refine only_below ?_ (by assumption) (by first | exact Nat.le_refl _ | assumption | (simp; done) | (simp; omega) | omega))))
    unfold ckNext
    rw [if_pos (by simp [formedB, placedB, i1, i2, i3, i4, i5, i6, i7, i8])]
    simp at e0
    simp [e0]
end
end Go.Proofs.Ytmjfgnnefcimiaa
namespace Go.Proofs.Ytmjfgnnefcimiaa
open Go.RowKit

/-- How a map's function values read: by their numbers. -/
def fnElem : Value → Option (DataW Unit × List MemPlace)
  | .func (.func f) a b => if a.size = 0 ∧ b.size = 0 then some (.lit (.int .i64 (f : Int)), []) else none
  | .nilFunc => some (.lit (.bool false), [])
  | _ => none
def fnMk (x : Int) : Value := .func (.func x.toNat) #[] #[]
def fnCd (x : Int) : DataW Unit := .lit (.int .i64 x)
theorem fnElems : Elems fnElem fnMk fnCd (fun x => 0 ≤ x) where
  to x hx := by simp [fnElem, fnMk, fnCd]; omega
  from_ v x ps h := by
    unfold fnElem at h
    split at h
    · rename_i f a b
      split at h
      · rename_i hs
        obtain ⟨ha, hb⟩ := hs
        have ea := Array.eq_empty_of_size_eq_zero ha
        have eb := Array.eq_empty_of_size_eq_zero hb
        subst ea; subst eb
        simp only [Option.some.injEq, Prod.mk.injEq, fnCd] at h
        have h1 := h.1
        injection h1 with h1
        injection h1 with _ h1
        subst h1
        simp [fnMk]
      · cases h
    · simp [fnCd] at h
    · cases h
theorem fnNil (v : Value) (ps : List MemPlace) (h : fnElem v = some (.lit (.bool false), ps)) : v = .nilFunc := by
  unfold fnElem at h
  split at h
  · split at h
    · simp at h
    · cases h
  · rfl
  · cases h
theorem fnZero (w : World) : (zeroValue 126).run Try.prog w = .ok .nilFunc w := by kernel_rfl

def opsF : Int → Option Int := mput (mput (mput (mput (mput (mput (mput (mput (mput (mput (mput (mput (mput (fun _ => none) 3 102) 4 103) 5 104) 6 105) 7 106) 8 107) 9 108) 10 109) 11 110) 12 111) 13 112) 14 114) 15 115

set_option maxRecDepth 100000 in
set_option maxHeartbeats 1000000 in
theorem ops_any (w : World) :
    Calls Try.prog 96 #[] w fun e w' => ∃ b, e = .returned (.map (some b)) ∧ IMap fnElem fnCd w' b 13 opsF ∧ Below w.heap.size w w' := by
  have hmm := @run_makeMap Try.prog
  have hT := Try.underlying128
  have m2 := IMap.made (R := fnElem) (cd := fnCd) w
  obtain ⟨w3, r3, m3, g3⟩ := m2.put fnElems hT (by omega) (k := 3) (x := 102) (by decide) (by decide)
  obtain ⟨w4, r4, m4, g4⟩ := m3.put fnElems hT (by omega) (k := 4) (x := 103) (by decide) (by decide)
  obtain ⟨w5, r5, m5, g5⟩ := m4.put fnElems hT (by omega) (k := 5) (x := 104) (by decide) (by decide)
  obtain ⟨w6, r6, m6, g6⟩ := m5.put fnElems hT (by omega) (k := 6) (x := 105) (by decide) (by decide)
  obtain ⟨w7, r7, m7, g7⟩ := m6.put fnElems hT (by omega) (k := 7) (x := 106) (by decide) (by decide)
  obtain ⟨w8, r8, m8, g8⟩ := m7.put fnElems hT (by omega) (k := 8) (x := 107) (by decide) (by decide)
  obtain ⟨w9, r9, m9, g9⟩ := m8.put fnElems hT (by omega) (k := 9) (x := 108) (by decide) (by decide)
  obtain ⟨w10, r10, m10, g10⟩ := m9.put fnElems hT (by omega) (k := 10) (x := 109) (by decide) (by decide)
  obtain ⟨w11, r11, m11, g11⟩ := m10.put fnElems hT (by omega) (k := 11) (x := 110) (by decide) (by decide)
  obtain ⟨w12, r12, m12, g12⟩ := m11.put fnElems hT (by omega) (k := 12) (x := 111) (by decide) (by decide)
  obtain ⟨w13, r13, m13, g13⟩ := m12.put fnElems hT (by omega) (k := 13) (x := 112) (by decide) (by decide)
  obtain ⟨w14, r14, m14, g14⟩ := m13.put fnElems hT (by omega) (k := 14) (x := 114) (by decide) (by decide)
  obtain ⟨w15, r15, m15, g15⟩ := m14.put fnElems hT (by omega) (k := 15) (x := 115) (by decide) (by decide)
  have hT' := Lib.hid hT
  clear hT
  have hB : Below w.heap.size w w15 := by
    have h := (Below.refl w.heap.size w).alloc (Nat.le_refl _) (.map #[] 0)
    have h := h.grown g3 (by simp) (fun k e => by cases e; exact Nat.le_refl _)
    have h := h.grown g4 h.size (fun k e => by cases e; exact Nat.le_refl _)
    have h := h.grown g5 h.size (fun k e => by cases e; exact Nat.le_refl _)
    have h := h.grown g6 h.size (fun k e => by cases e; exact Nat.le_refl _)
    have h := h.grown g7 h.size (fun k e => by cases e; exact Nat.le_refl _)
    have h := h.grown g8 h.size (fun k e => by cases e; exact Nat.le_refl _)
    have h := h.grown g9 h.size (fun k e => by cases e; exact Nat.le_refl _)
    have h := h.grown g10 h.size (fun k e => by cases e; exact Nat.le_refl _)
    have h := h.grown g11 h.size (fun k e => by cases e; exact Nat.le_refl _)
    have h := h.grown g12 h.size (fun k e => by cases e; exact Nat.le_refl _)
    have h := h.grown g13 h.size (fun k e => by cases e; exact Nat.le_refl _)
    have h := h.grown g14 h.size (fun k e => by cases e; exact Nat.le_refl _)
    have h := h.grown g15 h.size (fun k e => by cases e; exact Nat.le_refl _)
    exact h
  have HM := Lib.hid m15
  have HBB := Lib.hid hB
  clear hB m2 m3 g3 m4 g4 m5 g5 m6 g6 m7 g7 m8 g8 m9 g9 m10 g10 m11 g11 m12 g12 m13 g13 m14 g14 m15 g15
  simp only [fnMk, show (102 : Int).toNat = 102 from rfl] at r3
  simp only [fnMk, show (103 : Int).toNat = 103 from rfl] at r4
  simp only [fnMk, show (104 : Int).toNat = 104 from rfl] at r5
  simp only [fnMk, show (105 : Int).toNat = 105 from rfl] at r6
  simp only [fnMk, show (106 : Int).toNat = 106 from rfl] at r7
  simp only [fnMk, show (107 : Int).toNat = 107 from rfl] at r8
  simp only [fnMk, show (108 : Int).toNat = 108 from rfl] at r9
  simp only [fnMk, show (109 : Int).toNat = 109 from rfl] at r10
  simp only [fnMk, show (110 : Int).toNat = 110 from rfl] at r11
  simp only [fnMk, show (111 : Int).toNat = 111 from rfl] at r12
  simp only [fnMk, show (112 : Int).toNat = 112 from rfl] at r13
  simp only [fnMk, show (114 : Int).toNat = 114 from rfl] at r14
  simp only [fnMk, show (115 : Int).toNat = 115 from rfl] at r15
  go_enter Try.func96, Try.ntmps96
  go_wp2
  go_ret
  exact ⟨_, rfl, HM.out, HBB.out⟩

theorem opsF_none (c : Int) (h : isBin c = false) : opsF c = none := by
  simp [isBin] at h
  unfold opsF
  simp only [mput]
  repeat (rw [if_neg (by omega)])

set_option maxRecDepth 100000 in
set_option maxHeartbeats 400000 in
theorem op_none (c a b : Int) (w : World) (hc : mid c) (h : isBin c = false) :
    Calls Try.prog 72 #[.int .i64 c, .int .u32 a, .int .u32 b] w fun e w' => e = .returned (.int .u32 0) ∧ Below w.heap.size w w' := by
  have hf := Lib.hid (opsF_none c h)
  have hc' := Lib.hid hc
  clear h hc
  go_enter Try.func72, Try.ntmps72
  go_wp2_with (go_at_call 96; refine (ops_any _).mono ?_; rintro e w1 ⟨m1, rfl, him, hb1⟩; have hl := him.look fnElems (_x0 := 0) Try.underlying128 (fnZero _) rfl fnNil (wf_mid hc'.out); rw [hf.out] at hl; simp only [Option.map_none, Option.getD_none, Option.isSome_none] at hl; clear him)
  go_ret
  exact ⟨rfl, hb1⟩

set_option maxRecDepth 100000 in
set_option maxHeartbeats 400000 in
theorem op_is3 (a b : Int) (w : World) (ha : word a) (hb : word b) :
    Calls Try.prog 72 #[.int .i64 3, .int .u32 a, .int .u32 b] w fun e w' => e = .returned (.int .u32 (wordOp 3 a b)) ∧ Below w.heap.size w w' := by
  have HA := Lib.hid ha
  have HB := Lib.hid hb
  clear ha hb
  have hf : Hid (opsF 3 = some 102) := by unfold Hid opsF; simp [mput]
  go_enter Try.func72, Try.ntmps72
  go_wp2_with (first | (go_at_call 96; refine (ops_any _).mono ?_; rintro e w1 ⟨m1, rfl, him, hb1⟩; have hl := him.look fnElems (_x0 := 0) (k := 3) Try.underlying128 (fnZero _) rfl fnNil (by decide); rw [hf.out] at hl; simp only [Option.map_some, Option.getD_some, Option.isSome_some, fnMk, show (102 : Int).toNat = 102 from rfl] at hl; clear him) | (go_at_call 102; refine (op3 a b _ HA.out HB.out).mono ?_; rintro e w' ⟨rfl, rfl⟩))
  go_ret
  exact ⟨rfl, hb1⟩

set_option maxRecDepth 100000 in
set_option maxHeartbeats 400000 in
theorem op_is4 (a b : Int) (w : World) (ha : word a) (hb : word b) :
    Calls Try.prog 72 #[.int .i64 4, .int .u32 a, .int .u32 b] w fun e w' => e = .returned (.int .u32 (wordOp 4 a b)) ∧ Below w.heap.size w w' := by
  have HA := Lib.hid ha
  have HB := Lib.hid hb
  clear ha hb
  have hf : Hid (opsF 4 = some 103) := by unfold Hid opsF; simp [mput]
  go_enter Try.func72, Try.ntmps72
  go_wp2_with (first | (go_at_call 96; refine (ops_any _).mono ?_; rintro e w1 ⟨m1, rfl, him, hb1⟩; have hl := him.look fnElems (_x0 := 0) (k := 4) Try.underlying128 (fnZero _) rfl fnNil (by decide); rw [hf.out] at hl; simp only [Option.map_some, Option.getD_some, Option.isSome_some, fnMk, show (103 : Int).toNat = 103 from rfl] at hl; clear him) | (go_at_call 103; refine (op4 a b _ HA.out HB.out).mono ?_; rintro e w' ⟨rfl, rfl⟩))
  go_ret
  exact ⟨rfl, hb1⟩

set_option maxRecDepth 100000 in
set_option maxHeartbeats 400000 in
theorem op_is5 (a b : Int) (w : World) (ha : word a) (hb : word b) :
    Calls Try.prog 72 #[.int .i64 5, .int .u32 a, .int .u32 b] w fun e w' => e = .returned (.int .u32 (wordOp 5 a b)) ∧ Below w.heap.size w w' := by
  have HA := Lib.hid ha
  have HB := Lib.hid hb
  clear ha hb
  have hf : Hid (opsF 5 = some 104) := by unfold Hid opsF; simp [mput]
  go_enter Try.func72, Try.ntmps72
  go_wp2_with (first | (go_at_call 96; refine (ops_any _).mono ?_; rintro e w1 ⟨m1, rfl, him, hb1⟩; have hl := him.look fnElems (_x0 := 0) (k := 5) Try.underlying128 (fnZero _) rfl fnNil (by decide); rw [hf.out] at hl; simp only [Option.map_some, Option.getD_some, Option.isSome_some, fnMk, show (104 : Int).toNat = 104 from rfl] at hl; clear him) | (go_at_call 104; refine (op5 a b _ HA.out HB.out).mono ?_; rintro e w' ⟨rfl, rfl⟩))
  go_ret
  exact ⟨rfl, hb1⟩

set_option maxRecDepth 100000 in
set_option maxHeartbeats 400000 in
theorem op_is6 (a b : Int) (w : World) (ha : word a) (hb : word b) :
    Calls Try.prog 72 #[.int .i64 6, .int .u32 a, .int .u32 b] w fun e w' => e = .returned (.int .u32 (wordOp 6 a b)) ∧ Below w.heap.size w w' := by
  have HA := Lib.hid ha
  have HB := Lib.hid hb
  clear ha hb
  have hf : Hid (opsF 6 = some 105) := by unfold Hid opsF; simp [mput]
  go_enter Try.func72, Try.ntmps72
  go_wp2_with (first | (go_at_call 96; refine (ops_any _).mono ?_; rintro e w1 ⟨m1, rfl, him, hb1⟩; have hl := him.look fnElems (_x0 := 0) (k := 6) Try.underlying128 (fnZero _) rfl fnNil (by decide); rw [hf.out] at hl; simp only [Option.map_some, Option.getD_some, Option.isSome_some, fnMk, show (105 : Int).toNat = 105 from rfl] at hl; clear him) | (go_at_call 105; refine (op6 a b _ HA.out HB.out).mono ?_; rintro e w' ⟨rfl, rfl⟩))
  go_ret
  exact ⟨rfl, hb1⟩

set_option maxRecDepth 100000 in
set_option maxHeartbeats 400000 in
theorem op_is7 (a b : Int) (w : World) (ha : word a) (hb : word b) :
    Calls Try.prog 72 #[.int .i64 7, .int .u32 a, .int .u32 b] w fun e w' => e = .returned (.int .u32 (wordOp 7 a b)) ∧ Below w.heap.size w w' := by
  have HA := Lib.hid ha
  have HB := Lib.hid hb
  clear ha hb
  have hf : Hid (opsF 7 = some 106) := by unfold Hid opsF; simp [mput]
  go_enter Try.func72, Try.ntmps72
  go_wp2_with (first | (go_at_call 96; refine (ops_any _).mono ?_; rintro e w1 ⟨m1, rfl, him, hb1⟩; have hl := him.look fnElems (_x0 := 0) (k := 7) Try.underlying128 (fnZero _) rfl fnNil (by decide); rw [hf.out] at hl; simp only [Option.map_some, Option.getD_some, Option.isSome_some, fnMk, show (106 : Int).toNat = 106 from rfl] at hl; clear him) | (go_at_call 106; refine (op7 a b _ HA.out HB.out).mono ?_; rintro e w' ⟨rfl, rfl⟩))
  go_ret
  exact ⟨rfl, hb1⟩

set_option maxRecDepth 100000 in
set_option maxHeartbeats 400000 in
theorem op_is8 (a b : Int) (w : World) (ha : word a) (hb : word b) :
    Calls Try.prog 72 #[.int .i64 8, .int .u32 a, .int .u32 b] w fun e w' => e = .returned (.int .u32 (wordOp 8 a b)) ∧ Below w.heap.size w w' := by
  have HA := Lib.hid ha
  have HB := Lib.hid hb
  clear ha hb
  have hf : Hid (opsF 8 = some 107) := by unfold Hid opsF; simp [mput]
  go_enter Try.func72, Try.ntmps72
  go_wp2_with (first | (go_at_call 96; refine (ops_any _).mono ?_; rintro e w1 ⟨m1, rfl, him, hb1⟩; have hl := him.look fnElems (_x0 := 0) (k := 8) Try.underlying128 (fnZero _) rfl fnNil (by decide); rw [hf.out] at hl; simp only [Option.map_some, Option.getD_some, Option.isSome_some, fnMk, show (107 : Int).toNat = 107 from rfl] at hl; clear him) | (go_at_call 107; refine (op8 a b _ HA.out HB.out).mono ?_; rintro e w' ⟨rfl, rfl⟩))
  go_ret
  exact ⟨rfl, hb1⟩

set_option maxRecDepth 100000 in
set_option maxHeartbeats 400000 in
theorem op_is9 (a b : Int) (w : World) (ha : word a) (hb : word b) :
    Calls Try.prog 72 #[.int .i64 9, .int .u32 a, .int .u32 b] w fun e w' => e = .returned (.int .u32 (wordOp 9 a b)) ∧ Below w.heap.size w w' := by
  have HA := Lib.hid ha
  have HB := Lib.hid hb
  clear ha hb
  have hf : Hid (opsF 9 = some 108) := by unfold Hid opsF; simp [mput]
  go_enter Try.func72, Try.ntmps72
  go_wp2_with (first | (go_at_call 96; refine (ops_any _).mono ?_; rintro e w1 ⟨m1, rfl, him, hb1⟩; have hl := him.look fnElems (_x0 := 0) (k := 9) Try.underlying128 (fnZero _) rfl fnNil (by decide); rw [hf.out] at hl; simp only [Option.map_some, Option.getD_some, Option.isSome_some, fnMk, show (108 : Int).toNat = 108 from rfl] at hl; clear him) | (go_at_call 108; refine (op9 a b _ HA.out HB.out).mono ?_; rintro e w' ⟨rfl, rfl⟩))
  go_ret
  exact ⟨rfl, hb1⟩

set_option maxRecDepth 100000 in
set_option maxHeartbeats 400000 in
theorem op_is10 (a b : Int) (w : World) (ha : word a) (hb : word b) :
    Calls Try.prog 72 #[.int .i64 10, .int .u32 a, .int .u32 b] w fun e w' => e = .returned (.int .u32 (wordOp 10 a b)) ∧ Below w.heap.size w w' := by
  have HA := Lib.hid ha
  have HB := Lib.hid hb
  clear ha hb
  have hf : Hid (opsF 10 = some 109) := by unfold Hid opsF; simp [mput]
  go_enter Try.func72, Try.ntmps72
  go_wp2_with (first | (go_at_call 96; refine (ops_any _).mono ?_; rintro e w1 ⟨m1, rfl, him, hb1⟩; have hl := him.look fnElems (_x0 := 0) (k := 10) Try.underlying128 (fnZero _) rfl fnNil (by decide); rw [hf.out] at hl; simp only [Option.map_some, Option.getD_some, Option.isSome_some, fnMk, show (109 : Int).toNat = 109 from rfl] at hl; clear him) | (go_at_call 109; refine (op10 a b _ HA.out HB.out).mono ?_; rintro e w' ⟨rfl, rfl⟩))
  go_ret
  exact ⟨rfl, hb1⟩

set_option maxRecDepth 100000 in
set_option maxHeartbeats 400000 in
theorem op_is11 (a b : Int) (w : World) (ha : word a) (hb : word b) :
    Calls Try.prog 72 #[.int .i64 11, .int .u32 a, .int .u32 b] w fun e w' => e = .returned (.int .u32 (wordOp 11 a b)) ∧ Below w.heap.size w w' := by
  have HA := Lib.hid ha
  have HB := Lib.hid hb
  clear ha hb
  have hf : Hid (opsF 11 = some 110) := by unfold Hid opsF; simp [mput]
  go_enter Try.func72, Try.ntmps72
  go_wp2_with (first | (go_at_call 96; refine (ops_any _).mono ?_; rintro e w1 ⟨m1, rfl, him, hb1⟩; have hl := him.look fnElems (_x0 := 0) (k := 11) Try.underlying128 (fnZero _) rfl fnNil (by decide); rw [hf.out] at hl; simp only [Option.map_some, Option.getD_some, Option.isSome_some, fnMk, show (110 : Int).toNat = 110 from rfl] at hl; clear him) | (go_at_call 110; refine (op11 a b _ HA.out HB.out).mono ?_; rintro e w' ⟨rfl, rfl⟩))
  go_ret
  exact ⟨rfl, hb1⟩

set_option maxRecDepth 100000 in
set_option maxHeartbeats 400000 in
theorem op_is12 (a b : Int) (w : World) (ha : word a) (hb : word b) :
    Calls Try.prog 72 #[.int .i64 12, .int .u32 a, .int .u32 b] w fun e w' => e = .returned (.int .u32 (wordOp 12 a b)) ∧ Below w.heap.size w w' := by
  have HA := Lib.hid ha
  have HB := Lib.hid hb
  clear ha hb
  have hf : Hid (opsF 12 = some 111) := by unfold Hid opsF; simp [mput]
  go_enter Try.func72, Try.ntmps72
  go_wp2_with (first | (go_at_call 96; refine (ops_any _).mono ?_; rintro e w1 ⟨m1, rfl, him, hb1⟩; have hl := him.look fnElems (_x0 := 0) (k := 12) Try.underlying128 (fnZero _) rfl fnNil (by decide); rw [hf.out] at hl; simp only [Option.map_some, Option.getD_some, Option.isSome_some, fnMk, show (111 : Int).toNat = 111 from rfl] at hl; clear him) | (go_at_call 111; refine (op12 a b _ HA.out HB.out).mono ?_; rintro e w' ⟨rfl, rfl⟩))
  go_ret
  exact ⟨rfl, hb1⟩

set_option maxRecDepth 100000 in
set_option maxHeartbeats 400000 in
theorem op_is13 (a b : Int) (w : World) (ha : word a) (hb : word b) :
    Calls Try.prog 72 #[.int .i64 13, .int .u32 a, .int .u32 b] w fun e w' => e = .returned (.int .u32 (wordOp 13 a b)) ∧ Below w.heap.size w w' := by
  have HA := Lib.hid ha
  have HB := Lib.hid hb
  clear ha hb
  have hf : Hid (opsF 13 = some 112) := by unfold Hid opsF; simp [mput]
  go_enter Try.func72, Try.ntmps72
  go_wp2_with (first | (go_at_call 96; refine (ops_any _).mono ?_; rintro e w1 ⟨m1, rfl, him, hb1⟩; have hl := him.look fnElems (_x0 := 0) (k := 13) Try.underlying128 (fnZero _) rfl fnNil (by decide); rw [hf.out] at hl; simp only [Option.map_some, Option.getD_some, Option.isSome_some, fnMk, show (112 : Int).toNat = 112 from rfl] at hl; clear him) | (go_at_call 112; refine (op13 a b _ HA.out HB.out).mono ?_; rintro e w' ⟨rfl, rfl⟩))
  go_ret
  exact ⟨rfl, hb1⟩

set_option maxRecDepth 100000 in
set_option maxHeartbeats 400000 in
theorem op_is14 (a b : Int) (w : World) (ha : word a) (hb : word b) :
    Calls Try.prog 72 #[.int .i64 14, .int .u32 a, .int .u32 b] w fun e w' => e = .returned (.int .u32 (wordOp 14 a b)) ∧ Below w.heap.size w w' := by
  have HA := Lib.hid ha
  have HB := Lib.hid hb
  clear ha hb
  have hf : Hid (opsF 14 = some 114) := by unfold Hid opsF; simp [mput]
  go_enter Try.func72, Try.ntmps72
  go_wp2_with (first | (go_at_call 96; refine (ops_any _).mono ?_; rintro e w1 ⟨m1, rfl, him, hb1⟩; have hl := him.look fnElems (_x0 := 0) (k := 14) Try.underlying128 (fnZero _) rfl fnNil (by decide); rw [hf.out] at hl; simp only [Option.map_some, Option.getD_some, Option.isSome_some, fnMk, show (114 : Int).toNat = 114 from rfl] at hl; clear him) | (go_at_call 114; refine (op14 a b _ HA.out HB.out).mono ?_; rintro e w' ⟨rfl, rfl⟩))
  go_ret
  exact ⟨rfl, hb1⟩

set_option maxRecDepth 100000 in
set_option maxHeartbeats 400000 in
theorem op_is15 (a b : Int) (w : World) (ha : word a) (hb : word b) :
    Calls Try.prog 72 #[.int .i64 15, .int .u32 a, .int .u32 b] w fun e w' => e = .returned (.int .u32 (wordOp 15 a b)) ∧ Below w.heap.size w w' := by
  have HA := Lib.hid ha
  have HB := Lib.hid hb
  clear ha hb
  have hf : Hid (opsF 15 = some 115) := by unfold Hid opsF; simp [mput]
  go_enter Try.func72, Try.ntmps72
  go_wp2_with (first | (go_at_call 96; refine (ops_any _).mono ?_; rintro e w1 ⟨m1, rfl, him, hb1⟩; have hl := him.look fnElems (_x0 := 0) (k := 15) Try.underlying128 (fnZero _) rfl fnNil (by decide); rw [hf.out] at hl; simp only [Option.map_some, Option.getD_some, Option.isSome_some, fnMk, show (115 : Int).toNat = 115 from rfl] at hl; clear him) | (go_at_call 115; refine (op15 a b _ HA.out HB.out).mono ?_; rintro e w' ⟨rfl, rfl⟩))
  go_ret
  exact ⟨rfl, hb1⟩

/-- word.Op gives 'wordOp'. -/
theorem op_word (c a b : Int) (w : World) (hc : mid c) (ha : word a) (hb : word b) :
    Calls Try.prog 72 #[.int .i64 c, .int .u32 a, .int .u32 b] w fun e w' => e = .returned (.int .u32 (wordOp c a b)) ∧ Below w.heap.size w w' := by
  by_cases h : isBin c = true
  · have h' : 3 ≤ c ∧ c ≤ 15 := by simpa [isBin] using h
    rcases (by omega : c = 3 ∨ c = 4 ∨ c = 5 ∨ c = 6 ∨ c = 7 ∨ c = 8 ∨ c = 9 ∨ c = 10 ∨ c = 11 ∨ c = 12 ∨ c = 13 ∨ c = 14 ∨ c = 15) with rfl | rfl | rfl | rfl | rfl | rfl | rfl | rfl | rfl | rfl | rfl | rfl | rfl
    · exact op_is3 a b w ha hb
    · exact op_is4 a b w ha hb
    · exact op_is5 a b w ha hb
    · exact op_is6 a b w ha hb
    · exact op_is7 a b w ha hb
    · exact op_is8 a b w ha hb
    · exact op_is9 a b w ha hb
    · exact op_is10 a b w ha hb
    · exact op_is11 a b w ha hb
    · exact op_is12 a b w ha hb
    · exact op_is13 a b w ha hb
    · exact op_is14 a b w ha hb
    · exact op_is15 a b w ha hb
  · have h' : isBin c = false := by simpa using h
    have h0 : wordOp c a b = 0 := by
      simp [isBin] at h'
      unfold wordOp
      repeat (rw [if_neg (by omega)])
    rw [h0]
    exact op_none c a b w hc h'

end Go.Proofs.Ytmjfgnnefcimiaa
namespace Go.Proofs.Ytmjfgnnefcimiaa
open Go.RowKit

def tsz (P : Program) (t : TypeId) : Nat := match P.info? t with | some i => i.size | none => 0
def tAgg (P : Program) (t : TypeId) : Option Bool := match P.underlying t with | some (.struct _) => some true | some (.array _ _) => some true | some _ => some false | none => none
/-- A list known cell by cell, written out. -/
def forceL {α : Type} : List α → (List α → Prop) → Prop
  | [], K => K []
  | a :: l, K => forceL l fun m => K (a :: m)
theorem forceL_iff {α : Type} : ∀ {l : List α} {K : List α → Prop}, forceL l K ↔ K l
  | [], _K => Iff.rfl
  | _a :: l, _K => forceL_iff (l := l)
/-- Written out if it is short. -/
def forceS {α : Type} (n : Nat) (l : List α) (K : List α → Prop) : Prop := match Nat.ble n 8 with | true => forceL l K | false => K l
theorem forceS_iff {α : Type} {n : Nat} {l : List α} {K : List α → Prop} : forceS n l K ↔ K l := by
  unfold forceS; split
  · exact forceL_iff
  · exact Iff.rfl
def cut (l : List CV) (off n : Nat) : Option (List CV) := match Nat.ble (off + n) l.length with | true => some ((l.drop off).take n) | false => none
theorem cut_spec {l m : List CV} {off n : Nat} (h : cut l off n = some m) : off + n ≤ l.length ∧ m = (l.drop off).take n := by
  unfold cut at h; split at h
  · rename_i hb; exact ⟨Nat.le_of_ble_eq_true hb, (Option.some.inj h).symm⟩
  · cases h

theorem addr_add (b off i : Nat) : Addr.add ⟨b, off, none⟩ i = ⟨b, off + i, none⟩ := by
  unfold Addr.add; split
  · rename_i h; subst h; simp
  · rfl
theorem run_sizeOf (P : Program) (t : TypeId) (w : World) {i : TypeInfo} (h : P.info? t = some i) : (sizeOf t).run P w = .ok i.size w := by
  simp [sizeOf, typeInfo, h]
theorem run_isAgg {P : Program} {t : TypeId} (w : World) {x : Bool} (h : tAgg P t = some x) : (isAgg t).run P w = .ok x w := by
  unfold tAgg at h
  unfold isAgg underlying
  simp only [Sem.run_bind, run_program, Result.andThen_ok]
  split at h
  · rename_i hu; injection h with h; subst h; rw [hu]; simp
  · rename_i hu; injection h with h; subst h; rw [hu]; simp
  · rename_i d n1 n2 hu
    injection h with h; subst h; rw [hu]
    simp only [Result.andThen_ok, Sem.run_pure]
  · cases h
theorem run_loadCells {P : Program} {w : World} {b off : Nat} : ∀ (n i : Nat) (acc : Array Value) (us : List Value), us.length = n → (∀ j u, us[j]? = some u → w.cell? ⟨b, off + i + j, none⟩ = some u) →
    (loadCellsFrom ⟨b, off, none⟩ i n acc).run P w = .ok (acc ++ us.toArray) w
  | 0, i, acc, us, hl, h => by
    rw [List.eq_nil_of_length_eq_zero hl]; simp [loadCellsFrom]
  | n + 1, i, acc, us, hl, h => by
    match us, hl with
    | u :: us, hl =>
      have h0 := h 0 u rfl
      have := run_loadCells (P := P) (w := w) (b := b) (off := off) n (i + 1) (acc.push u) us (by simpa using hl) (fun j v hj => by have := h (j + 1) v (by simpa using hj); rw [← this]; congr 2; omega)
      unfold loadCellsFrom
      simp only [Sem.run_bind, run_load, addr_add]
      rw [show off + i = off + i + 0 by omega, h0]
      simp [this]
theorem run_loadAt_one {P : Program} {w : World} {b off : Nat} {t : TypeId} {u : Value} (ht : tAgg P t = some false) (h : w.cell? ⟨b, off, none⟩ = some u) :
    (Instr.loadAt t (.pointer (some ⟨b, off, none⟩))).run P w = .ok u w := by
  simp [Instr.loadAt, Instr.sureAddr, loadVar, run_isAgg w ht, h]
theorem run_loadAt_agg {P : Program} {w : World} {b off : Nat} {t : TypeId} {us : List Value} {i : TypeInfo} (ht : tAgg P t = some true) (hi : P.info? t = some i) (hl : us.length = i.size) (h : ∀ j u, us[j]? = some u → w.cell? ⟨b, off + j, none⟩ = some u) :
    (Instr.loadAt t (.pointer (some ⟨b, off, none⟩))).run P w = .ok (.agg us.toArray) w := by
  simp [Instr.loadAt, Instr.sureAddr, loadVar, run_isAgg w ht, run_sizeOf P t w hi, loadCells, run_loadCells i.size 0 #[] us hl (by simpa using h)]

/-- Integers. What must be shown: that the result is m, and no division by zero. -/
def binK (op : BinOp) (k : IntKind) (a b : Int) (K : Value → Prop) : Prop :=
  match op with
  | .add => ∃ m, k.wrap (a + b) = m ∧ K (.int k m)
  | .sub => ∃ m, k.wrap (a - b) = m ∧ K (.int k m)
  | .mul => ∃ m, k.wrap (a * b) = m ∧ K (.int k m)
  | .quo => b ≠ 0 ∧ ∃ m, k.wrap (a.tdiv b) = m ∧ K (.int k m)
  | .rem => b ≠ 0 ∧ ∃ m, a.tmod b = m ∧ K (.int k m)
  | .eql => K (.bool (a == b))
  | .neq => K (.bool (a != b))
  | .lss => K (.bool (decide (a < b)))
  | .leq => K (.bool (decide (a ≤ b)))
  | .gtr => K (.bool (decide (a > b)))
  | .geq => K (.bool (decide (a ≥ b)))
  | .and => ∃ m, bits .and k a b = m ∧ K (.int k m)
  | .or => ∃ m, bits .or k a b = m ∧ K (.int k m)
  | .xor => ∃ m, bits .xor k a b = m ∧ K (.int k m)
  | .andNot => ∃ m, bits .andNot k a b = m ∧ K (.int k m)
  | _ => False
def shiftK (op : BinOp) (k : IntKind) (a b : Int) (K : Value → Prop) : Prop :=
  match op with
  | .shl => 0 ≤ b ∧ ∃ m, k.wrap (a * 2 ^ (min b.toNat k.bits)) = m ∧ K (.int k m)
  | .shr => 0 ≤ b ∧ ∃ m, a.fdiv (2 ^ (min b.toNat k.bits)) = m ∧ K (.int k m)
  | _ => False
theorem binK_sound {P : Program} {op : BinOp} {t : TypeId} {k : IntKind} {a b : Int} {K : Value → Prop} (h : binK op k a b K) : ∃ u, K u ∧ ∀ w : World, (binOp op t (.int k a) (.int k b)).run P w = .ok u w := by
  unfold binK at h
  split at h
  · obtain ⟨m, hm, hK⟩ := h; exact ⟨_, hK, fun w => by simp [binOp, Op.intArith, hm]⟩
  · obtain ⟨m, hm, hK⟩ := h; exact ⟨_, hK, fun w => by simp [binOp, Op.intArith, hm]⟩
  · obtain ⟨m, hm, hK⟩ := h; exact ⟨_, hK, fun w => by simp [binOp, Op.intArith, hm]⟩
  · obtain ⟨h0, m, hm, hK⟩ := h; exact ⟨_, hK, fun w => by simp [binOp, Op.intDiv, h0, hm]⟩
  · obtain ⟨h0, m, hm, hK⟩ := h; exact ⟨_, hK, fun w => by simp [binOp, Op.intDiv, h0, hm]⟩
  · exact ⟨_, h, fun w => by simp [binOp, Op.intCmp]⟩
  · exact ⟨_, h, fun w => by simp [binOp, Op.intCmp]⟩
  · exact ⟨_, h, fun w => by simp [binOp, Op.intCmp]⟩
  · exact ⟨_, h, fun w => by simp [binOp, Op.intCmp]⟩
  · exact ⟨_, h, fun w => by simp [binOp, Op.intCmp]⟩
  · exact ⟨_, h, fun w => by simp [binOp, Op.intCmp]⟩
  · obtain ⟨m, hm, hK⟩ := h; exact ⟨_, hK, fun w => by subst hm; simp [binOp, go_sem]⟩
  · obtain ⟨m, hm, hK⟩ := h; exact ⟨_, hK, fun w => by subst hm; simp [binOp, go_sem]⟩
  · obtain ⟨m, hm, hK⟩ := h; exact ⟨_, hK, fun w => by subst hm; simp [binOp, go_sem]⟩
  · obtain ⟨m, hm, hK⟩ := h; exact ⟨_, hK, fun w => by subst hm; simp [binOp, go_sem]⟩
  · exact h.elim
theorem shiftK_sound {P : Program} {op : BinOp} {t : TypeId} {k k' : IntKind} {a b : Int} {K : Value → Prop} (h : shiftK op k a b K) : ∃ u, K u ∧ ∀ w : World, (binOp op t (.int k a) (.int k' b)).run P w = .ok u w := by
  unfold shiftK at h
  split at h
  · obtain ⟨h0, m, hm, hK⟩ := h; exact ⟨_, hK, fun w => by simp [binOp, Op.shift, show ¬ b < 0 by omega, hm]⟩
  · obtain ⟨h0, m, hm, hK⟩ := h; exact ⟨_, hK, fun w => by simp [binOp, Op.shift, show ¬ b < 0 by omega, hm]⟩
  · exact h.elim

abbrev one (x : Value) : AV := .p (.c (.v x))
/-- An operation that hands back a value and leaves the world as it is, whatever world of this kind: shown by hand. -/
structure QRun (P : Program) (w0 : World) (G : Gs) (S : List Ow) (f : Fr) (o : Oper) (K : AV → Prop) : Prop where
  out : ∃ v : AV, K v ∧ ∀ r a, FDen r f a → ∃ u, v.den r u ∧ ∀ w, Rel w0 G S r w → (execOp a.eval o).run P w = .ok (.value u) w

def getK (P : Program) (t : TypeId) (l : List CV) (off : Nat) (K : AV → Prop) : Prop :=
  match tAgg P t with
  | some false => (match l[off]? with | some c => K (.p (.c c)) | none => False)
  | some true => (match P.info? t with | some i => (match cut l off i.size with | some m => forceS i.size m fun m => K (.p (.agg m)) | none => False) | none => False)
  | none => False
/-- A load from memory that was there before. -/
def oldK (P : Program) (w0 : World) (G : Gs) (t : TypeId) (b off : Nat) (K : AV → Prop) : Prop :=
  match tAgg P t with
  | some false => ∃ x, CellsAt w0 G b off [x] ∧ K (one x)
  | some true => (match P.info? t with | some i => ∃ xs : List Value, CellsAt w0 G b off xs ∧ xs.length = i.size ∧ K (.p (.agg (xs.map .v))) | none => False)
  | none => False
def loadK (P : Program) (w0 : World) (G : Gs) (S : List Ow) (t : TypeId) (x : AV) (K : AV → Prop) : Prop :=
  match x with
  | .p (.c (.ref i off)) => (match S[i]? with
    | some (.cells _ l) => getK P t l off K
    | some (.row _ _ _ xs) => getK P t (xs.map .v) off K
    | _ => False)
  | .p (.c (.vref i off)) => (match S[i]? with
    | some (.view _ _ xs) => getK P t (xs.map .v) off K
    | _ => False)
  | .p (.c (.v (.pointer (some ⟨b, off, none⟩)))) => oldK P w0 G t b off K
  | _ => False
theorem getK_sound {P : Program} {t : TypeId} {l : List CV} {off : Nat} {K : AV → Prop} (h : getK P t l off K) {r : Env} {b : Nat} {us : List Value} (hl : denL r l us) (base : Nat) :
    ∃ v u, K v ∧ v.den r u ∧ ∀ w : World, (∀ j x, us[j]? = some x → w.cell? ⟨b, base + j, none⟩ = some x) → (Instr.loadAt t (.pointer (some ⟨b, base + off, none⟩))).run P w = .ok u w := by
  unfold getK at h
  split at h
  · rename_i ht
    split at h
    · rename_i c hc
      obtain ⟨u, hu, hd⟩ := denL_at hl hc
      exact ⟨_, u, h, hd, fun w hw => run_loadAt_one ht (hw _ _ hu)⟩
    · exact h.elim
  · rename_i ht
    split at h
    · rename_i i hi
      split at h
      · rename_i m hm
        obtain ⟨hle, rfl⟩ := cut_spec hm
        have hd := denL_take i.size (denL_drop off hl)
        have hlen := denL_length hl
        refine ⟨_, _, forceS_iff.1 h, ⟨_, rfl, hd⟩, fun w hw => run_loadAt_agg ht hi (by simp; omega) fun j u hj => ?_⟩
        rw [Nat.add_assoc]
        refine hw _ _ ?_
        rw [List.getElem?_take] at hj
        split at hj
        · rw [List.getElem?_drop] at hj; exact hj
        · cases hj
      · exact h.elim
    · exact h.elim
  · exact h.elim
theorem oldK_sound {P : Program} {w0 : World} {G : Gs} {t : TypeId} {b off : Nat} {K : AV → Prop} (h : oldK P w0 G t b off K) (r : Env) :
    ∃ v u, K v ∧ v.den r u ∧ ∀ (S : List Ow) (r' : Env) (w : World), Rel w0 G S r' w → (Instr.loadAt t (.pointer (some ⟨b, off, none⟩))).run P w = .ok u w := by
  unfold oldK at h
  split at h
  · rename_i ht
    obtain ⟨x, ⟨h1, h2, h3⟩, hK⟩ := h
    refine ⟨_, x, hK, by simp [AV.den, Pc.den, CV.den], fun S r' w hR => run_loadAt_one ht ?_⟩
    rw [hR.oldCell h1 h2]; simpa using h3 0 x rfl
  · rename_i ht
    split at h
    · rename_i i hi
      obtain ⟨xs, ⟨h1, h2, h3⟩, hl, hK⟩ := h
      refine ⟨_, .agg xs.toArray, hK, ⟨xs, rfl, denL_vals xs⟩, fun S r' w hR => run_loadAt_agg ht hi hl fun j u hj => ?_⟩
      rw [hR.oldCell h1 h2]; exact h3 j u hj
    · exact h.elim
  · exact h.elim
theorem own_cells {w : World} {base : Nat} {e : TypeId} {size n : Nat} {v : Value} {xs : List Value} {b : Nat} (h : w.ownsRow base e size v n xs) (hb : v.ownBlock = some b) : ∀ j x, xs[j]? = some x → w.cell? ⟨b, j, none⟩ = some x := by
  intro j x hj
  rcases h.2 with ⟨h0, _⟩ | ⟨g, cap, cur, hv, _, hh, _⟩
  · subst h0; simp [Value.ownBlock] at hb
  · subst hv
    simp [Value.ownBlock] at hb; subst hb
    obtain ⟨b', off, hA, _, hc⟩ := SlAt.of_own h j x hj
    injection hA with hA; injection hA with h1 h2
    subst h1; subst h2
    simpa using hc
theorem loadK_sound {P : Program} {w0 : World} {G : Gs} {S : List Ow} {t : TypeId} {x : AV} {K : AV → Prop} (h : loadK P w0 G S t x K) {r : Env} {w1 : World} (hR1 : Rel w0 G S r w1) {y : Value} (hx : x.den r y) :
    ∃ v u, K v ∧ v.den r u ∧ ∀ w : World, Below w1.heap.size w1 w → (Instr.loadAt t y).run P w = .ok u w := by
  unfold loadK at h
  split at h
  · rename_i i off
    simp only [AV.den, Pc.den, CV.den] at hx
    obtain ⟨b, hb, rfl⟩ := hx
    split at h
    · rename_i t' l hi
      obtain ⟨b', us, h1, h2, h3⟩ := hR1.own i _ hi
      rw [hb] at h1; injection h1 with h1; subst h1
      obtain ⟨v, u, hK, hd, hrun⟩ := getK_sound h (b := b) h3 0
      simp only [Nat.zero_add] at hrun
      refine ⟨v, u, hK, hd, fun w hw => hrun w fun j x hj => ?_⟩
      rw [hw.cell (p := ⟨b, j, none⟩) (hR1.new i b hb).1]
      simp [World.cell?, h2, hj]
    · rename_i e size n xs hi
      obtain ⟨v', h1, h2, h3⟩ := hR1.own i _ hi
      obtain ⟨v, u, hK, hd, hrun⟩ := getK_sound h (b := b) (r := r) (denL_vals xs) 0
      simp only [Nat.zero_add] at hrun
      refine ⟨v, u, hK, hd, fun w hw => hrun w fun j x hj => ?_⟩
      rw [hw.cell (p := ⟨b, j, none⟩) (hR1.new i b hb).1]
      exact own_cells h3 (h2.trans hb) j x hj
    · exact h.elim
  · rename_i i off
    simp only [AV.den, Pc.den, CV.den] at hx
    obtain ⟨b, o, n', c', hb, rfl⟩ := hx
    split at h
    · rename_i φ n xs hi
      obtain ⟨A, c, h1, h2, h3, h4, h5⟩ := hR1.own i _ hi
      rw [hb] at h1; injection h1 with h1; injection h1 with h1 h1n h1c; subst h1
      obtain ⟨v, u, hK, hd, hrun⟩ := getK_sound h (b := b) (r := r) (denL_vals xs) o
      refine ⟨v, u, hK, hd, fun w hw => hrun w fun j x hj => ?_⟩
      obtain ⟨b', off', hA, h6, _, h7⟩ := h5 j x hj
      injection hA with hA; injection hA with e1 e2; subst e1; subst e2
      rw [hw.cell (p := ⟨_, _, none⟩) h6]; exact h7
    · exact h.elim
  · rename_i b off
    simp only [AV.den, Pc.den, CV.den] at hx
    subst hx
    obtain ⟨v, u, hK, hd, hrun⟩ := oldK_sound h r
    exact ⟨v, u, hK, hd, fun w hw => hrun S r w (hR1.below hw)⟩
  · exact h.elim

/-- Where a field lies. -/
def fldOff (P : Program) (s : TypeId) (k : Nat) : Option Nat := match P.underlying s with
  | some (.struct fs) => (match fs[k]? with | some f => (match P.info? f.type with | some i => (match Nat.beq i.size 0 with | true => none | false => some f.offset) | none => none) | none => none)
  | _ => none
theorem run_fieldAt {P : Program} {s : TypeId} {k n : Nat} (h : fldOff P s k = some n) (b off : Nat) (w : World) : (Instr.fieldAt s (.pointer (some ⟨b, off, none⟩)) k).run P w = .ok (.pointer (some ⟨b, off + n, none⟩)) w := by
  unfold fldOff at h
  split at h
  · rename_i fs hs
    split at h
    · rename_i fl hf
      split at h
      · rename_i i hi
        split at h
        · cases h
        · rename_i hz
          injection h with h; subst h
          have hz' : ¬ i.size = 0 := fun e => by rw [e] at hz; cases hz
          simp [Instr.fieldAt, underlying, hs, hf, Instr.sureAddr, fieldPlace, run_sizeOf P fl.type w hi, hz', addr_add]
      · cases h
    · cases h
  · cases h
/-- What a field of a value is. -/
def fldK (P : Program) (s : TypeId) (l : List CV) (k : Nat) (K : AV → Prop) : Prop := match P.underlying s with
  | some (.struct fs) => (match fs[k]? with | some f => getK P f.type l f.offset K | none => False)
  | _ => False
theorem run_part {P : Program} {t : TypeId} {l : List CV} {off : Nat} {K : AV → Prop} (h : getK P t l off K) {r : Env} {us : List Value} (hl : denL r l us) :
    ∃ v u, K v ∧ v.den r u ∧ ∀ w : World, (part t us.toArray off).run P w = .ok u w := by
  unfold getK at h
  split at h
  · rename_i ht
    split at h
    · rename_i c hc
      obtain ⟨u, hu, hd⟩ := denL_at hl hc
      exact ⟨_, u, h, hd, fun w => by simp [part, run_isAgg w ht, hu]⟩
    · exact h.elim
  · rename_i ht
    split at h
    · rename_i i hi
      split at h
      · rename_i m hm
        obtain ⟨hle, rfl⟩ := cut_spec hm
        have hd := denL_take i.size (denL_drop off hl)
        refine ⟨_, _, forceS_iff.1 h, ⟨_, rfl, hd⟩, fun w => ?_⟩
        simp [part, run_isAgg w ht, run_sizeOf P t w hi, List.take_drop]
      · exact h.elim
    · exact h.elim
  · exact h.elim
end Go.Proofs.Ytmjfgnnefcimiaa
namespace Go.Proofs.Ytmjfgnnefcimiaa
open Go.RowKit

mutual
/-- Names own entries below n only. -/
def CV.bnd (n : Nat) : CV → Bool
  | .ref i _ => Nat.blt i n
  | .vref i _ => Nat.blt i n
  | .row i => Nat.blt i n
  | .sl i _ _ _ => Nat.blt i n
  | .mp i => Nat.blt i n
  | .clo _ cap => bndL n cap
  | _ => true
def bndL (n : Nat) : List CV → Bool
  | [] => true
  | c :: l => match c.bnd n with | true => bndL n l | false => false
end
def Pc.bnd (n : Nat) : Pc → Bool
  | .c x => x.bnd n
  | .agg l => bndL n l
def pbndL (n : Nat) : List Pc → Bool
  | [] => true
  | c :: l => match c.bnd n with | true => pbndL n l | false => false
def AV.bnd (n : Nat) : AV → Bool
  | .p x => x.bnd n
  | .tup l => pbndL n l
def Fr.bnd (n : Nat) : Fr → Bool
  | [] => true
  | (_, x) :: f => match x.bnd n with | true => Fr.bnd n f | false => false
/-- The two agree below n. -/
def Env.agree (n : Nat) (a b : Env) : Prop := ∀ i, i < n → a.blk i = b.blk i ∧ a.val i = b.val i
mutual
theorem CV.den_agree {n : Nat} {a b : Env} (h : a.agree n b) : ∀ (c : CV) (u : Value), c.bnd n = true → c.den a u → c.den b u
  | .v x, u, _, hd => by simpa only [CV.den] using hd
  | .ref i off, u, hb, hd => by
    simp only [CV.den] at hd ⊢; obtain ⟨x, hx, hu⟩ := hd
    exact ⟨x, by rw [← (h i (by simpa [CV.bnd, Nat.blt_eq] using hb)).1]; exact hx, hu⟩
  | .vref i off, u, hb, hd => by
    simp only [CV.den] at hd ⊢; obtain ⟨x, o, m, c, hx, hu⟩ := hd
    exact ⟨x, o, m, c, by rw [← (h i (by simpa [CV.bnd, Nat.blt_eq] using hb)).2]; exact hx, hu⟩
  | .row i, u, hb, hd => by
    simp only [CV.den] at hd ⊢
    rw [← (h i (by simpa [CV.bnd, Nat.blt_eq] using hb)).2]; exact hd
  | .sl i off m c, u, hb, hd => by
    simp only [CV.den] at hd ⊢; obtain ⟨x, hx, hu⟩ := hd
    exact ⟨x, by rw [← (h i (by simpa [CV.bnd, Nat.blt_eq] using hb)).1]; exact hx, hu⟩
  | .mp i, u, hb, hd => by
    simp only [CV.den] at hd ⊢; obtain ⟨x, hx, hu⟩ := hd
    exact ⟨x, by rw [← (h i (by simpa [CV.bnd, Nat.blt_eq] using hb)).1]; exact hx, hu⟩
  | .clo f cap, u, hb, hd => by
    simp only [CV.den] at hd ⊢; obtain ⟨us, hu, hl⟩ := hd
    exact ⟨us, hu, denL_agree h cap us (by simpa only [CV.bnd] using hb) hl⟩
  | .any, u, _, hd => by simp only [CV.den]
theorem denL_agree {n : Nat} {a b : Env} (h : a.agree n b) : ∀ (l : List CV) (us : List Value), bndL n l = true → denL a l us → denL b l us
  | [], us, _, hd => by simpa only [denL] using hd
  | c :: cs, us, hb, hd => by
    simp only [denL] at hd ⊢; obtain ⟨u, l, hu, hc, hl⟩ := hd
    simp only [bndL] at hb
    split at hb
    · rename_i h1; exact ⟨u, l, hu, CV.den_agree h c u h1 hc, denL_agree h cs l hb hl⟩
    · cases hb
end
theorem Pc.den_agree {n : Nat} {a b : Env} (h : a.agree n b) : ∀ (c : Pc) (u : Value), c.bnd n = true → c.den a u → c.den b u
  | .c x, u, hb, hd => CV.den_agree h x u hb hd
  | .agg l, u, hb, hd => by obtain ⟨us, hu, hl⟩ := hd; exact ⟨us, hu, denL_agree h l us hb hl⟩
theorem pdenL_agree {n : Nat} {a b : Env} (h : a.agree n b) : ∀ (l : List Pc) (us : List Value), pbndL n l = true → pdenL a l us → pdenL b l us
  | [], us, _, hd => hd
  | c :: cs, us, hb, hd => by
    obtain ⟨u, l, hu, hc, hl⟩ := hd
    simp only [pbndL] at hb
    split at hb
    · rename_i h1; exact ⟨u, l, hu, Pc.den_agree h c u h1 hc, pdenL_agree h cs l hb hl⟩
    · cases hb
theorem AV.den_agree {n : Nat} {a b : Env} (h : a.agree n b) : ∀ (c : AV) (u : Value), c.bnd n = true → c.den a u → c.den b u
  | .p x, u, hb, hd => Pc.den_agree h x u hb hd
  | .tup l, u, hb, hd => by obtain ⟨us, hu, hl⟩ := hd; exact ⟨us, hu, pdenL_agree h l us hb hl⟩
theorem Fr.bnd_get {n : Nat} : ∀ {f : Fr} (k : Nat), f.bnd n = true → (f.get k).bnd n = true
  | [], k, _ => rfl
  | (d, x) :: f, k, h => by
    simp only [Fr.bnd] at h
    split at h
    · rename_i h1
      simp only [Fr.get]
      split
      · exact h1
      · exact Fr.bnd_get k h
    · cases h
theorem FDen.agree {n : Nat} {a b : Env} {f : Fr} {x : Act} (h : FDen a f x) (hab : a.agree n b) (hb : f.bnd n = true) : FDen b f x :=
  fun k => AV.den_agree hab _ _ (Fr.bnd_get k hb) (h k)

/-! Own entry i becomes another row: what named it names nothing. -/
mutual
def CV.names (i : Nat) : CV → Bool
  | .ref j _ => Nat.beq i j
  | .vref j _ => Nat.beq i j
  | .row j => Nat.beq i j
  | .sl j _ _ _ => Nat.beq i j
  | .mp j => Nat.beq i j
  | .clo _ cap => namesL i cap
  | _ => false
def namesL (i : Nat) : List CV → Bool
  | [] => false
  | c :: l => match c.names i with | true => true | false => namesL i l
end
abbrev But (i : Nat) (a b : Env) : Prop := ∀ j, j ≠ i → a.blk j = b.blk j ∧ a.val j = b.val j
mutual
theorem CV.den_but {i : Nat} {a b : Env} (h : But i a b) : ∀ (c : CV) (u : Value), c.names i = false → c.den a u → c.den b u
  | .v x, u, _, hd => by simpa only [CV.den] using hd
  | .ref j off, u, hb, hd => by
    have hj : j ≠ i := fun e => by subst e; simp [CV.names] at hb
    simp only [CV.den] at hd ⊢; obtain ⟨x, hx, hu⟩ := hd
    exact ⟨x, by rw [← (h j hj).1]; exact hx, hu⟩
  | .vref j off, u, hb, hd => by
    have hj : j ≠ i := fun e => by subst e; simp [CV.names] at hb
    simp only [CV.den] at hd ⊢; obtain ⟨x, o, m, c, hx, hu⟩ := hd
    exact ⟨x, o, m, c, by rw [← (h j hj).2]; exact hx, hu⟩
  | .row j, u, hb, hd => by
    have hj : j ≠ i := fun e => by subst e; simp [CV.names] at hb
    simp only [CV.den] at hd ⊢; rw [← (h j hj).2]; exact hd
  | .sl j off m c, u, hb, hd => by
    have hj : j ≠ i := fun e => by subst e; simp [CV.names] at hb
    simp only [CV.den] at hd ⊢; obtain ⟨x, hx, hu⟩ := hd
    exact ⟨x, by rw [← (h j hj).1]; exact hx, hu⟩
  | .mp j, u, hb, hd => by
    have hj : j ≠ i := fun e => by subst e; simp [CV.names] at hb
    simp only [CV.den] at hd ⊢; obtain ⟨x, hx, hu⟩ := hd
    exact ⟨x, by rw [← (h j hj).1]; exact hx, hu⟩
  | .clo f cap, u, hb, hd => by
    simp only [CV.den] at hd ⊢; obtain ⟨us, hu, hl⟩ := hd
    exact ⟨us, hu, denL_but h cap us (by simpa only [CV.names] using hb) hl⟩
  | .any, u, _, hd => by simp only [CV.den]
theorem denL_but {i : Nat} {a b : Env} (h : But i a b) : ∀ (l : List CV) (us : List Value), namesL i l = false → denL a l us → denL b l us
  | [], us, _, hd => by simpa only [denL] using hd
  | c :: cs, us, hb, hd => by
    simp only [denL] at hd ⊢; obtain ⟨u, l, hu, hc, hl⟩ := hd
    simp only [namesL] at hb
    split at hb
    · cases hb
    · rename_i h1; exact ⟨u, l, hu, CV.den_but h c u h1 hc, denL_but h cs l hb hl⟩
end
def CV.kill (i : Nat) (c : CV) : CV := match c.names i with | true => .any | false => c
theorem CV.kill_den {i : Nat} {a b : Env} (h : But i a b) {c : CV} {u : Value} (hd : c.den a u) : (c.kill i).den b u := by
  unfold CV.kill
  split
  · simp only [CV.den]
  · rename_i hn; exact CV.den_but h c u hn hd
def killL (i : Nat) : List CV → List CV
  | [] => []
  | c :: l => c.kill i :: killL i l
theorem killL_den {i : Nat} {a b : Env} (h : But i a b) : ∀ {l : List CV} {us : List Value}, denL a l us → denL b (killL i l) us
  | [], us, hd => by simpa only [killL, denL] using hd
  | c :: l, us, hd => by
    simp only [killL, denL] at hd ⊢; obtain ⟨u, m, hu, hc, hl⟩ := hd
    exact ⟨u, m, hu, CV.kill_den h hc, killL_den h hl⟩
def Pc.kill (i : Nat) : Pc → Pc
  | .c x => .c (x.kill i)
  | .agg l => .agg (killL i l)
theorem Pc.kill_den {i : Nat} {a b : Env} (h : But i a b) {c : Pc} {u : Value} (hd : c.den a u) : (c.kill i).den b u := by
  cases c with
  | c x => exact CV.kill_den (c := x) h hd
  | agg l => obtain ⟨us, hu, hl⟩ := hd; exact ⟨us, hu, killL_den h hl⟩
def pkillL (i : Nat) : List Pc → List Pc
  | [] => []
  | c :: l => c.kill i :: pkillL i l
theorem pkillL_den {i : Nat} {a b : Env} (h : But i a b) : ∀ {l : List Pc} {us : List Value}, pdenL a l us → pdenL b (pkillL i l) us
  | [], us, hd => hd
  | c :: l, us, hd => by obtain ⟨u, m, hu, hc, hl⟩ := hd; exact ⟨u, m, hu, Pc.kill_den h hc, pkillL_den h hl⟩
def AV.kill (i : Nat) : AV → AV
  | .p x => .p (x.kill i)
  | .tup l => .tup (pkillL i l)
theorem AV.kill_den {i : Nat} {a b : Env} (h : But i a b) {c : AV} {u : Value} (hd : c.den a u) : (c.kill i).den b u := by
  cases c with
  | p x => exact Pc.kill_den (c := x) h hd
  | tup l => obtain ⟨us, hu, hl⟩ := hd; exact ⟨us, hu, pkillL_den h hl⟩
def Fr.kill (i : Nat) : Fr → Fr
  | [] => []
  | (d, x) :: f => (d, x.kill i) :: Fr.kill i f
theorem Fr.kill_get {i : Nat} : ∀ (f : Fr) (k : Nat), (Fr.kill i f).get k = (f.get k).kill i
  | [], k => rfl
  | (d, x) :: f, k => by simp only [Fr.kill, Fr.get]; split <;> first | rfl | exact Fr.kill_get f k
theorem FDen.kill {i : Nat} {a b : Env} {f : Fr} {x : Act} (hd : FDen a f x) (h : But i a b) : FDen b (Fr.kill i f) x := fun k => by
  rw [Fr.kill_get]; exact AV.kill_den h (hd k)
def Ow.kill (i : Nat) : Ow → Ow
  | .cells t l => .cells t (killL i l)
  | o => o
def killS (i : Nat) : List Ow → List Ow
  | [] => []
  | o :: S => o.kill i :: killS i S
theorem killS_get {i : Nat} : ∀ (S : List Ow) (k : Nat), (killS i S)[k]? = (S[k]?).map (Ow.kill i)
  | [], k => by simp [killS]
  | o :: S, 0 => by simp [killS]
  | o :: S, k + 1 => by simp [killS, killS_get S k]
theorem killS_length {i : Nat} : ∀ S : List Ow, (killS i S).length = S.length
  | [] => rfl
  | o :: S => by simp [killS, killS_length S]

/-! New entries. -/
def Env.set (r : Env) (i : Nat) (b : Option Nat) (v : Option Value) : Env := ⟨fun j => if j = i then b else r.blk j, fun j => if j = i then v else r.val j⟩
section
variable {w0 : World} {G : Gs} {S : List Ow} {r : Env} {w : World}
theorem Rel.le_new (h : Rel w0 G S r w) (b : Option Nat) (v : Option Value) : r.le (r.set S.length b v) := by
  refine ⟨fun i x hx => ?_, fun i x hx => ?_⟩
  · simp only [Env.set]; rw [if_neg]
    · exact hx
    · rintro rfl; rw [h.outB _ (Nat.le_refl _)] at hx; cases hx
  · simp only [Env.set]; rw [if_neg]
    · exact hx
    · rintro rfl; rw [h.outV _ (Nat.le_refl _)] at hx; cases hx
theorem get_snoc {α : Type} {l : List α} {x y : α} {i : Nat} (h : (l ++ [x])[i]? = some y) : (i < l.length ∧ l[i]? = some y) ∨ (i = l.length ∧ x = y) := by
  rw [List.getElem?_append] at h
  split at h
  · exact .inl ⟨by assumption, h⟩
  · rename_i hi
    have : i - l.length = 0 := by
      rcases Nat.eq_zero_or_pos (i - l.length) with h1 | h1
      · exact h1
      · rw [List.getElem?_eq_none (by simp; omega)] at h; cases h
    rw [this] at h
    simp at h
    exact .inr ⟨by omega, h⟩
/-- A new entry whose block is new (or that has none). -/
theorem Rel.snoc (h : Rel w0 G S r w) {w' : World} (hb : Below w.heap.size w w') {o : Ow} {b : Option Nat} {v : Option Value} (hnb : ∀ x, b = some x → w.heap.size ≤ x ∧ x < w'.heap.size) (ho : o.holds (r.set S.length b v) w' S.length) :
    Rel w0 G (S ++ [o]) (r.set S.length b v) w' := by
  have h' := h.below hb
  have hle := h.le_new b v
  refine ⟨h'.os, h'.tape, h'.output, h'.size, h'.old, fun i o' hi => ?_, fun i j x hx hy => ?_, fun i x hx => ?_, fun i hi => ?_, fun i hi => ?_, fun i g hg => hle.blk _ _ (h.first i g hg)⟩
  · rcases get_snoc hi with ⟨h1, h2⟩ | ⟨h1, h2⟩
    · refine Ow.holds_block (Ow.holds_mono hle (h.own i o' h2) (by simp only [Env.set]; rw [if_neg (by omega)]) (fun k x hk => ?_)) (fun x hx => hb.block x ?_) hb.size (fun x hx _ => hb.block x hx)
      · simp only [Env.set] at hk
        split at hk
        · exact .inr (hnb x hk).1
        · exact .inl hk
      · simp only [Env.set] at hx
        rw [if_neg (by omega)] at hx
        exact (h.new i x hx).1
    · subst h1; subst h2; exact ho
  · simp only [Env.set] at hx hy
    split at hx <;> split at hy
    · omega
    · have h1 := (hnb x hx).1
      have h2 := (h.new _ _ hy).1
      omega
    · have h1 := (hnb x hy).1
      have h2 := (h.new _ _ hx).1
      omega
    · exact h.inj _ _ _ hx hy
  · simp only [Env.set] at hx
    split at hx
    · refine ⟨(hnb x hx).2, fun hlt => ?_⟩
      have := (hnb x hx).1
      have := h.size
      omega
    · exact h'.new i x hx
  · simp only [Env.set]; rw [if_neg (by simp at hi; omega)]; exact h.outB i (by simp at hi; omega)
  · simp only [Env.set]; rw [if_neg (by simp at hi; omega)]; exact h.outV i (by simp at hi; omega)
/-- The block of own entry i turned: the entry anew. -/
theorem Rel.setBlock (h : Rel w0 G S r w) {i b : Nat} (hi : r.blk i = some b) {w' : World} (hg : w.grownBy w' (some b)) {o : Ow} (ho : o.holds r w' i) (hil : i < S.length) : Rel w0 G (S.set i o) r w' := by
  refine ⟨hg.os.trans h.os, hg.tape.trans h.tape, hg.output.trans h.output, Nat.le_trans h.size hg.size, fun k hk hkG => ?_, fun j o' hj => ?_, h.inj, fun j x hx => ⟨Nat.lt_of_lt_of_le (h.new j x hx).1 hg.size, (h.new j x hx).2⟩,
    fun j hj => h.outB j (by simpa using hj), fun j hj => h.outV j (by simpa using hj), h.first⟩
  · rw [hg.block k (Nat.lt_of_lt_of_le hk h.size) (fun e => by injection e with e; subst e; exact hkG ((h.new i k hi).2 hk))]
    exact h.old k hk hkG
  · by_cases hij : i = j
    · subst hij
      rw [List.getElem?_set_self hil] at hj
      injection hj with hj; subst hj; exact ho
    · rw [List.getElem?_set_ne hij] at hj
      exact Ow.holds_block (h.own j o' hj) (fun x hx => hg.block x (h.new j x hx).1 (fun e => by injection e with e; subst e; exact hij (h.inj i j _ hi hx))) hg.size (fun x hx hno => hg.block x hx (fun e => by injection e with e; subst e; exact hno i hi))
end
end Go.Proofs.Ytmjfgnnefcimiaa
namespace Go.Proofs.Ytmjfgnnefcimiaa
open Go.RowKit

theorem bit_test (m v : Nat) (hm : m < 4294967296) : (bits .and .u32 ((m : Int) / 2 ^ v) 1 == 0) = !(m.testBit v) := by
  have e1 : (m : Int) / 2 ^ v = ((m / 2 ^ v : Nat) : Int) := by simp
  have e2 : m / 2 ^ v < 4294967296 := Nat.lt_of_le_of_lt (Nat.div_le_self _ _) hm
  have e3 := u32_and_nat (m / 2 ^ v) 1 e2 (by omega)
  rw [e1, show (1 : Int) = ((1 : Nat) : Int) from rfl, e3, Nat.and_one_is_mod, Nat.testBit_eq_decide_div_mod_eq]
  have e4 : m / 2 ^ v % 2 < 2 := Nat.mod_lt _ (by omega)
  rcases (by omega : m / 2 ^ v % 2 = 0 ∨ m / 2 ^ v % 2 = 1) with h | h <;> simp [h]
theorem bit_set (m d : Nat) (hm : m < 4294967296) (hd : d < 32) : bits .or .u32 (m : Int) (2 ^ d % 4294967296) = ((m ||| 2 ^ d : Nat) : Int) := by
  have h1 : 2 ^ d < 2 ^ 32 := Nat.pow_lt_pow_right (by omega) hd
  have h2 : 2 ^ d < 4294967296 := by simpa using h1
  have e1 : (2 : Int) ^ d % 4294967296 = ((2 ^ d : Nat) : Int) := by
    rw [show (2 : Int) ^ d = ((2 ^ d : Nat) : Int) by simp]
    obtain ⟨q, hq⟩ : ∃ q, 2 ^ d = q := ⟨_, rfl⟩
    rw [hq] at h2 ⊢
    omega
  rw [e1]
  exact u32_or_nat m (2 ^ d) hm h2
theorem reads_var {o : BOp} (hf : formedB o = true) : ∀ x ∈ reads o, 0 ≤ x ∧ x < 28 := by
  obtain ⟨hI, hd, ha, hb, hN⟩ := formed_parts hf
  intro x hx
  unfold reads at hx
  rw [List.mem_append] at hx
  rcases hx with hx | hx
  · split at hx
    · rename_i h
      rw [h] at ha
      simp [fieldB] at ha hx
      subst hx; omega
    · simp at hx
  · split at hx
    · rename_i h
      simp only [Bool.and_eq_true] at h
      rw [h.1] at hb
      simp [fieldB] at hb hx
      subst hx; omega
    · simp at hx
theorem writes_var {o : BOp} (hf : formedB o = true) : writes o < 28 := by
  obtain ⟨hI, hd, ha, hb, hN⟩ := formed_parts hf
  unfold writes
  split
  · rename_i h
    rw [h] at hd
    simp [fieldB] at hd
    omega
  · omega

end Go.Proofs.Ytmjfgnnefcimiaa
