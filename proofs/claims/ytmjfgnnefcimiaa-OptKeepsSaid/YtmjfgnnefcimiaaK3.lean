/- More words on memory: cells of one's own that a call turns. Maps with integer keys: the three operations met in the walk. Maps with integer keys and integer elements. Walks: one step of the program's validity check. Walks: the operations on words, of the program (a map of functions) and of the reference (a switch). A region that draws its order and ends in a tail whose order is forced: all but the tail walked once, in the world behind the draw. States that are known part by part: what a frame's slots and the blocks of a call's own hold, the rest of memory being as it was. The words. The optimizer's passes as plain functions. A slice that was just built. Walks: one step of the program's validity check, of a well-formed operation. -/
import Derived.Test.YtmjfgnnefcimiaaK1
namespace Go.Proofs.Ytmjfgnnefcimiaa
open Go.RowKit

theorem Has.alloc {w : World} {g : Nat} {cs : List Value} (h : Has w g cs) (o : Obj) (hg : g < w.heap.size) : Has (w.alloc o) g cs :=
  h.below (B := w.heap.size) ((Below.refl _ w).alloc (Nat.le_refl _) o) hg
theorem Has.drew {w : World} {g : Nat} {cs : List Value} (h : Has w g cs) : Has w.drew g cs := h
theorem Has.drewN {w : World} {g : Nat} {cs : List Value} (h : Has w g cs) (n : Nat) : Has (w.drewN n) g cs := h
theorem Has.setFar {w : World} {g : Nat} {cs : List Value} (h : Has w g cs) {p : Addr} (hp : g ≠ p.block) (u : Value) : Has (w.setCell p u) g cs := fun i v hv => by
  obtain ⟨h1, h2⟩ := h i v hv
  have hh := Below.heap_setCell w p u g hp
  exact ⟨(World.cell?_of_block (w := w) (a := ⟨g, i, none⟩) hh).trans h1, (World.frozen?_of_block (w := w) (a := ⟨g, i, none⟩) hh).trans h2⟩
theorem Has.new (w : World) (t : TypeId) (cs : List Value) : Has (w.alloc (.cells cs.toArray t)) w.heap.size cs := fun i u hu =>
  ⟨by rw [World.cell?_alloc_new]; simpa using hu, (RowIs.new w t cs.toArray).frozen i⟩
theorem Has.only {w w' : World} {g k : Nat} {cs : List Value} (h : Has w g cs) (hb : w.grownBy w' (some k)) (hne : g ≠ k) (hg : g < w.heap.size) : Has w' g cs := fun i v hv => by
  obtain ⟨h1, h2⟩ := h i v hv
  have hh := hb.block g hg (fun e => hne (by injection e))
  exact ⟨(World.cell?_of_block (w := w) (a := ⟨g, i, none⟩) hh).trans h1, (World.frozen?_of_block (w := w) (a := ⟨g, i, none⟩) hh).trans h2⟩

theorem below_only {B g : Nat} {w W w1 : World} (h : Below B w W) (hb : W.grownBy w1 (some g)) (hg : B ≤ g) (hB : B ≤ W.heap.size) : Below B w w1 :=
  h.grown hb hB (fun k e => by injection e with e; omega)

/-- A test of two numbers, as the walk writes it. -/
theorem beq_of {a b : Int} (h : a = b) : (a == b) = true := by simp [h]
theorem beq_ne {a b : Int} (h : a ≠ b) : (a == b) = false := by simp [h]

end Go.Proofs.Ytmjfgnnefcimiaa
namespace Go.Proofs.Ytmjfgnnefcimiaa
open Go.RowKit
open Go.Maps (Keyed)

section
variable {ops : Array Oper} {rest : List Oper} {o : Oper} {a : Act} {Q : Exit → Act → World → Prop}
variable {R : Value → Option (DataW Unit × List MemPlace)} {mk : Int → Value} {cd : Int → DataW Unit} {good : Int → Prop} {b n : Nat} {f : Int → Option Int}

theorem wpList_imap_del (w : World) (hg : o.guard = none) (m x : Operand) (t : TypeId) (hop : o.op = Op.call { callee := Callee.builtin Builtin.delete, args := #[m, x], argTypes := #[t, 3] })
    (e : TypeId) (ht : Try.prog.underlying t = some (.map 3 e)) (hm : a.eval m = .map (some b)) (h : IMap R cd w b n f) (k : Int) (hx : a.eval x = .int .i64 k) (hk : (Lit.int .i64 k).wf = true)
    (hK : ∀ w', IMap R cd w' b n (mdel f k) → w.grownBy w' (some b) → wpList Try.prog ops Q rest (a.put o.dst (.tuple #[])) w') :
    wpList Try.prog ops Q (o :: rest) a w := by
  refine wpList_plain hg fun K' hK' => ?_
  obtain ⟨w', hrun, r1, r2⟩ := h.del ht o.type hk
  unfold Oper.wp
  simp [execOp, hop, resolve, invoke, builtin, hm, hx, hrun, Result.andThen]
  exact hK' _ _ (hK w' r1 r2)

end
def fdel (f : Int → Option Int) (k : Nat) : Int → Option Int := fun j => if 20 ≤ j ∧ j < 20 + (k : Int) then none else f j
theorem fdel_zero (f : Int → Option Int) : fdel f 0 = f := by funext j; unfold fdel; rw [if_neg (by omega)]
theorem fdel_succ (f : Int → Option Int) (k : Nat) (j : Int) : mdel (fdel f k) (20 + (k : Int)) j = fdel f (k + 1) j := by
  unfold mdel fdel
  by_cases h : j = 20 + (k : Int)
  · rw [if_pos h, if_pos (by omega)]
  · rw [if_neg h]
    by_cases h2 : 20 ≤ j ∧ j < 20 + (k : Int)
    · rw [if_pos h2, if_pos (by omega)]
    · rw [if_neg h2, if_neg (by omega)]
end Go.Proofs.Ytmjfgnnefcimiaa
namespace Go.Proofs.Ytmjfgnnefcimiaa
open Go.RowKit

noncomputable abbrev u32R : Value → Option (DataW Unit × List MemPlace) := plainElem Try.prog 24
noncomputable abbrev i64R : Value → Option (DataW Unit × List MemPlace) := plainElem Try.prog 3
abbrev u32D (x : Int) : DataW Unit := .lit (.int .u32 x)
abbrev i64D (x : Int) : DataW Unit := .lit (.int .i64 x)
theorem u32Elems : Elems u32R (.int .u32) u32D word where
  to x hx := plainElem_int Try.underlying24 (wf_word hx)
  from_ v x ps h := by
    obtain ⟨c, rfl, hc, _⟩ := plainElem_int_inv Try.underlying24 h
    have h1 : (DataW.lit (Lit.int .u32 x) : DataW Unit) = .lit (.int .u32 c) := congrArg Prod.fst hc
    have h2 := DataW.lit.inj h1
    have h3 := (Lit.int.inj h2).2
    rw [h3]
theorem i64Elems : Elems i64R (.int .i64) i64D mid where
  to x hx := plainElem_int Try.underlying3 (wf_mid hx)
  from_ v x ps h := by
    obtain ⟨c, rfl, hc, _⟩ := plainElem_int_inv Try.underlying3 h
    have h1 : (DataW.lit (Lit.int .i64 x) : DataW Unit) = .lit (.int .i64 c) := congrArg Prod.fst hc
    have h2 := DataW.lit.inj h1
    have h3 := (Lit.int.inj h2).2
    rw [h3]
theorem zero_u32 (w : World) : (zeroValue 24).run Try.prog w = .ok (.int .u32 0) w := by simp [go_sem]
theorem zero_i64 (w : World) : (zeroValue 3).run Try.prog w = .ok (.int .i64 0) w := by simp [go_sem]
theorem look_u32 {w : World} {b n : Nat} {f : Int → Option Int} (h : IMap u32R u32D w b n f) {k : Int} (hk : (Lit.int .i64 k).wf = true) :
    (Instr.lookup 56 (.map (some b)) (.int .i64 k) true).run Try.prog w = .ok (.tuple #[.int .u32 ((f k).getD 0), .bool (f k).isSome]) w := by
  have := h.look u32Elems Try.underlying56 (_x0 := 0) (zero_u32 w) (zd := u32D 0) (plainElem_int Try.underlying24 (by decide)) (fun v ps hv => u32Elems.from_ v 0 ps hv) hk
  rw [this]
  cases f k <;> rfl
theorem look_i64 {w : World} {b n : Nat} {f : Int → Option Int} (h : IMap i64R i64D w b n f) {k : Int} (hk : (Lit.int .i64 k).wf = true) :
    (Instr.lookup 64 (.map (some b)) (.int .i64 k) true).run Try.prog w = .ok (.tuple #[.int .i64 ((f k).getD 0), .bool (f k).isSome]) w := by
  have := h.look i64Elems Try.underlying64 (_x0 := 0) (zero_i64 w) (zd := i64D 0) (plainElem_int Try.underlying3 (by decide)) (fun v ps hv => i64Elems.from_ v 0 ps hv) hk
  rw [this]
  cases f k <;> rfl
end Go.Proofs.Ytmjfgnnefcimiaa
namespace Go.Proofs.Ytmjfgnnefcimiaa
open Go.RowKit

def ckRow (s : Ck) : List Value := [.int .i64 (s.marks : Int), .int .u32 (s.written : Int), .bool s.changed]
/-- What the checker's one step leaves: its three cells, and nothing else of what lay there. -/
def CkPost (g : Nat) (w : World) (r : Option Ck) (e : Ending) (w' : World) : Prop :=
  e = .returned (.bool r.isSome) ∧ w.grownBy w' (some g) ∧ ∀ s, r = some s → Has w' g (ckRow s)

theorem post_none {g : Nat} {w w' : World} {r : Option Ck} {b : Bool} (hr : r = none) (hb : b = false) (h : w.grownBy w' (some g)) : CkPost g w r (.returned (.bool b)) w' := by
  subst hr; subst hb
  exact ⟨rfl, h, fun s hs => by cases hs⟩

theorem post_some {g : Nat} {w w' : World} {r : Option Ck} {b : Bool} {s : Ck} (hr : r = some s) (hb : b = true) (h : w.grownBy w' (some g)) (hc : Has w' g (ckRow s)) : CkPost g w r (.returned (.bool b)) w' := by
  subst hr; subst hb
  exact ⟨rfl, h, fun s' hs => by cases hs; exact hc⟩

section
variable (g : Nat) (s : Ck) (o : BOp) (last exit : Bool) (w : World)

/-- The operation is not well formed. -/
theorem next_unformed (hg : Has w g (ckRow s)) (h : formedB o = false) :
    Calls Try.prog 70 #[.pointer (some ⟨g, 0, none⟩), opV o, .bool last, .bool exit] w (CkPost g w (ckNext s o last exit)) := by
  have hr : Hid (ckNext s o last exit = none) := by unfold Hid ckNext; simp [h]
  have hglt := hg.lt
  clear hg
  unfold formedB at h
  unfold opV
  by_cases hI : isOp o.code = true
  · by_cases hd : fieldB (hasD o.code) o.d = true
    · by_cases ha : fieldB (hasA o.code) o.a = true
      · by_cases hb : fieldB (hasB o.code) o.b = true
        · have hN : hasN o.code = false ∧ (o.n == 0) = false := by simpa [hI, hd, ha, hb] using h
          obtain ⟨hN, h0⟩ := hN
          have h1 : (o.n != 0) = true := by simpa using h0
          clear h
          go_enter Try.func70, Try.ntmps70
          go_wp2_with (first | (go_at_call 73; refine (shapeOf_any _ _).mono ?_; rintro e w1 ⟨rfl, hb1⟩; obtain ⟨hc1, hf1⟩ := bcell hb1; have hz1 := hb1.size; try simp only [World.size_alloc] at hz1; have hy1_0 : w.heap.size < w1.heap.size := (by omega); have hc1_0 := fun o => hc1 (w.heap.size) o (by first | omega | (simp; done) | (simp; omega)); have hf1_0 := fun o => hf1 (w.heap.size) o (by first | omega | (simp; done) | (simp; omega))) | (go_at_call 94; refine (field_ir _ _ _).mono ?_; rintro e w' ⟨rfl, rfl⟩))
          go_ret
          exact post_none hr.out rfl (by repeat (first | exact World.grownBy.refl _ _ | assumption | (with_reducible refine only_drew ?_) | (with_reducible refine only_drewN ?_ _) | (with_reducible refine only_alloc ?_ _) | (with_reducible refine only_setCell ?_ (by first | exact .inl rfl | (right; simp; omega)) _) | (with_reducible refine only_below ?_ (by assumption) (by first | exact Nat.le_refl _ | assumption | (simp; done) | (simp; omega) | omega))))
        · have hb' : fieldB (hasB o.code) o.b = false := by simpa using hb
          clear h hb
          go_enter Try.func70, Try.ntmps70
          go_wp2_with (first | (go_at_call 73; refine (shapeOf_any _ _).mono ?_; rintro e w1 ⟨rfl, hb1⟩; obtain ⟨hc1, hf1⟩ := bcell hb1; have hz1 := hb1.size; try simp only [World.size_alloc] at hz1; have hy1_0 : w.heap.size < w1.heap.size := (by omega); have hc1_0 := fun o => hc1 (w.heap.size) o (by first | omega | (simp; done) | (simp; omega)); have hf1_0 := fun o => hf1 (w.heap.size) o (by first | omega | (simp; done) | (simp; omega))) | (go_at_call 94; refine (field_ir _ _ _).mono ?_; rintro e w' ⟨rfl, rfl⟩))
          go_ret
          exact post_none hr.out rfl (by repeat (first | exact World.grownBy.refl _ _ | assumption | (with_reducible refine only_drew ?_) | (with_reducible refine only_drewN ?_ _) | (with_reducible refine only_alloc ?_ _) | (with_reducible refine only_setCell ?_ (by first | exact .inl rfl | (right; simp; omega)) _) | (with_reducible refine only_below ?_ (by assumption) (by first | exact Nat.le_refl _ | assumption | (simp; done) | (simp; omega) | omega))))
      · have ha' : fieldB (hasA o.code) o.a = false := by simpa using ha
        clear h ha
        go_enter Try.func70, Try.ntmps70
        go_wp2_with (first | (go_at_call 73; refine (shapeOf_any _ _).mono ?_; rintro e w1 ⟨rfl, hb1⟩; obtain ⟨hc1, hf1⟩ := bcell hb1; have hz1 := hb1.size; try simp only [World.size_alloc] at hz1; have hy1_0 : w.heap.size < w1.heap.size := (by omega); have hc1_0 := fun o => hc1 (w.heap.size) o (by first | omega | (simp; done) | (simp; omega)); have hf1_0 := fun o => hf1 (w.heap.size) o (by first | omega | (simp; done) | (simp; omega))) | (go_at_call 94; refine (field_ir _ _ _).mono ?_; rintro e w' ⟨rfl, rfl⟩))
        go_ret
        exact post_none hr.out rfl (by repeat (first | exact World.grownBy.refl _ _ | assumption | (with_reducible refine only_drew ?_) | (with_reducible refine only_drewN ?_ _) | (with_reducible refine only_alloc ?_ _) | (with_reducible refine only_setCell ?_ (by first | exact .inl rfl | (right; simp; omega)) _) | (with_reducible refine only_below ?_ (by assumption) (by first | exact Nat.le_refl _ | assumption | (simp; done) | (simp; omega) | omega))))
    · have hd' : fieldB (hasD o.code) o.d = false := by simpa using hd
      clear h hd
      go_enter Try.func70, Try.ntmps70
      go_wp2_with (first | (go_at_call 73; refine (shapeOf_any _ _).mono ?_; rintro e w1 ⟨rfl, hb1⟩; obtain ⟨hc1, hf1⟩ := bcell hb1; have hz1 := hb1.size; try simp only [World.size_alloc] at hz1; have hy1_0 : w.heap.size < w1.heap.size := (by omega); have hc1_0 := fun o => hc1 (w.heap.size) o (by first | omega | (simp; done) | (simp; omega)); have hf1_0 := fun o => hf1 (w.heap.size) o (by first | omega | (simp; done) | (simp; omega))) | (go_at_call 94; refine (field_ir _ _ _).mono ?_; rintro e w' ⟨rfl, rfl⟩))
      go_ret
      exact post_none hr.out rfl (by repeat (first | exact World.grownBy.refl _ _ | assumption | (with_reducible refine only_drew ?_) | (with_reducible refine only_drewN ?_ _) | (with_reducible refine only_alloc ?_ _) | (with_reducible refine only_setCell ?_ (by first | exact .inl rfl | (right; simp; omega)) _) | (with_reducible refine only_below ?_ (by assumption) (by first | exact Nat.le_refl _ | assumption | (simp; done) | (simp; omega) | omega))))
  · have hI' : isOp o.code = false := by simpa using hI
    clear h hI
    go_enter Try.func70, Try.ntmps70
    go_wp2_with (first | (go_at_call 73; refine (shapeOf_any _ _).mono ?_; rintro e w1 ⟨rfl, hb1⟩; obtain ⟨hc1, hf1⟩ := bcell hb1; have hz1 := hb1.size; try simp only [World.size_alloc] at hz1; have hy1_0 : w.heap.size < w1.heap.size := (by omega); have hc1_0 := fun o => hc1 (w.heap.size) o (by first | omega | (simp; done) | (simp; omega)); have hf1_0 := fun o => hf1 (w.heap.size) o (by first | omega | (simp; done) | (simp; omega))) | (go_at_call 94; refine (field_ir _ _ _).mono ?_; rintro e w' ⟨rfl, rfl⟩))
    go_ret
    exact post_none hr.out rfl (by repeat (first | exact World.grownBy.refl _ _ | assumption | (with_reducible refine only_drew ?_) | (with_reducible refine only_drewN ?_ _) | (with_reducible refine only_alloc ?_ _) | (with_reducible refine only_setCell ?_ (by first | exact .inl rfl | (right; simp; omega)) _) | (with_reducible refine only_below ?_ (by assumption) (by first | exact Nat.le_refl _ | assumption | (simp; done) | (simp; omega) | omega))))
end
end Go.Proofs.Ytmjfgnnefcimiaa
namespace Go.Proofs.Ytmjfgnnefcimiaa
open Go.RowKit

theorem ofInt_u32 (a : Nat) (ha : a < 4294967296) : (BitVec.ofInt 32 (a : Int)).toNat = a := by
  rw [BitVec.ofInt_natCast, BitVec.toNat_ofNat]; exact Nat.mod_eq_of_lt (by omega)
theorem u32_and {a b : Int} (ha : word a) (hb : word b) : bits .and .u32 a b = andI a b := by
  unfold word at ha hb
  obtain ⟨n, rfl⟩ := Int.eq_ofNat_of_zero_le ha.1
  obtain ⟨m, rfl⟩ := Int.eq_ofNat_of_zero_le hb.1
  have hx : n &&& m < 2 ^ 32 := Nat.and_lt_two_pow _ (by omega)
  show IntKind.u32.wrap ((BitVec.ofInt 32 (n : Int) &&& BitVec.ofInt 32 (m : Int)).toNat : Int) = _
  rw [BitVec.toNat_and, ofInt_u32 n (by omega), ofInt_u32 m (by omega), IntKind.wrap_u32]
  simp only [andI, Int.toNat_natCast]
  omega
theorem u32_or {a b : Int} (ha : word a) (hb : word b) : bits .or .u32 a b = orI a b := by
  unfold word at ha hb
  obtain ⟨n, rfl⟩ := Int.eq_ofNat_of_zero_le ha.1
  obtain ⟨m, rfl⟩ := Int.eq_ofNat_of_zero_le hb.1
  have hx : n ||| m < 2 ^ 32 := Nat.or_lt_two_pow (by omega) (by omega)
  show IntKind.u32.wrap ((BitVec.ofInt 32 (n : Int) ||| BitVec.ofInt 32 (m : Int)).toNat : Int) = _
  rw [BitVec.toNat_or, ofInt_u32 n (by omega), ofInt_u32 m (by omega), IntKind.wrap_u32]
  simp only [orI, Int.toNat_natCast]
  omega
theorem u32_xor {a b : Int} (ha : word a) (hb : word b) : bits .xor .u32 a b = xorI a b := by
  unfold word at ha hb
  obtain ⟨n, rfl⟩ := Int.eq_ofNat_of_zero_le ha.1
  obtain ⟨m, rfl⟩ := Int.eq_ofNat_of_zero_le hb.1
  have hx : n ^^^ m < 2 ^ 32 := Nat.xor_lt_two_pow (by omega) (by omega)
  show IntKind.u32.wrap ((BitVec.ofInt 32 (n : Int) ^^^ BitVec.ofInt 32 (m : Int)).toNat : Int) = _
  rw [BitVec.toNat_xor, ofInt_u32 n (by omega), ofInt_u32 m (by omega), IntKind.wrap_u32]
  simp only [xorI, Int.toNat_natCast]
  omega
theorem wrap32_signed {a : Int} (ha : word a) : wrap32 a = signedI a := by
  unfold word at ha
  unfold wrap32 signedI
  split <;> omega

set_option maxHeartbeats 400000 in
theorem bit_word (x : Bool) (w : World) :
    Calls Try.prog 113 #[.bool x] w fun e w' => e = .returned (.int .u32 (bitI x)) ∧ w = w' := by
  cases x
  all_goals
    go_enter Try.func113, Try.ntmps113
    go_wp2
    go_ret
    exact ⟨rfl, rfl⟩
set_option maxRecDepth 100000 in
set_option maxHeartbeats 400000 in
theorem op3 (a b : Int) (w : World) (ha : word a) (hb : word b) :
    Calls Try.prog 102 #[.int .u32 a, .int .u32 b] w fun e w' => e = .returned (.int .u32 (wordOp 3 a b)) ∧ w = w' := by
  have HA := Lib.hid ha
  have HB := Lib.hid hb
  obtain ⟨g1, g2⟩ := ha
  obtain ⟨g3, g4⟩ := hb
  go_enter Try.func102, Try.ntmps102
  go_wp2
  go_ret
  exact ⟨ret_int (by simp [wordOp]), rfl⟩
set_option maxRecDepth 100000 in
set_option maxHeartbeats 400000 in
theorem op4 (a b : Int) (w : World) (ha : word a) (hb : word b) :
    Calls Try.prog 103 #[.int .u32 a, .int .u32 b] w fun e w' => e = .returned (.int .u32 (wordOp 4 a b)) ∧ w = w' := by
  have HA := Lib.hid ha
  have HB := Lib.hid hb
  obtain ⟨g1, g2⟩ := ha
  obtain ⟨g3, g4⟩ := hb
  go_enter Try.func103, Try.ntmps103
  go_wp2
  go_ret
  exact ⟨ret_int (by simp [wordOp]), rfl⟩
set_option maxRecDepth 100000 in
set_option maxHeartbeats 400000 in
theorem op5 (a b : Int) (w : World) (ha : word a) (hb : word b) :
    Calls Try.prog 104 #[.int .u32 a, .int .u32 b] w fun e w' => e = .returned (.int .u32 (wordOp 5 a b)) ∧ w = w' := by
  have HA := Lib.hid ha
  have HB := Lib.hid hb
  obtain ⟨g1, g2⟩ := ha
  obtain ⟨g3, g4⟩ := hb
  go_enter Try.func104, Try.ntmps104
  go_wp2
  go_ret
  exact ⟨ret_int (by simp [wordOp]; exact u32_and HA.out HB.out), rfl⟩
set_option maxRecDepth 100000 in
set_option maxHeartbeats 400000 in
theorem op6 (a b : Int) (w : World) (ha : word a) (hb : word b) :
    Calls Try.prog 105 #[.int .u32 a, .int .u32 b] w fun e w' => e = .returned (.int .u32 (wordOp 6 a b)) ∧ w = w' := by
  have HA := Lib.hid ha
  have HB := Lib.hid hb
  obtain ⟨g1, g2⟩ := ha
  obtain ⟨g3, g4⟩ := hb
  go_enter Try.func105, Try.ntmps105
  go_wp2
  go_ret
  exact ⟨ret_int (by simp [wordOp]; exact u32_or HA.out HB.out), rfl⟩
set_option maxRecDepth 100000 in
set_option maxHeartbeats 400000 in
theorem op7 (a b : Int) (w : World) (ha : word a) (hb : word b) :
    Calls Try.prog 106 #[.int .u32 a, .int .u32 b] w fun e w' => e = .returned (.int .u32 (wordOp 7 a b)) ∧ w = w' := by
  have HA := Lib.hid ha
  have HB := Lib.hid hb
  obtain ⟨g1, g2⟩ := ha
  obtain ⟨g3, g4⟩ := hb
  go_enter Try.func106, Try.ntmps106
  go_wp2
  go_ret
  exact ⟨ret_int (by simp [wordOp]; exact u32_xor HA.out HB.out), rfl⟩
set_option maxRecDepth 100000 in
set_option maxHeartbeats 400000 in
theorem op8 (a b : Int) (w : World) (ha : word a) (hb : word b) :
    Calls Try.prog 107 #[.int .u32 a, .int .u32 b] w fun e w' => e = .returned (.int .u32 (wordOp 8 a b)) ∧ w = w' := by
  have HA := Lib.hid ha
  have HB := Lib.hid hb
  obtain ⟨g1, g2⟩ := ha
  obtain ⟨g3, g4⟩ := hb
  go_enter Try.func107, Try.ntmps107
  go_wp2
  go_ret
  exact ⟨ret_int (by simp [wordOp]), rfl⟩
set_option maxRecDepth 100000 in
set_option maxHeartbeats 400000 in
theorem op9 (a b : Int) (w : World) (ha : word a) (hb : word b) :
    Calls Try.prog 108 #[.int .u32 a, .int .u32 b] w fun e w' => e = .returned (.int .u32 (wordOp 9 a b)) ∧ w = w' := by
  have HA := Lib.hid ha
  have HB := Lib.hid hb
  obtain ⟨g1, g2⟩ := ha
  obtain ⟨g3, g4⟩ := hb
  go_enter Try.func108, Try.ntmps108
  go_wp2
  go_ret
  exact ⟨ret_int (by simp [wordOp]), rfl⟩
set_option maxRecDepth 100000 in
set_option maxHeartbeats 400000 in
theorem op10 (a b : Int) (w : World) (ha : word a) (hb : word b) :
    Calls Try.prog 109 #[.int .u32 a, .int .u32 b] w fun e w' => e = .returned (.int .u32 (wordOp 10 a b)) ∧ w = w' := by
  have HA := Lib.hid ha
  have HB := Lib.hid hb
  obtain ⟨g1, g2⟩ := ha
  obtain ⟨g3, g4⟩ := hb
  go_enter Try.func109, Try.ntmps109
  go_wp2
  go_ret
  exact ⟨ret_int (by simp [wordOp, wrap32_signed HA.out]), rfl⟩
set_option maxRecDepth 100000 in
set_option maxHeartbeats 400000 in
theorem op11 (a b : Int) (w : World) (ha : word a) (hb : word b) :
    Calls Try.prog 110 #[.int .u32 a, .int .u32 b] w fun e w' => e = .returned (.int .u32 (wordOp 11 a b)) ∧ w = w' := by
  have HA := Lib.hid ha
  have HB := Lib.hid hb
  obtain ⟨g1, g2⟩ := ha
  obtain ⟨g3, g4⟩ := hb
  go_enter Try.func110, Try.ntmps110
  go_wp2
  go_ret
  exact ⟨ret_int (by simp [wordOp]), rfl⟩
set_option maxRecDepth 100000 in
set_option maxHeartbeats 400000 in
theorem op12 (a b : Int) (w : World) (ha : word a) (hb : word b) :
    Calls Try.prog 111 #[.int .u32 a, .int .u32 b] w fun e w' => e = .returned (.int .u32 (wordOp 12 a b)) ∧ w = w' := by
  have HA := Lib.hid ha
  have HB := Lib.hid hb
  obtain ⟨g1, g2⟩ := ha
  obtain ⟨g3, g4⟩ := hb
  by_cases h0 : b = 0
  · subst h0
    go_enter Try.func111, Try.ntmps111
    go_wp2
    go_ret
    exact ⟨rfl, rfl⟩
  · have h1 : 1 ≤ b := by omega
    have e1 : (b == 0) = false := by simp [h0]
    clear h0
    go_enter Try.func111, Try.ntmps111
    go_wp2
    go_ret
    refine ⟨ret_int ?_, rfl⟩
    rw [show wordOp 12 a b = a / b from by simp [wordOp]; omega]
set_option maxRecDepth 100000 in
set_option maxHeartbeats 400000 in
theorem op13 (a b : Int) (w : World) (ha : word a) (hb : word b) :
    Calls Try.prog 112 #[.int .u32 a, .int .u32 b] w fun e w' => e = .returned (.int .u32 (wordOp 13 a b)) ∧ w = w' := by
  have HA := Lib.hid ha
  have HB := Lib.hid hb
  obtain ⟨g1, g2⟩ := ha
  obtain ⟨g3, g4⟩ := hb
  go_enter Try.func112, Try.ntmps112
  go_wp2_with (go_at_call 113; refine (bit_word _ _).mono ?_; rintro e w' ⟨rfl, rfl⟩)
  go_ret
  exact ⟨ret_int (by simp [wordOp]; rfl), rfl⟩
set_option maxRecDepth 100000 in
set_option maxHeartbeats 400000 in
theorem op14 (a b : Int) (w : World) (ha : word a) (hb : word b) :
    Calls Try.prog 114 #[.int .u32 a, .int .u32 b] w fun e w' => e = .returned (.int .u32 (wordOp 14 a b)) ∧ w = w' := by
  have HA := Lib.hid ha
  have HB := Lib.hid hb
  obtain ⟨g1, g2⟩ := ha
  obtain ⟨g3, g4⟩ := hb
  go_enter Try.func114, Try.ntmps114
  go_wp2_with (go_at_call 113; refine (bit_word _ _).mono ?_; rintro e w' ⟨rfl, rfl⟩)
  go_ret
  exact ⟨ret_int (by simp [wordOp]), rfl⟩
set_option maxRecDepth 100000 in
set_option maxHeartbeats 400000 in
theorem op15 (a b : Int) (w : World) (ha : word a) (hb : word b) :
    Calls Try.prog 115 #[.int .u32 a, .int .u32 b] w fun e w' => e = .returned (.int .u32 (wordOp 15 a b)) ∧ w = w' := by
  have HA := Lib.hid ha
  have HB := Lib.hid hb
  obtain ⟨g1, g2⟩ := ha
  obtain ⟨g3, g4⟩ := hb
  go_enter Try.func115, Try.ntmps115
  go_wp2_with (go_at_call 113; refine (bit_word _ _).mono ?_; rintro e w' ⟨rfl, rfl⟩)
  go_ret
  exact ⟨ret_int (by simp [wordOp, wrap32_signed HA.out, wrap32_signed HB.out]), rfl⟩
end Go.Proofs.Ytmjfgnnefcimiaa
namespace Go.Proofs.Ytmjfgnnefcimiaa
open Go.RowKit
theorem ltH {g : Nat} {w : World} (h : g < w.heap.size) : g < w.heap.size + 1 := by omega
theorem wp_still_tail {P : Program} {id : Nat} {Q : Exit → Act → World → Prop} {a : Act} {w : World} {l : List Oper} (n : Nat) (hm : P.follows .mixedOrders = true) (hB : Region.lexTailB .any l.toArray n = true)
    (h : wpStill P l.toArray w.drew (fun a' => wpList P l.toArray Q (l.drop n) a' w.drew) (l.take n) a) : (Code.region id l.toArray true).wp P Q a w :=
  wp_region_still_tail n hm hB h
/-- A region that draws its order, whose operations only read and whose callees leave alone what lay there: walked once, in the order of the text. -/
theorem wp_region_below {P : Program} {id : Nat} {Q : Exit → Act → World → Prop} {a : Act} {w : World} {l : List Oper} (hm : P.follows .mixedOrders = true) (hB : Region.lexB .any l.toArray = true)
    (h : wpQuiet P l.toArray (fun w' => Below w.heap.size w w') (fun a' => ∀ w', Below w.heap.size w w' → Q .normal a' w') l a) : (Code.region id l.toArray true).wp P Q a w :=
  wp_region_quiet (C := fun w' => Below w.heap.size w w') hm hB ((Below.refl _ w).drew) (by simpa using h)

/-- An operation of such a region whose guard says no. -/
theorem wpStill_skip {P : Program} {ops : Array Oper} {w : World} {Q : Act → Prop} {o : Oper} {rest : List Oper} {a : Act} (hw : Region.wanted o (yielded ops a.tmps) = false) (h : wpStill P ops w Q rest (a.put o.dst undef)) : wpStill P ops w Q (o :: rest) a := by
  unfold wpStill
  rw [hw]
  exact h
end Go.Proofs.Ytmjfgnnefcimiaa
namespace Go.Proofs.Ytmjfgnnefcimiaa
open Go.RowKit

/-- The blocks from before that may be turned: the first own entries, in their order; and others. -/
structure Gs where
  fix : List Nat
  ext : List Nat
instance : Membership Nat Gs := ⟨fun G b => b ∈ G.fix ∨ b ∈ G.ext⟩
def Gs.nil : Gs := ⟨[], []⟩
@[simp] theorem Gs.mem_nil (b : Nat) : ¬ b ∈ Gs.nil := by rintro (h | h) <;> cases h
/-- What is known of one cell's value: itself; an address in own entry i; the slice or the map that own entry i is; a closure. -/
inductive CV where
  | v (x : Value)
  | ref (i off : Nat)
  | vref (i off : Nat)
  | row (i : Nat)
  | sl (i off n c : Nat)
  | mp (i : Nat)
  | clo (f : Fn) (cap : List CV)
  | any
inductive Pc where
  | c (x : CV)
  | agg (l : List CV)
inductive AV where
  | p (x : Pc)
  | tup (l : List Pc)
/-- Where the own entries lie: their blocks, and the slices that they are. -/
structure Env where
  blk : Nat → Option Nat
  val : Nat → Option Value
structure Env.le (a b : Env) : Prop where
  blk : ∀ i x, a.blk i = some x → b.blk i = some x
  val : ∀ i x, a.val i = some x → b.val i = some x
theorem Env.le.refl (a : Env) : a.le a := ⟨fun _ _ h => h, fun _ _ h => h⟩
theorem Env.le.trans {a b c : Env} (h : a.le b) (k : b.le c) : a.le c := ⟨fun i x hx => k.blk i x (h.blk i x hx), fun i x hx => k.val i x (h.val i x hx)⟩

mutual
def CV.den (r : Env) : CV → Value → Prop
  | .v x, u => u = x
  | .ref i off, u => ∃ b, r.blk i = some b ∧ u = .pointer (some ⟨b, off, none⟩)
  | .vref i off, u => ∃ b o n c, r.val i = some (.slice (some ⟨b, o, none⟩) n c) ∧ u = .pointer (some ⟨b, o + off, none⟩)
  | .row i, u => r.val i = some u
  | .sl i off n c, u => ∃ b, r.blk i = some b ∧ u = .slice (some ⟨b, off, none⟩) n c
  | .mp i, u => ∃ b, r.blk i = some b ∧ u = .map (some b)
  | .clo f cap, u => ∃ us : List Value, u = .func f #[] us.toArray ∧ denL r cap us
  | .any, _ => True
def denL (r : Env) : List CV → List Value → Prop
  | [], us => us = []
  | c :: cs, us => ∃ u l, us = u :: l ∧ c.den r u ∧ denL r cs l
end
def Pc.den (r : Env) : Pc → Value → Prop
  | .c x, u => x.den r u
  | .agg l, u => ∃ us : List Value, u = .agg us.toArray ∧ denL r l us
def pdenL (r : Env) : List Pc → List Value → Prop
  | [], us => us = []
  | c :: cs, us => ∃ u l, us = u :: l ∧ c.den r u ∧ pdenL r cs l
def AV.den (r : Env) : AV → Value → Prop
  | .p x, u => x.den r u
  | .tup l, u => ∃ us : List Value, u = .tuple us.toArray ∧ pdenL r l us

mutual
theorem CV.den_mono {r r' : Env} (h : r.le r') : ∀ (c : CV) (u : Value), c.den r u → c.den r' u
  | .v x, u, hd => by simpa only [CV.den] using hd
  | .ref i off, u, hd => by simp only [CV.den] at hd ⊢; obtain ⟨b, hb, hu⟩ := hd; exact ⟨b, h.blk _ _ hb, hu⟩
  | .vref i off, u, hd => by simp only [CV.den] at hd ⊢; obtain ⟨b, o, n, c, hb, hu⟩ := hd; exact ⟨b, o, n, c, h.val _ _ hb, hu⟩
  | .row i, u, hd => by simp only [CV.den] at hd ⊢; exact h.val _ _ hd
  | .sl i off n c, u, hd => by simp only [CV.den] at hd ⊢; obtain ⟨b, hb, hu⟩ := hd; exact ⟨b, h.blk _ _ hb, hu⟩
  | .mp i, u, hd => by simp only [CV.den] at hd ⊢; obtain ⟨b, hb, hu⟩ := hd; exact ⟨b, h.blk _ _ hb, hu⟩
  | .clo f cap, u, hd => by simp only [CV.den] at hd ⊢; obtain ⟨us, hu, hl⟩ := hd; exact ⟨us, hu, denL_mono h cap us hl⟩
  | .any, u, hd => by simp only [CV.den]
theorem denL_mono {r r' : Env} (h : r.le r') : ∀ (l : List CV) (us : List Value), denL r l us → denL r' l us
  | [], us, hd => by simpa only [denL] using hd
  | c :: cs, us, hd => by simp only [denL] at hd ⊢; obtain ⟨u, l, hu, hc, hl⟩ := hd; exact ⟨u, l, hu, CV.den_mono h c u hc, denL_mono h cs l hl⟩
end
theorem Pc.den_mono {r r' : Env} (h : r.le r') : ∀ (c : Pc) (u : Value), c.den r u → c.den r' u
  | .c x, u, hd => CV.den_mono h x u hd
  | .agg l, u, hd => by obtain ⟨us, hu, hl⟩ := hd; exact ⟨us, hu, denL_mono h l us hl⟩
theorem pdenL_mono {r r' : Env} (h : r.le r') : ∀ (l : List Pc) (us : List Value), pdenL r l us → pdenL r' l us
  | [], us, hd => hd
  | c :: cs, us, hd => by obtain ⟨u, l, hu, hc, hl⟩ := hd; exact ⟨u, l, hu, Pc.den_mono h c u hc, pdenL_mono h cs l hl⟩
theorem AV.den_mono {r r' : Env} (h : r.le r') : ∀ (c : AV) (u : Value), c.den r u → c.den r' u
  | .p x, u, hd => Pc.den_mono h x u hd
  | .tup l, u, hd => by obtain ⟨us, hu, hl⟩ := hd; exact ⟨us, hu, pdenL_mono h l us hl⟩

theorem denL_at {r : Env} : ∀ {l : List CV} {us : List Value} {k : Nat} {c : CV}, denL r l us → l[k]? = some c → ∃ u, us[k]? = some u ∧ c.den r u
  | [], us, k, c, hd, h => by simp at h
  | a :: l, us, 0, c, hd, h => by
    simp only [denL] at hd; obtain ⟨u, l', hu, hc, hl⟩ := hd; subst hu
    simp at h; subst h; exact ⟨u, by simp, hc⟩
  | a :: l, us, k + 1, c, hd, h => by
    simp only [denL] at hd; obtain ⟨u, l', hu, hc, hl⟩ := hd; subst hu
    simpa using denL_at hl (by simpa using h)
theorem denL_length {r : Env} : ∀ {l : List CV} {us : List Value}, denL r l us → us.length = l.length
  | [], us, hd => by simp only [denL] at hd; subst hd; rfl
  | a :: l, us, hd => by simp only [denL] at hd; obtain ⟨u, l', hu, hc, hl⟩ := hd; subst hu; simp [denL_length hl]
theorem denL_drop {r : Env} : ∀ {l : List CV} {us : List Value} (k : Nat), denL r l us → denL r (l.drop k) (us.drop k)
  | l, us, 0, hd => by simpa using hd
  | [], us, k + 1, hd => by simp only [denL] at hd; subst hd; simp [denL]
  | a :: l, us, k + 1, hd => by simp only [denL] at hd; obtain ⟨u, l', hu, hc, hl⟩ := hd; subst hu; simpa using denL_drop k hl
theorem denL_take {r : Env} : ∀ {l : List CV} {us : List Value} (k : Nat), denL r l us → denL r (l.take k) (us.take k)
  | l, us, 0, hd => by simp [denL]
  | [], us, k + 1, hd => by simp only [denL] at hd; subst hd; simp [denL]
  | a :: l, us, k + 1, hd => by
    simp only [denL] at hd; obtain ⟨u, l', hu, hc, hl⟩ := hd; subst hu
    simp only [List.take_succ_cons, denL]; exact ⟨u, _, rfl, hc, denL_take k hl⟩
theorem denL_set {r : Env} : ∀ {l : List CV} {us : List Value} (k : Nat) {c : CV} {u : Value}, denL r l us → c.den r u → denL r (l.set k c) (us.set k u)
  | [], us, k, c, u, hd, h => by simp only [denL] at hd; subst hd; simp [denL]
  | a :: l, us, 0, c, u, hd, h => by
    simp only [denL] at hd; obtain ⟨u', l', hu, hc, hl⟩ := hd; subst hu
    simp only [List.set_cons_zero, denL]; exact ⟨u, _, rfl, h, hl⟩
  | a :: l, us, k + 1, c, u, hd, h => by
    simp only [denL] at hd; obtain ⟨u', l', hu, hc, hl⟩ := hd; subst hu
    simp only [List.set_cons_succ, denL]; exact ⟨u', _, rfl, hc, denL_set k hl h⟩
theorem denL_vals {r : Env} : ∀ us : List Value, denL r (us.map .v) us
  | [] => by simp [denL]
  | u :: us => by simp only [List.map_cons, denL]; exact ⟨u, us, rfl, by simp [CV.den], denL_vals us⟩
theorem denL_vals_inv {r : Env} : ∀ {us vs : List Value}, denL r (us.map .v) vs → vs = us
  | [], vs, h => by simpa [denL] using h
  | u :: us, vs, h => by
    simp only [List.map_cons, denL] at h; obtain ⟨u', l, hu, hc, hl⟩ := h
    simp only [CV.den] at hc; subst hc; subst hu; rw [denL_vals_inv hl]

/-- A value as it stands. -/
def pcOf : Value → Pc
  | .agg cs => .agg (cs.toList.map .v)
  | x => .c (.v x)
def AV.of : Value → AV
  | .tuple vs => .tup (vs.toList.map pcOf)
  | .agg cs => .p (.agg (cs.toList.map .v))
  | x => .p (.c (.v x))
theorem pcOf_den (r : Env) (x : Value) : (pcOf x).den r x := by
  unfold pcOf
  split
  · rename_i cs; exact ⟨cs.toList, by simp, denL_vals _⟩
  · simp [Pc.den, CV.den]
theorem pdenL_of (r : Env) : ∀ l : List Value, pdenL r (l.map pcOf) l
  | [] => rfl
  | x :: l => ⟨x, l, rfl, pcOf_den r x, pdenL_of r l⟩
theorem AV.of_den (r : Env) (x : Value) : (AV.of x).den r x := by
  unfold AV.of
  split
  · rename_i vs; exact ⟨vs.toList, by simp, pdenL_of r _⟩
  · rename_i cs; exact ⟨cs.toList, by simp, denL_vals _⟩
  · simp [AV.den, Pc.den, CV.den]

/-! Frames: the slots of which something is known, the latest first. -/
abbrev Fr := List (Nat × AV)
def Fr.get : Fr → Nat → AV
  | [], _ => .p (.c .any)
  | (d, x) :: r, k => match Nat.beq d k with | true => x | false => Fr.get r k
def Fr.put (f : Fr) (dst : Option Tmp) (x : AV) : Fr := match dst with | some d => (d, x) :: f | none => f
def Fr.ev (f : Fr) : Operand → AV
  | .tmp t => f.get t
  | .const x => AV.of x
  | .global g => .p (.c (.v (.pointer (some ⟨g, 0, none⟩))))
  | .func fn => .p (.c (.clo (.func fn) []))
def FDen (r : Env) (f : Fr) (a : Act) : Prop := ∀ k, (f.get k).den r (a.tmps.getD k undef)
theorem FDen.mono {r r' : Env} {f : Fr} {a : Act} (h : FDen r f a) (hr : r.le r') : FDen r' f a := fun k => AV.den_mono hr _ _ (h k)
theorem FDen.ev {r : Env} {f : Fr} {a : Act} (h : FDen r f a) (x : Operand) : (f.ev x).den r (a.eval x) := by
  cases x with
  | tmp t => exact h t
  | const x => exact AV.of_den r x
  | global g => simp [Fr.ev, AV.den, Pc.den, CV.den, Act.eval]
  | func fn => simp [Fr.ev, AV.den, Pc.den, CV.den, Act.eval, denL]
def dstOk (N : Nat) : Option Tmp → Bool
  | none => true
  | some d => Nat.blt d N
theorem FDen.put {r : Env} {f : Fr} {a : Act} (h : FDen r f a) {dst : Option Tmp} {x : AV} {u : Value} (hx : x.den r u) (hN : dstOk a.tmps.size dst = true) : FDen r (f.put dst x) (a.put dst u) := by
  cases dst with
  | none => exact h
  | some d =>
    have hd : d < a.tmps.size := by simpa [dstOk, Nat.blt_eq] using hN
    intro k
    simp only [Fr.put, Fr.get, Act.put]
    by_cases hk : d = k
    · subst hk
      simp only [Nat.beq_refl]
      rw [Array.getD_eq_getD_getElem?, Array.getElem?_setIfInBounds]
      simp [hd, hx]
    · have : Nat.beq d k = false := by
        cases h2 : Nat.beq d k
        · rfl
        · exact absurd (Nat.eq_of_beq_eq_true h2) hk
      simp only [this]
      rw [Array.getD_eq_getD_getElem?, Array.getElem?_setIfInBounds, if_neg hk, ← Array.getD_eq_getD_getElem?]
      exact h k
theorem put_size (a : Act) (dst : Option Tmp) (u : Value) : (a.put dst u).tmps.size = a.tmps.size := by cases dst <;> simp [Act.put]
theorem put_defers (a : Act) (dst : Option Tmp) (u : Value) : (a.put dst u).defers = a.defers := by cases dst <;> rfl
/-- Nothing is known of a slot any more. -/
theorem FDen.putAny {r : Env} {f : Fr} {a : Act} (h : FDen r f a) {dst : Option Tmp} (u : Value) (hN : dstOk a.tmps.size dst = true) : FDen r (f.put dst (.p (.c .any))) (a.put dst u) := h.put (by simp [AV.den, Pc.den, CV.den]) hN

/-! What the call owns. -/
inductive Ow where
  | cells (t : TypeId) (l : List CV)
  | row (e : TypeId) (size n : Nat) (xs : List Value)
  | ext (φ : Nat → World → Prop)
  | view (φ : Option Addr → Prop) (n : Nat) (xs : List Value)
  | gone
def Ow.holds (r : Env) (w : World) (i : Nat) : Ow → Prop
  | .cells t l => ∃ b us, r.blk i = some b ∧ w.heap[b]? = some (.cells us.toArray t (0, 0)) ∧ denL r l us
  | .row e size n xs => ∃ v, r.val i = some v ∧ v.ownBlock = r.blk i ∧ w.ownsRow 0 e size v n xs
  | .ext φ => ∃ b, r.blk i = some b ∧ φ b w ∧ ∀ w' : World, w'.heap[b]? = w.heap[b]? → φ b w'
  | .view φ n xs => ∃ A c, r.val i = some (.slice A n c) ∧ n ≤ c ∧ (c ≤ maxLen ∧ φ A) ∧ r.blk i = none ∧ ∀ j u, xs[j]? = some u → ∃ b off, A = some ⟨b, off, none⟩ ∧ b < w.heap.size ∧ (∀ k, r.blk k ≠ some b) ∧ w.cell? ⟨b, off + j, none⟩ = some u
  | .gone => True

/-- The state of the call's memory: w0 the world at its start, G the blocks from before that it may turn (the first own entries). -/
structure Rel (w0 : World) (G : Gs) (S : List Ow) (r : Env) (w : World) : Prop where
  os : w.os = w0.os
  tape : w.tape = w0.tape
  output : w.output = w0.output
  size : w0.heap.size ≤ w.heap.size
  old : ∀ k, k < w0.heap.size → k ∉ G → w.heap[k]? = w0.heap[k]?
  own : ∀ (i : Nat) (o : Ow), S[i]? = some o → o.holds r w i
  inj : ∀ i j b, r.blk i = some b → r.blk j = some b → i = j
  new : ∀ i b, r.blk i = some b → b < w.heap.size ∧ (b < w0.heap.size → b ∈ G)
  outB : ∀ i, S.length ≤ i → r.blk i = none
  outV : ∀ i, S.length ≤ i → r.val i = none
  first : ∀ (i g : Nat), G.fix[i]? = some g → r.blk i = some g

theorem Ow.holds_block {r : Env} {w w' : World} {i : Nat} {o : Ow} (h : o.holds r w i) (hb : ∀ b, r.blk i = some b → w'.heap[b]? = w.heap[b]?) (hs : w.heap.size ≤ w'.heap.size) (hv : ∀ b, b < w.heap.size → (∀ k, r.blk k ≠ some b) → w'.heap[b]? = w.heap[b]?) : o.holds r w' i := by
  cases o with
  | cells t l => obtain ⟨b, us, h1, h2, h3⟩ := h; exact ⟨b, us, h1, (hb b h1).trans h2, h3⟩
  | row e size n xs =>
    obtain ⟨v, h1, h2, h3, h4⟩ := h
    refine ⟨v, h1, h2, h3, ?_⟩
    rcases h4 with h4 | ⟨g, cap, cur, hv, hg, hh, hr⟩
    · exact .inl h4
    · have : r.blk i = some g := by rw [← h2, hv]; rfl
      exact .inr ⟨g, cap, cur, hv, hg, (hb g this).trans hh, hr⟩
  | ext φ => obtain ⟨b, h1, h2, h3⟩ := h; exact ⟨b, h1, h3 w' (hb b h1), fun w'' hw => h3 w'' (hw.trans (hb b h1))⟩
  | view φ n xs =>
    obtain ⟨A, c, h1, h2, h3, h4, h5⟩ := h
    refine ⟨A, c, h1, h2, h3, h4, fun j u hj => ?_⟩
    obtain ⟨b, off, h6, h7, h8, h9⟩ := h5 j u hj
    exact ⟨b, off, h6, Nat.lt_of_lt_of_le h7 hs, h8, (World.cell?_of_block (w := w) (a := ⟨b, off + j, none⟩) (hv b h7 h8)).trans h9⟩
  | gone => trivial
theorem Ow.holds_mono {r r' : Env} (hr : r.le r') {w : World} {i : Nat} {o : Ow} (h : o.holds r w i) (hb : r'.blk i = r.blk i) (hn : ∀ k b, r'.blk k = some b → r.blk k = some b ∨ w.heap.size ≤ b) : o.holds r' w i := by
  cases o with
  | cells t l => obtain ⟨b, us, h1, h2, h3⟩ := h; exact ⟨b, us, hr.blk _ _ h1, h2, denL_mono hr _ _ h3⟩
  | row e size n xs => obtain ⟨v, h1, h2, h3⟩ := h; exact ⟨v, hr.val _ _ h1, h2.trans hb.symm, h3⟩
  | ext φ => obtain ⟨b, h1, h2⟩ := h; exact ⟨b, hr.blk _ _ h1, h2⟩
  | view φ n xs =>
    obtain ⟨A, c, h1, h2, h3, h4, h5⟩ := h
    refine ⟨A, c, hr.val _ _ h1, h2, h3, hb.trans h4, fun j u hj => ?_⟩
    obtain ⟨b, off, h6, h7, h8, h9⟩ := h5 j u hj
    refine ⟨b, off, h6, h7, fun k hk => ?_, h9⟩
    rcases hn k b hk with h | h
    · exact h8 k h
    · omega
  | gone => trivial

section
variable {w0 : World} {G : Gs} {S : List Ow} {r : Env} {w : World}
/-- Behind what leaves alone all that lies there. -/
theorem Rel.below (h : Rel w0 G S r w) {w' : World} (hb : Below w.heap.size w w') : Rel w0 G S r w' :=
  ⟨hb.os.trans h.os, hb.tape.trans h.tape, hb.output.trans h.output, Nat.le_trans h.size hb.size,
    fun k hk hg => (hb.block k (Nat.lt_of_lt_of_le hk h.size)).trans (h.old k hk hg),
    fun i o ho => Ow.holds_block (h.own i o ho) (fun b hb' => hb.block b (h.new i b hb').1) hb.size (fun b hb' _ => hb.block b hb'),
    h.inj, fun i b hb' => ⟨Nat.lt_of_lt_of_le (h.new i b hb').1 hb.size, (h.new i b hb').2⟩, h.outB, h.outV, h.first⟩
theorem Rel.drew (h : Rel w0 G S r w) : Rel w0 G S r w.drew := h.below ((Below.refl _ _).drew)
/-- A cell of an own entry. -/
theorem Rel.cell (h : Rel w0 G S r w) {i off : Nat} {t : TypeId} {l : List CV} {c : CV} (hi : S[i]? = some (.cells t l)) (hc : l[off]? = some c) :
    ∃ b u, r.blk i = some b ∧ w.cell? ⟨b, off, none⟩ = some u ∧ c.den r u := by
  obtain ⟨b, us, h1, h2, h3⟩ := h.own i _ hi
  obtain ⟨u, hu, hd⟩ := denL_at h3 hc
  exact ⟨b, u, h1, by simp [World.cell?, h2, hu], hd⟩
end
/-- Cells from before the call that it may not turn. -/
def CellsAt (w0 : World) (G : Gs) (b off : Nat) (xs : List Value) : Prop := b < w0.heap.size ∧ b ∉ G ∧ ∀ j u, xs[j]? = some u → w0.cell? ⟨b, off + j, none⟩ = some u
theorem Rel.oldCell {w0 : World} {G : Gs} {S : List Ow} {r : Env} {w : World} (h : Rel w0 G S r w) {b : Nat} (hb : b < w0.heap.size) (hg : b ∉ G) (off : Nat) : w.cell? ⟨b, off, none⟩ = w0.cell? ⟨b, off, none⟩ :=
  World.cell?_of_block (w := w0) (a := ⟨b, off, none⟩) (h.old b hb hg)

/-- How many slots; what is deferred. -/
structure Nd where
  n : Nat
  ds : List Deferred
/-- What is known of a state of the walk. -/
def Good (w0 : World) (G : Gs) (N : Nd) (f : Fr) (S : List Ow) (a : Act) (w : World) : Prop :=
  ∃ r, Rel w0 G S r w ∧ FDen r f a ∧ a.tmps.size = N.n ∧ a.defers = N.ds
end Go.Proofs.Ytmjfgnnefcimiaa
namespace Go.Proofs.Ytmjfgnnefcimiaa
open Go.RowKit

/-! Fold. -/
def foldUpd (f : Int → Option Int) (p : BOp) : Int → Option Int :=
  if p.code == 1 then mput (if 0 ≤ writes p then mdel f (writes p) else f) (writes p) p.n else if 0 ≤ writes p then mdel f (writes p) else f
def foldMark (f : Int → Option Int) (o : BOp) : Int → Option Int := if o.code == 20 then fdel f 8 else f
def foldRun : (Int → Option Int) → List BOp → List BOp
  | _, [] => []
  | f, o :: l => if (foldB (foldMark f o) o).2 then (foldB (foldMark f o) o).1 :: (if (foldB (foldMark f o) o).1.code == 24 then [] else foldRun (foldUpd (foldMark f o) (foldB (foldMark f o) o).1) l) else foldRun (foldMark f o) l
def noneF : Int → Option Int := fun _ => none
def foldAll (b : Blk) : List BOp := if validB b then foldRun noneF b.ops else b.ops
theorem foldRun_at {f : Int → Option Int} {l : List BOp} {k : Nat} {o : BOp} (h : l[k]? = some o) :
    foldRun f (l.drop k) = if (foldB (foldMark f o) o).2 then (foldB (foldMark f o) o).1 :: (if (foldB (foldMark f o) o).1.code == 24 then [] else foldRun (foldUpd (foldMark f o) (foldB (foldMark f o) o).1) (l.drop (k + 1))) else foldRun (foldMark f o) (l.drop (k + 1)) := by
  have hk : k < l.length := by
    rcases Nat.lt_or_ge k l.length with h1 | h1
    · exact h1
    · rw [List.getElem?_eq_none h1] at h; cases h
  rw [List.drop_eq_getElem_cons hk]
  have e : l[k] = o := by rw [List.getElem?_eq_getElem hk] at h; injection h
  rw [e]; rfl

/-! Words stay words. -/
def wordsF (f : Int → Option Int) : Prop := ∀ k x, f k = some x → word x
theorem pow32 (n : Nat) : (2 : Int) ^ n > 0 := Int.pow_pos (by decide)
theorem ite_word {p : Prop} [Decidable p] {x y : Int} (hx : word x) (hy : word y) : word (if p then x else y) := by by_cases h : p <;> simp only [h, if_true, if_false] <;> assumption
theorem word_mod (x : Int) : word (x % 4294967296) := by unfold word; omega
theorem word_bit (x : Bool) : word (bitI x) := by cases x <;> (unfold word bitI; decide)
theorem wordOp_word {c a b : Int} (ha : word a) (hb : word b) : word (wordOp c a b) := by
  have w0 : word 0 := by unfold word; omega
  have hand : word (andI a b) := by unfold word andI at *; have : a.toNat &&& b.toNat ≤ a.toNat := Nat.and_le_left; omega
  have hor : word (orI a b) := by unfold word orI at *; have : a.toNat ||| b.toNat < 2 ^ 32 := Nat.or_lt_two_pow (by omega) (by omega); omega
  have hxor : word (xorI a b) := by unfold word xorI at *; have : a.toNat ^^^ b.toNat < 2 ^ 32 := Nat.xor_lt_two_pow (by omega) (by omega); omega
  have hshr : word (a / 2 ^ (b % 32).toNat) := by
    have h1 := Int.ediv_nonneg ha.1 (Int.le_of_lt (pow32 (b % 32).toNat))
    have h2 : a / 2 ^ (b % 32).toNat ≤ a := Int.ediv_le_self _ ha.1
    unfold word at *; omega
  have hdiv : word (a / b) := by
    have h1 := Int.ediv_nonneg ha.1 hb.1
    have h2 : a / b ≤ a := Int.ediv_le_self _ ha.1
    unfold word at *; omega
  exact ite_word (word_mod _) (ite_word (word_mod _) (ite_word hand (ite_word hor (ite_word hxor (ite_word (word_mod _) (ite_word hshr (ite_word (word_mod _) (ite_word (word_mod _) (ite_word (ite_word w0 hdiv) (ite_word (word_bit _) (ite_word (word_bit _) (ite_word (word_bit _) w0))))))))))))
theorem mid0 : mid 0 := by unfold mid; omega
theorem mid_s {n : Int} (h : -1000 ≤ n ∧ n ≤ 1000) : mid n := by unfold mid; omega
theorem word0 : word 0 := by unfold word; omega
theorem wordsF_none : wordsF noneF := nofun
theorem getD_word {f : Int → Option Int} (hf : wordsF f) (k : Int) : word ((f k).getD 0) := by
  cases h : f k with
  | none => exact word0
  | some x => exact hf k x h
theorem foldB_ok {f : Int → Option Int} {o : BOp} (hf : wordsF f) (ho : o.ok) : (foldB f o).1.ok := by
  obtain ⟨h1, h2, h3, h4, h5⟩ := ho
  unfold foldB
  split; · exact ⟨mid_s (n := 1) (by decide), h2, mid0, mid0, getD_word hf _⟩
  split; · exact ⟨mid_s (n := 1) (by decide), h2, mid0, mid0, wordOp_word (getD_word hf _) (getD_word hf _)⟩
  split; · exact ⟨mid_s (n := 2) (by decide), h2, h3, mid0, word0⟩
  split; · exact ⟨mid0, mid0, mid0, mid0, word0⟩
  split; · exact ⟨mid_s (n := 24) (by decide), mid0, mid0, mid0, h5⟩
  split; · exact ⟨mid_s (n := 24) (by decide), mid0, mid0, mid0, getD_word hf _⟩
  exact ⟨h1, h2, h3, h4, h5⟩
theorem foldMark_words {f : Int → Option Int} {o : BOp} (hf : wordsF f) : wordsF (foldMark f o) := by
  unfold foldMark
  split
  · intro k x h; unfold fdel at h; split at h
    · cases h
    · exact hf k x h
  · exact hf
theorem foldUpd_words {f : Int → Option Int} {p : BOp} (hf : wordsF f) (hp : p.ok) : wordsF (foldUpd f p) := by
  have h1 : wordsF (if 0 ≤ writes p then mdel f (writes p) else f) := by
    split
    · intro k x h; unfold mdel at h; split at h
      · cases h
      · exact hf k x h
    · exact hf
  unfold foldUpd
  split
  · intro k x h; unfold mput at h; split at h
    · injection h with h; subst h; exact hp.n
    · exact h1 k x h
  · exact h1
theorem writes_mid {p : BOp} (hp : p.ok) : mid (writes p) := by
  unfold writes; split
  · exact hp.d
  · unfold mid; omega
theorem foldRun_length : ∀ (l : List BOp) (f : Int → Option Int), (foldRun f l).length ≤ l.length
  | [], f => Nat.le_refl _
  | o :: l, f => by
    unfold foldRun
    split
    · split
      · simp
      · have := foldRun_length l (foldUpd (foldMark f o) (foldB (foldMark f o) o).1); simp; omega
    · have := foldRun_length l (foldMark f o); simp; omega
end Go.Proofs.Ytmjfgnnefcimiaa
namespace Go.Proofs.Ytmjfgnnefcimiaa
open Go.RowKit
theorem SlAt.fresh (w : World) (cs : Array Value) (t : TypeId) {xs : List Value} (h : cs.toList = xs) : SlAt (w.alloc (.cells cs t)) (w.alloc (.cells cs t)).heap.size (some ⟨w.heap.size, 0, none⟩) xs := by
  subst h
  refine SlAt.mk_ (by simp) fun j u hu => ?_
  rw [Nat.zero_add, cell_of_row _ _ j cs t _ (heap_alloc_new w _)]
  simpa using hu
end Go.Proofs.Ytmjfgnnefcimiaa
namespace Go.Proofs.Ytmjfgnnefcimiaa
open Go.RowKit

theorem formed_parts {o : BOp} (h : formedB o = true) : isOp o.code = true ∧ fieldB (hasD o.code) o.d = true ∧ fieldB (hasA o.code) o.a = true ∧ fieldB (hasB o.code) o.b = true ∧ (hasN o.code = true ∨ (hasN o.code = false ∧ (o.n != 0) = false)) := by
  unfold formedB at h
  simp only [Bool.and_eq_true, Bool.or_eq_true] at h
  obtain ⟨⟨⟨⟨h1, h2⟩, h3⟩, h4⟩, h5⟩ := h
  refine ⟨h1, h2, h3, h4, ?_⟩
  cases hN : hasN o.code
  · right; refine ⟨rfl, ?_⟩; rw [hN] at h5; simp at h5; simp [h5]
  · exact .inl rfl

section
variable (g : Nat) (s : Ck) (o : BOp) (last exit : Bool) (w : World)

set_option maxHeartbeats 1000000 in
theorem next_unplaced (hg : Has w g (ckRow s)) (hf : formedB o = true) (h : placedB s o last exit = false) :
    Calls Try.prog 70 #[.pointer (some ⟨g, 0, none⟩), opV o, .bool last, .bool exit] w (CkPost g w (ckNext s o last exit)) := by
  have hr : Hid (ckNext s o last exit = none) := by unfold Hid ckNext; simp [h]
  have hglt := hg.lt
  have hgl1 : g < w.heap.size + 1 := by omega
  have q2 : w.cell? ⟨g, 2, none⟩ = some (.bool s.changed) := (hg 2 _ rfl).1
  clear hg
  obtain ⟨hI, hd, ha, hb, hN⟩ := formed_parts hf
  clear hf
  unfold placedB at h
  unfold opV
  by_cases hE : endsB o.code = last
  · have hE' : (endsB o.code == last) = true := by simp [hE]
    rw [hE'] at h
    have HE := Lib.hid hE
    clear hE hE'
    by_cases h23 : (o.code == 23 && !exit) = true
    · have h23' : (o.code == 23) = true ∧ exit = false := by simpa using h23
      obtain ⟨h1, rfl⟩ := h23'
      clear h h23
      have hE := HE.out
      cases last
      all_goals rcases hN with hN | ⟨hN, h0⟩
      all_goals
        go_enter Try.func70, Try.ntmps70
        go_wp2_with (first | (go_at_call 73; refine (shapeOf_any _ _).mono ?_; rintro e w1 ⟨rfl, hb1⟩; obtain ⟨hc1, hf1⟩ := bcell hb1; have hz1 := hb1.size; try simp only [World.size_alloc] at hz1; have hy1_0 : w.heap.size < w1.heap.size := (by omega); have hc1_0 := fun o => hc1 (w.heap.size) o (by first | omega | (simp; done) | (simp; omega)); have hf1_0 := fun o => hf1 (w.heap.size) o (by first | omega | (simp; done) | (simp; omega)); have hy1_1 : g < w1.heap.size := (by omega); have hc1_1 := fun o => hc1 (g) o (by first | omega | (simp; done) | (simp; omega)); have hf1_1 := fun o => hf1 (g) o (by first | omega | (simp; done) | (simp; omega))) | (go_at_call 94; refine (field_ir _ _ _).mono ?_; rintro e w' ⟨rfl, rfl⟩) | (go_at_call 95; refine (ends_ir _ _).mono ?_; rintro e w' ⟨rfl, rfl⟩))
        go_ret
        exact post_none hr.out rfl (by repeat (first | exact World.grownBy.refl _ _ | assumption | (with_reducible refine only_drew ?_) | (with_reducible refine only_drewN ?_ _) | (with_reducible refine only_alloc ?_ _) | (with_reducible refine only_setCell ?_ (by first | exact .inl rfl | (right; simp; omega)) _) | (with_reducible refine only_below ?_ (by assumption) (by first | exact Nat.le_refl _ | assumption | (simp; done) | (simp; omega) | omega))))
    · have h23' : (o.code == 23 && !exit) = false := by simpa using h23
      rw [h23'] at h
      have hLC : leaves o.code = true ∧ s.changed = true := by simpa using h
      obtain ⟨hL, hC⟩ := hLC
      rw [hC] at q2
      clear h h23 hC
      have h3 : (o.code == 23) = false ∨ ((o.code == 23) = true ∧ exit = true) := by
        cases hx : (o.code == 23) <;> cases exit <;> simp_all
      clear h23'
      have hE := HE.out
      cases last
      all_goals rcases h3 with h3 | ⟨h3, rfl⟩
      all_goals rcases hN with hN | ⟨hN, h0⟩
      all_goals
        go_enter Try.func70, Try.ntmps70
        go_wp2_with (first | (go_at_call 73; refine (shapeOf_any _ _).mono ?_; rintro e w1 ⟨rfl, hb1⟩; obtain ⟨hc1, hf1⟩ := bcell hb1; have hz1 := hb1.size; try simp only [World.size_alloc] at hz1; have hy1_0 : w.heap.size < w1.heap.size := (by omega); have hc1_0 := fun o => hc1 (w.heap.size) o (by first | omega | (simp; done) | (simp; omega)); have hf1_0 := fun o => hf1 (w.heap.size) o (by first | omega | (simp; done) | (simp; omega)); have hy1_1 : g < w1.heap.size := (by omega); have hc1_1 := fun o => hc1 (g) o (by first | omega | (simp; done) | (simp; omega)); have hf1_1 := fun o => hf1 (g) o (by first | omega | (simp; done) | (simp; omega))) | (go_at_call 94; refine (field_ir _ _ _).mono ?_; rintro e w' ⟨rfl, rfl⟩) | (go_at_call 95; refine (ends_ir _ _).mono ?_; rintro e w' ⟨rfl, rfl⟩))
        go_ret
        exact post_none hr.out rfl (by repeat (first | exact World.grownBy.refl _ _ | assumption | (with_reducible refine only_drew ?_) | (with_reducible refine only_drewN ?_ _) | (with_reducible refine only_alloc ?_ _) | (with_reducible refine only_setCell ?_ (by first | exact .inl rfl | (right; simp; omega)) _) | (with_reducible refine only_below ?_ (by assumption) (by first | exact Nat.le_refl _ | assumption | (simp; done) | (simp; omega) | omega))))
  · clear h
    cases last
    · have hE' : endsB o.code = true := by simpa using hE
      clear hE
      rcases hN with hN | ⟨hN, h0⟩
      all_goals
        go_enter Try.func70, Try.ntmps70
        go_wp2_with (first | (go_at_call 73; refine (shapeOf_any _ _).mono ?_; rintro e w1 ⟨rfl, hb1⟩; obtain ⟨hc1, hf1⟩ := bcell hb1; have hz1 := hb1.size; try simp only [World.size_alloc] at hz1; have hy1_0 : w.heap.size < w1.heap.size := (by omega); have hc1_0 := fun o => hc1 (w.heap.size) o (by first | omega | (simp; done) | (simp; omega)); have hf1_0 := fun o => hf1 (w.heap.size) o (by first | omega | (simp; done) | (simp; omega)); have hy1_1 : g < w1.heap.size := (by omega); have hc1_1 := fun o => hc1 (g) o (by first | omega | (simp; done) | (simp; omega)); have hf1_1 := fun o => hf1 (g) o (by first | omega | (simp; done) | (simp; omega))) | (go_at_call 94; refine (field_ir _ _ _).mono ?_; rintro e w' ⟨rfl, rfl⟩) | (go_at_call 95; refine (ends_ir _ _).mono ?_; rintro e w' ⟨rfl, rfl⟩))
        go_ret
        exact post_none hr.out rfl (by repeat (first | exact World.grownBy.refl _ _ | assumption | (with_reducible refine only_drew ?_) | (with_reducible refine only_drewN ?_ _) | (with_reducible refine only_alloc ?_ _) | (with_reducible refine only_setCell ?_ (by first | exact .inl rfl | (right; simp; omega)) _) | (with_reducible refine only_below ?_ (by assumption) (by first | exact Nat.le_refl _ | assumption | (simp; done) | (simp; omega) | omega))))
    · have hE' : endsB o.code = false := by simpa using hE
      clear hE
      rcases hN with hN | ⟨hN, h0⟩
      all_goals
        go_enter Try.func70, Try.ntmps70
        go_wp2_with (first | (go_at_call 73; refine (shapeOf_any _ _).mono ?_; rintro e w1 ⟨rfl, hb1⟩; obtain ⟨hc1, hf1⟩ := bcell hb1; have hz1 := hb1.size; try simp only [World.size_alloc] at hz1; have hy1_0 : w.heap.size < w1.heap.size := (by omega); have hc1_0 := fun o => hc1 (w.heap.size) o (by first | omega | (simp; done) | (simp; omega)); have hf1_0 := fun o => hf1 (w.heap.size) o (by first | omega | (simp; done) | (simp; omega)); have hy1_1 : g < w1.heap.size := (by omega); have hc1_1 := fun o => hc1 (g) o (by first | omega | (simp; done) | (simp; omega)); have hf1_1 := fun o => hf1 (g) o (by first | omega | (simp; done) | (simp; omega))) | (go_at_call 94; refine (field_ir _ _ _).mono ?_; rintro e w' ⟨rfl, rfl⟩) | (go_at_call 95; refine (ends_ir _ _).mono ?_; rintro e w' ⟨rfl, rfl⟩))
        go_ret
        exact post_none hr.out rfl (by repeat (first | exact World.grownBy.refl _ _ | assumption | (with_reducible refine only_drew ?_) | (with_reducible refine only_drewN ?_ _) | (with_reducible refine only_alloc ?_ _) | (with_reducible refine only_setCell ?_ (by first | exact .inl rfl | (right; simp; omega)) _) | (with_reducible refine only_below ?_ (by assumption) (by first | exact Nat.le_refl _ | assumption | (simp; done) | (simp; omega) | omega))))

end
end Go.Proofs.Ytmjfgnnefcimiaa
