/- Plain: the evaluation of the operations of an instruction of Q is a step of the plain machine. -/
import Derived.Test.YtnhdcclpjildjaaGreatK12
namespace Go.Proofs.YtnhdcclpjildjaaGreat
open Go.RowKit

def updR (R : Int → Int) (d x : Int) : Int → Int := if d = 0 then R else fun j => if j = d then x else R j
def takenQ (op d a : Int) : Bool :=
 if op = 32 then decide (d = a) else if op = 33 then decide (d ≠ a) else if op = 34 then decide (d < a) else if op = 35 then decide (¬ d < a) else if op = 36 then decide (signedI d < signedI a) else decide (¬ signedI d < signedI a)
def stepQ (i : QI) (at_ : Int) (R : Int → Int) (M : MemP) : Option ((Int → Int) × Int × MemP) :=
 if i.op = 10 ∧ R i.b = 0 then none
 else if qCode i.op ≠ 0 then some (updR R i.d (wordOp (qCode i.op) (R i.a) (if 16 ≤ i.op then i.imm else R i.b)), cut32 (at_ + 4), M)
 else if i.op = 41 then some (updR R i.d (cut32 (i.imm * 1024)), cut32 (at_ + 4), M)
 else if i.op = 23 then (match M.bad ((R i.a + i.imm) % 4294967296) 1 0 4 with | none => some (updR R i.d (M.load ((R i.a + i.imm) % 4294967296) 0 4), cut32 (at_ + 4), M) | some _ => none)
 else if i.op = 24 then (match M.bad ((R i.a + i.imm) % 4294967296) 1 0 1 with | none => some (updR R i.d (M.load ((R i.a + i.imm) % 4294967296) 0 1), cut32 (at_ + 4), M) | some _ => none)
 else if i.op = 25 then (match M.bad ((R i.a + i.imm) % 4294967296) 2 0 4 with | none => some (R, cut32 (at_ + 4), M.storeM ((R i.a + i.imm) % 4294967296) 4 (R i.d)) | some _ => none)
 else if i.op = 26 then (match M.bad ((R i.a + i.imm) % 4294967296) 2 0 1 with | none => some (R, cut32 (at_ + 4), M.storeM ((R i.a + i.imm) % 4294967296) 1 (R i.d)) | some _ => none)
 else if i.op = 27 then some (updR R i.d (cut32 (at_ + 4)), (R i.a + i.imm) % 4294967296 / 4 * 4, M)
 else if i.op = 40 then some (updR R i.d (cut32 (at_ + 4)), cut32 (at_ + 4 * i.imm), M)
 else if 32 ≤ i.op ∧ i.op ≤ 37 then some (R, if takenQ i.op (R i.d) (R i.a) = true then cut32 (at_ + 4 * i.imm) else cut32 (at_ + 4), M)
 else none
structure RegOk (vs : List Int) (R : Int → Int) : Prop where
 vars : VarsOk vs
 regs : ∀ j, 0 ≤ j → j < 16 → getV vs j = R j
 zero : R 0 = 0
theorem RegOk.setT {vs : List Int} {R : Int → Int} (h : RegOk vs R) {d x : Int} (hd : 20 ≤ d ∧ d < 28) (hx : word x) : RegOk (vs.set d.toNat x) R :=
 ⟨set_ok h.vars _ hx, fun j h0 h1 => by rw [getV_set_ne (by omega) h0 (by omega)]; exact h.regs j h0 h1, h.zero⟩
theorem RegOk.setG {vs : List Int} {R : Int → Int} (h : RegOk vs R) {d x : Int} (hd : 1 ≤ d ∧ d < 16) (hx : word x) : RegOk (vs.set d.toNat x) (updR R d x) := by
 refine ⟨set_ok h.vars _ hx, fun j h0 h1 => ?_, ?_⟩
 ·unfold updR
  rw [if_neg (by omega)]
  by_cases hj : j = d
  ·subst hj; rw [if_pos rfl, getV_set h.vars ⟨h0, by omega⟩]
  ·rw [if_neg hj, getV_set_ne (by omega) h0 hj]; exact h.regs j h0 h1
 ·unfold updR
  rw [if_neg (by omega)]
  rw [if_neg (by omega)]; exact h.zero
theorem RegOk.set0 {vs : List Int} {R : Int → Int} (h : RegOk vs R) (x : Int) : RegOk vs (updR R 0 x) := by unfold updR; rw [if_pos rfl]; exact h
section
variable {ats : List Int} {l : List BOp} {k : Int} {vs : List Int} {M : MemP}
theorem ev_const {d n : Int} : evalL ats (⟨1, d, 0, 0, n⟩ :: l) k vs M = evalL ats l k (vs.set d.toNat n) M := by
 rw [evalL_go (by dsimp only; omega) (by dsimp only; omega) rfl]; rfl
theorem ap_bin {c d a b : Int} (hc : 3 ≤ c ∧ c ≤ 15) : applyP ⟨c, d, a, b, 0⟩ vs M = ⟨vs.set d.toNat (wordOp c (getV vs a) (getV vs b)), true, M⟩ := by
 unfold applyP
 dsimp only
 rw [if_neg (by omega), if_neg (by omega), if_neg (by omega), if_neg (by omega), if_neg (by omega), if_neg (by omega), if_pos (by unfold isBin; rw [decide_eq_true_eq]; exact hc)]
theorem ev_bin {c d a b : Int} (hc : 3 ≤ c ∧ c ≤ 15) : evalL ats (⟨c, d, a, b, 0⟩ :: l) k vs M = evalL ats l k (vs.set d.toNat (wordOp c (getV vs a) (getV vs b))) M := by
 rw [evalL_go (by dsimp only; omega) (by dsimp only; omega) (by rw [ap_bin hc]), ap_bin hc]
 congr 1
 unfold markI; rw [if_neg (by dsimp only; omega)]
theorem ev_guard {a : Int} : evalL ats (⟨21, 0, a, 0, 0⟩ :: l) k vs M = if getV vs a = 0 then ⟨⟨true, k, k, (ats[k.toNat]?).getD 0, guestsL vs⟩, M⟩ else evalL ats l k vs M := by
 have hap : applyP ⟨21, 0, a, 0, 0⟩ vs M = ⟨vs, getV vs a != 0, M⟩ := rfl
 split
 ·rename_i h
  rw [evalL_leave (by dsimp only; omega) (by dsimp only; omega) (by rw [hap, h]; rfl), hap]; rfl
 ·rename_i h
  rw [evalL_go (by dsimp only; omega) (by dsimp only; omega) (by rw [hap]; simpa using h), hap]; rfl
theorem ap_load {c d a n : Int} (hc : c = 16 ∨ c = 17) : applyP ⟨c, d, a, 0, n⟩ vs M = (match M.bad ((getV vs a + n) % 4294967296) 1 0 (szN c) with
  | none => ⟨vs.set d.toNat (M.load ((getV vs a + n) % 4294967296) 0 (szN c)), true, M⟩
  | some _ => ⟨vs, false, M⟩) := by
 unfold applyP
 dsimp only
 rw [if_neg (by omega), if_neg (by omega), if_pos hc]
 all_goals (cases M.bad ((getV vs a + n) % 4294967296) 1 0 (szN c) <;> rfl)
theorem ev_load {c d a n : Int} (hc : c = 16 ∨ c = 17) : evalL ats (⟨c, d, a, 0, n⟩ :: l) k vs M = (match M.bad ((getV vs a + n) % 4294967296) 1 0 (szN c) with
  | none => evalL ats l k (vs.set d.toNat (M.load ((getV vs a + n) % 4294967296) 0 (szN c))) M
  | some _ => ⟨⟨true, k, k, (ats[k.toNat]?).getD 0, guestsL vs⟩, M⟩) := by
 have hm : markI ⟨c, d, a, 0, n⟩ k = k := by unfold markI; rw [if_neg (by dsimp only; omega)]
 have hap := ap_load (M := M) (vs := vs) (d := d) (a := a) (n := n) hc
 cases hb : M.bad ((getV vs a + n) % 4294967296) 1 0 (szN c) with
 | none =>
  rw [hb] at hap
  rw [evalL_go (by dsimp only; omega) (by dsimp only; omega) (by rw [hap]), hap, hm]
 | some y =>
  rw [hb] at hap
  rw [evalL_leave (by dsimp only; omega) (by dsimp only; omega) (by rw [hap]), hap, hm]
theorem ev_store {c a b n : Int} (hc : c = 18 ∨ c = 19) : evalL ats (⟨c, 0, a, b, n⟩ :: l) k vs M = (match M.bad ((getV vs a + n) % 4294967296) 2 0 (szN c) with
  | none => evalL ats l k vs (M.storeM ((getV vs a + n) % 4294967296) (szN c) (getV vs b))
  | some _ => ⟨⟨true, k, k, (ats[k.toNat]?).getD 0, guestsL vs⟩, M⟩) := by
 have hm : markI ⟨c, 0, a, b, n⟩ k = k := by unfold markI; rw [if_neg (by dsimp only; omega)]
 have hap : applyP ⟨c, 0, a, b, n⟩ vs M = ⟨vs, (M.bad ((getV vs a + n) % 4294967296) 2 0 (szN c)).isNone, M.storeM ((getV vs a + n) % 4294967296) (szN c) (getV vs b)⟩ := by
  unfold applyP
  dsimp only
  rw [if_neg (by omega), if_neg (by omega), if_neg (by omega), if_pos hc]
 cases hb : M.bad ((getV vs a + n) % 4294967296) 2 0 (szN c) with
 | none =>
  rw [hb] at hap
  rw [evalL_go (by dsimp only; omega) (by dsimp only; omega) (by rw [hap]; rfl), hap, hm]
 | some y =>
  rw [hb] at hap
  rw [evalL_leave (by dsimp only; omega) (by dsimp only; omega) (by rw [hap]; rfl), hap, hm]
  have : M.storeM ((getV vs a + n) % 4294967296) (szN c) (getV vs b) = M := by unfold MemP.storeM; rw [hb]
  rw [this]
theorem ev_set {d n : Int} {R : Int → Int} (h : RegOk vs R) (hd : 0 ≤ d ∧ d < 16) (hn : word n) : ∃ vs', RegOk vs' (updR R d n) ∧ (∀ j, 16 ≤ j → getV vs' j = getV vs j) ∧ ∀ l, evalL ats (qSet d n ++ l) k vs M = evalL ats l k vs' M := by
 unfold qSet
 by_cases h0 : d = 0
 ·subst h0
  rw [if_pos rfl]
  exact ⟨vs, h.set0 n, fun j _ => rfl, fun l => rfl⟩
 ·rw [if_neg h0]
  exact ⟨_, h.setG ⟨by omega, hd.2⟩ hn, fun j hj => getV_set_ne (by omega) (by omega) (by omega), fun l => ev_const⟩
end
theorem and_four {x : Int} (h : word x) : andI x 4294967292 = x / 4 * 4 := by
 unfold word at h
 obtain ⟨n, rfl⟩ : ∃ n : Nat, x = n := ⟨x.toNat, by omega⟩
 have hn : n < 4294967296 := by omega
 unfold andI
 rw [Int.toNat_natCast]
 show (((n &&& 4294967292 : Nat) : Int)) = _
 have key : n &&& 4294967292 = n / 4 * 4 := by
  have e1 : n / 4 * 4 = (n >>> 2) <<< 2 := by rw [Nat.shiftLeft_eq, Nat.shiftRight_eq_div_pow]
  have e2 : (4294967292 : Nat) = (2 ^ 30 - 1) <<< 2 := by decide
  rw [e1, e2]
  refine Nat.eq_of_testBit_eq fun i => ?_
  rw [Nat.testBit_and, Nat.testBit_shiftLeft, Nat.testBit_shiftLeft, Nat.testBit_shiftRight, Nat.testBit_two_pow_sub_one]
  by_cases hi : 2 ≤ i
  ·have e3 : 2 + (i - 2) = i := by omega
   rw [e3]
   by_cases hi2 : i - 2 < 30
   ·simp [hi, hi2]
   ·have : n.testBit i = false := Nat.testBit_lt_two_pow (Nat.lt_of_lt_of_le hn (by
     have : 2 ^ 32 ≤ 2 ^ i := Nat.pow_le_pow_right (by omega) (by omega)
     omega))
    simp [this]
  ·simp [hi]
 rw [key]
 omega
section
variable {ats : List Int} {k : Int} {vs : List Int} {R : Int → Int} {M : MemP} {i : QI}
theorem upd_guest {vs' : List Int} (h : RegOk vs' R) (x : Int) {d : Int} (hd : d = 0) : RegOk vs' (updR R d x) := by subst hd; exact h.set0 x
theorem arith_eval (hi : i.ok) (h : RegOk vs R) (hc : qCode i.op ≠ 0) :
  (i.op = 10 ∧ R i.b = 0 → ∀ l, evalL ats (qArith i ++ l) k vs M = ⟨⟨true, k, k, (ats[k.toNat]?).getD 0, guestsL vs⟩, M⟩) ∧
  (¬ (i.op = 10 ∧ R i.b = 0) → ∃ vs', RegOk vs' (updR R i.d (wordOp (qCode i.op) (R i.a) (if 16 ≤ i.op then i.imm else R i.b))) ∧ (∀ j, 16 ≤ j → j < 19 → getV vs' j = getV vs j) ∧ ∀ l, evalL ats (qArith i ++ l) k vs M = evalL ats l k vs' M) := by
 have hcc := qCode_bin hc
 have ea : getV vs i.a = R i.a := h.regs _ hi.a.1 hi.a.2
 have eb : getV vs i.b = R i.b := h.regs _ hi.b.1 hi.b.2
 have wa : word (R i.a) := by rw [← ea]; exact getV_word h.vars _
 have wb : word (R i.b) := by rw [← eb]; exact getV_word h.vars _
 have seg : ∃ vs', RegOk vs' (updR R i.d (wordOp (qCode i.op) (R i.a) (if 16 ≤ i.op then i.imm else R i.b))) ∧ (∀ j, 16 ≤ j → j < 19 → getV vs' j = getV vs j) ∧ ∀ l, evalL ats ((if i.d = 0 then [] else if 16 ≤ i.op then [⟨1, 20, 0, 0, i.imm⟩, ⟨qCode i.op, i.d, i.a, 20, 0⟩] else [⟨qCode i.op, i.d, i.a, i.b, 0⟩]) ++ l) k vs M = evalL ats l k vs' M := by
  by_cases hd : i.d = 0
  ·rw [if_pos hd]
   exact ⟨vs, upd_guest h _ hd, fun j _ _ => rfl, fun l => rfl⟩
  ·have hd1 : 1 ≤ i.d ∧ i.d < 16 := by have := hi.d; omega
   rw [if_neg hd]
   by_cases hop : 16 ≤ i.op
   ·rw [if_pos hop, if_pos hop]
    have h1 := h.setT (d := 20) ⟨by omega, by omega⟩ hi.imm
    have e1 : getV (vs.set (20 : Int).toNat i.imm) i.a = R i.a := h1.regs _ hi.a.1 hi.a.2
    have e2 : getV (vs.set (20 : Int).toNat i.imm) 20 = i.imm := getV_set h.vars ⟨by omega, by omega⟩
    refine ⟨_, h1.setG hd1 (wordOp_word wa hi.imm), fun j h16 h19 => ?_, fun l => ?_⟩
    ·rw [getV_set_ne (by omega) (by omega) (by omega), getV_set_ne (by omega) (by omega) (by omega)]
    ·show evalL ats (⟨1, 20, 0, 0, i.imm⟩ :: (⟨qCode i.op, i.d, i.a, 20, 0⟩ :: l)) k vs M = _
     rw [ev_const, ev_bin hcc, e1, e2]
   ·rw [if_neg hop, if_neg hop]
    refine ⟨_, h.setG hd1 (wordOp_word wa wb), fun j h16 h19 => getV_set_ne (by omega) (by omega) (by omega), fun l => ?_⟩
    show evalL ats (⟨qCode i.op, i.d, i.a, i.b, 0⟩ :: l) k vs M = _
    rw [ev_bin hcc, ea, eb]
 unfold qArith
 refine ⟨fun ⟨h10, hz⟩ l => ?_, fun hn => ?_⟩
 ·rw [if_pos h10]
  show evalL ats (⟨21, 0, i.b, 0, 0⟩ :: _) k vs M = _
  rw [ev_guard, if_pos (eb.trans hz)]
 ·by_cases h10 : i.op = 10
  ·rw [if_pos h10]
   obtain ⟨vs', s1, s2, s3⟩ := seg
   refine ⟨vs', s1, s2, fun l => ?_⟩
   rw [List.append_assoc]
   show evalL ats (⟨21, 0, i.b, 0, 0⟩ :: _) k vs M = _
   rw [ev_guard, if_neg (fun hz => hn ⟨h10, eb.symm.trans hz⟩)]
   exact s3 l
  ·rw [if_neg h10]
   exact seg
theorem load_eval {c d a n : Int} (hc : c = 16 ∨ c = 17) (h : RegOk vs R) (hd : 0 ≤ d ∧ d < 16) (ha : 0 ≤ a ∧ a < 16) :
  (match M.bad ((R a + n) % 4294967296) 1 0 (szN c) with
   | none => ∃ vs', RegOk vs' (updR R d (M.load ((R a + n) % 4294967296) 0 (szN c))) ∧ (∀ j, 16 ≤ j → j < 19 → getV vs' j = getV vs j) ∧ ∀ l, evalL ats (⟨c, qTarget d, a, 0, n⟩ :: l) k vs M = evalL ats l k vs' M
   | some _ => ∀ l, evalL ats (⟨c, qTarget d, a, 0, n⟩ :: l) k vs M = ⟨⟨true, k, k, (ats[k.toNat]?).getD 0, guestsL vs⟩, M⟩) := by
 have ea : getV vs a = R a := h.regs _ ha.1 ha.2
 have key : ∀ l, evalL ats (⟨c, qTarget d, a, 0, n⟩ :: l) k vs M = _ := fun l => ev_load hc
 rw [ea] at key
 cases hb : M.bad ((R a + n) % 4294967296) 1 0 (szN c) with
 | some y => rw [hb] at key; exact key
 | none =>
  rw [hb] at key
  refine ⟨_, ?_, ?_, key⟩
  ·unfold qTarget
   split
   ·rename_i h0
    exact upd_guest (h.setT ⟨by omega, by omega⟩ (load_word M _ _ _)) _ h0
   ·exact h.setG ⟨by omega, hd.2⟩ (load_word M _ _ _)
  ·intro j h16 h19
   refine getV_set_ne ?_ (by omega) ?_ <;> unfold qTarget <;> split <;> omega
theorem xor_one (b : Bool) : xorI (bitI b) 1 = bitI (!b) := by cases b <;> rfl
theorem xor_zero {d a : Int} (hd : word d) (ha : word a) : xorI d a ≠ 0 ↔ d ≠ a := by
 unfold word at hd ha
 unfold xorI
 constructor
 ·intro h e
  subst e
  rw [Nat.xor_self] at h
  exact h rfl
 ·intro h e
  have e1 : d.toNat ^^^ a.toNat = 0 := by omega
  have : d.toNat = a.toNat := by
   have e2 : d.toNat ^^^ a.toNat ^^^ a.toNat = 0 ^^^ a.toNat := by rw [e1]
   rw [Nat.xor_assoc, Nat.xor_self, Nat.xor_zero, Nat.zero_xor] at e2
   exact e2
  omega
theorem bit_ne (b : Bool) : bitI b ≠ 0 ↔ b = true := by cases b <;> simp [bitI]
theorem test_eval (hi : i.ok) (h : RegOk vs R) (hc : 32 ≤ i.op ∧ i.op ≤ 37) : ∃ vs', RegOk vs' R ∧ (∀ j, 16 ≤ j → j < 19 → getV vs' j = getV vs j) ∧ (getV vs' 20 ≠ 0 ↔ takenQ i.op (R i.d) (R i.a) = true) ∧ ∀ l, evalL ats (qTest i ++ l) k vs M = evalL ats l k vs' M := by
 have ed : getV vs i.d = R i.d := h.regs _ hi.d.1 hi.d.2
 have ea : getV vs i.a = R i.a := h.regs _ hi.a.1 hi.a.2
 have wd : word (R i.d) := by rw [← ed]; exact getV_word h.vars _
 have wa : word (R i.a) := by rw [← ea]; exact getV_word h.vars _
 have hcc := test_code hc
 have hw := wordOp_word (c := qTestCode i.op) wd wa
 have h1 := h.setT (d := 20) ⟨by omega, by omega⟩ hw
 have g20 : getV (vs.set (20 : Int).toNat (wordOp (qTestCode i.op) (R i.d) (R i.a))) 20 = wordOp (qTestCode i.op) (R i.d) (R i.a) := getV_set h.vars ⟨by omega, by omega⟩
 have fl : ∀ j, 16 ≤ j → j < 19 → getV (vs.set (20 : Int).toNat (wordOp (qTestCode i.op) (R i.d) (R i.a))) j = getV vs j := fun j h16 h19 => getV_set_ne (by omega) (by omega) (by omega)
 unfold qTest
 by_cases hx : i.op = 35 ∨ i.op = 37
 ·rw [if_pos hx]
  have h2 := h1.setT (d := 21) (x := 1) ⟨by omega, by omega⟩ word1
  have e1 : getV ((vs.set (20 : Int).toNat (wordOp (qTestCode i.op) (R i.d) (R i.a))).set (21 : Int).toNat 1) 20 = wordOp (qTestCode i.op) (R i.d) (R i.a) := by rw [getV_set_ne (by omega) (by omega) (by omega)]; exact g20
  have e2 : getV ((vs.set (20 : Int).toNat (wordOp (qTestCode i.op) (R i.d) (R i.a))).set (21 : Int).toNat 1) 21 = 1 := getV_set h1.vars ⟨by omega, by omega⟩
  have hw3 : word (wordOp 7 (wordOp (qTestCode i.op) (R i.d) (R i.a)) 1) := wordOp_word hw word1
  refine ⟨_, h2.setT (d := 20) ⟨by omega, by omega⟩ hw3, fun j h16 h19 => ?_, ?_, fun l => ?_⟩
  ·rw [getV_set_ne (by omega) (by omega) (by omega), getV_set_ne (by omega) (by omega) (by omega)]
   exact fl j h16 h19
  ·rw [getV_set h2.vars ⟨by omega, by omega⟩]
   rcases hx with hx | hx
   ·rw [hx]
    show xorI (bitI (decide (R i.d < R i.a))) 1 ≠ 0 ↔ decide (¬ R i.d < R i.a) = true
    rw [xor_one, bit_ne]
    simp
   ·rw [hx]
    show xorI (bitI (decide (signedI (R i.d) < signedI (R i.a)))) 1 ≠ 0 ↔ decide (¬ signedI (R i.d) < signedI (R i.a)) = true
    rw [xor_one, bit_ne]
    simp
  ·show evalL ats (⟨qTestCode i.op, 20, i.d, i.a, 0⟩ :: ⟨1, 21, 0, 0, 1⟩ :: ⟨7, 20, 20, 21, 0⟩ :: l) k vs M = _
   rw [ev_bin hcc, ed, ea, ev_const, ev_bin ⟨by omega, by omega⟩, e1, e2]
 ·rw [if_neg hx]
  refine ⟨_, h1, fl, ?_, fun l => ?_⟩
  ·rw [g20]
   have hop : i.op = 32 ∨ i.op = 33 ∨ i.op = 34 ∨ i.op = 36 := by omega
   rcases hop with hop | hop | hop | hop
   ·rw [hop]
    show bitI (decide (R i.d = R i.a)) ≠ 0 ↔ decide (R i.d = R i.a) = true
    exact bit_ne _
   ·rw [hop]
    show xorI (R i.d) (R i.a) ≠ 0 ↔ decide (R i.d ≠ R i.a) = true
    rw [xor_zero wd wa]
    simp
   ·rw [hop]
    show bitI (decide (R i.d < R i.a)) ≠ 0 ↔ decide (R i.d < R i.a) = true
    exact bit_ne _
   ·rw [hop]
    show bitI (decide (signedI (R i.d) < signedI (R i.a))) ≠ 0 ↔ decide (signedI (R i.d) < signedI (R i.a)) = true
    exact bit_ne _
  ·show evalL ats (⟨qTestCode i.op, 20, i.d, i.a, 0⟩ :: l) k vs M = _
   rw [ev_bin hcc, ed, ea]
end
end Go.Proofs.YtnhdcclpjildjaaGreat
namespace Go.Proofs.YtnhdcclpjildjaaGreat
open Go.RowKit

theorem grp_T2 (g g1 g2 g3 g4 g5 n p : Nat) (M : MemP) (t1 t2 : TypeId) (us1 us2 : List Value) : grpOk ⟨[g, g1, g2, g3, g4, g5], []⟩ (memL 0 n p M [.cells t1 (us1.map .v), .cells t2 (us2.map .v)]) = true :=
 grp_memT g g1 g2 g3 g4 g5 n p M _ (by simp only [sbnd, Ow.bnd, bndL_vals])
theorem memL_bnd2 (n p : Nat) (M : MemP) (t1 t2 : TypeId) (us1 us2 : List Value) : sbnd 8 (memL 0 n p M [.cells t1 (us1.map .v), .cells t2 (us2.map .v)]) = true := by
 simp only [sbnd, Ow.bnd, bndL_vals, bndL, CV.bnd]
 rfl
theorem eight {gs : List Nat} (h : gs.length = 8) : ∃ x0 x1 x2 x3 x4 x5 x6 x7, gs = [x0, x1, x2, x3, x4, x5, x6, x7] := by
 match gs, h with
 | [x0, x1, x2, x3, x4, x5, x6, x7], _ => exact ⟨x0, x1, x2, x3, x4, x5, x6, x7, rfl⟩
def ApplyR (o : BOp) (vs : List Int) (n p : Nat) (M : MemP) (g : Nat) (gs : List Nat) (w : World) : Ending → World → Prop := fun e w' => e = .returned (.tuple #[varsV (applyP o vs M).vs, .bool (applyP o vs M).stays]) ∧ ObjsAt w' (g :: gs) (memS 0 n p (applyP o vs M).mem) ∧ GrownBys w w' (g :: gs)
set_option maxRecDepth 100000 in
set_option maxHeartbeats 1000000 in
theorem apply_walk (o : BOp) (vs : List Int) (n p : Nat) (M : MemP) (w : World) (g : Nat) (gs : List Nat) (hU : ObjsAt w (g :: gs) (memS 0 n p M)) (hM : M.ok n p) (hf : formedB o = true) (ho : o.ok) (hvs : VarsOk vs) :
  Calls Tryz.prog 59 #[opV o, varsV vs, .pointer (some ⟨g, 0, none⟩)] w (ApplyR o vs n p M g gs w) := by
 obtain ⟨g0, g1, g2, g3, g4, g5, hg⟩ := six_blocks hU
 injection hg with hg0 hgs
 subst hgs; subst hg0
 have ha := formed_a hf
 have hb := formed_b hf
 have hd := formed_d' hf
 have hvl := varsC_length hvs
 have hz := zeroC_length
 refine calls_objs_satq [AV.of (opV o), AV.of (varsV vs), .p (.c (.ref 0 0))] [opV o, varsV vs, .pointer (some ⟨g, 0, none⟩)] Tryz.func59 Tryz.ntmps59 rfl (by simp) hU ⟨_, _, rfl, AV.of_den _ _, _, _, rfl, AV.of_den _ _, _, _, rfl, den_mk_ref rfl, rfl⟩ ?_
 refine satq_seq ?_
 conv => whnf
 refine satq_seq ?_
 conv => whnf
 refine ⟨⟨by omega, by omega⟩, ?_⟩
 conv => whnf
 erw [var_at hvs ha]
 conv => whnf
 refine satq_seq ?_
 conv => whnf
 refine ⟨⟨by omega, by omega⟩, ?_⟩
 conv => whnf
 erw [var_at hvs hb]
 conv => whnf
 refine satq_seq ?_
 conv => whnf
 refine call_con (x := .agg #[.bool (isOp o.code), .bool (hasD o.code), .bool (hasA o.code), .bool (hasB o.code), .bool (hasN o.code), .bool (leaves o.code)]) rfl (by kernel_rfl) (fun r w' hR => shapeOf_ref o.code w') ?_
 conv => whnf
 obtain ⟨a, hae⟩ : ∃ a, a = getV vs o.a := ⟨_, rfl⟩
 obtain ⟨b, hbe⟩ : ∃ b, b = getV vs o.b := ⟨_, rfl⟩
 have haw : word a := by rw [hae]; exact getV_word hvs _
 have hbw : word b := by rw [hbe]; exact getV_word hvs _
 rw [← hae, ← hbe]
 refine satq_as (f' := [(2, .p (.c (.ref 0 0))), (3, .p (.c (.ref 6 0))), (4, .p (.c (.ref 7 0))), (6, .p (.c (.ref 8 0))), (7, one (.bool false)), (8, one (.int .u32 a)), (9, one (.int .u32 b)), (10, .p (.c (.ref 9 0)))])
  (S' := memL 0 n p M [.cells 45 ((opC o).map .v), .cells 53 (varsC vs), .cells 53 (varsC (List.replicate 28 0)), .cells 100 [.v (.bool (isOp o.code)), .v (.bool (hasD o.code)), .v (.bool (hasA o.code)), .v (.bool (hasB o.code)), .v (.bool (hasN o.code)), .v (.bool (leaves o.code))]])
  (ent_same rfl (aI rfl (aI rfl (aI rfl (aI rfl (aI rfl (aI rfl (aI rfl (aI rfl trivial)))))))) (aI sM (aI sM (aI sM (aI sM (aI sM (aI sM (aI sM (aI sM (aI sM (aI sM trivial))))))))))) ?_
 have hent : ∀ (f : Fr) (us : List Int) (Z : List CV), Z = varsC us → f.get 4 = .p (.c (.ref 7 0)) → f.get 6 = .p (.c (.ref 8 0)) → Ent w ⟨[g, g1, g2, g3, g4, g5], []⟩ ⟨101, []⟩ f (memL 0 n p M [.cells 45 ((opC o).map .v), .cells 53 Z, .cells 53 (varsC (List.replicate 28 0)), .cells 100 [.v (.bool (isOp o.code)), .v (.bool (hasD o.code)), .v (.bool (hasA o.code)), .v (.bool (hasB o.code)), .v (.bool (hasN o.code)), .v (.bool (leaves o.code))]]) [(4, .p (.c (.ref 6 0))), (6, .p (.c (.ref 7 0)))] (memL 0 n p M [.cells 53 (varsC us), .cells 53 (varsC (List.replicate 28 0))]) := fun f us Z hZ h4 h6 => by
  subst hZ
  exact ent_ren [0, 1, 2, 3, 4, 5, 7, 8] (aI (h4) (aI (h6) trivial)) (aI ((Exists.intro _ (aI rfl sM))) (aI ((Exists.intro _ (aI rfl (aI rfl (Or.inl (renL_vals _ _).symm))))) (aI ((Exists.intro _ (aI rfl (aI rfl (Or.inl (renL_vals _ _).symm))))) (aI ((Exists.intro _ (aI rfl (aI rfl (Or.inl (renL_vals _ _).symm))))) (aI ((Exists.intro _ (aI rfl (aI rfl (Or.inl (renL_vals _ _).symm))))) (aI ((Exists.intro _ (aI rfl (aI rfl (Or.inl (renL_vals _ _).symm))))) (aI ((Exists.intro _ (aI rfl (aI rfl (Or.inl (renL_vals _ _).symm))))) (aI ((Exists.intro _ (aI rfl (aI rfl (Or.inl (renL_vals _ _).symm))))) trivial)))))))) rfl (memL_bnd2 n p M _ _ _ _) rfl rfl rfl
 refine satq_mid (α := { y : List Int × MemP // VarsOk y.1 ∧ applyP o vs M = ⟨y.1, true, y.2⟩ }) (fun _ => [(4, .p (.c (.ref 6 0))), (6, .p (.c (.ref 7 0)))]) (fun y => memL 0 n p y.1.2 [.cells 53 (varsC y.1.1), .cells 53 (varsC (List.replicate 28 0))]) ?_ fun y => ?_
 ·by_cases c1 : o.code = 1
  ·refine satq_vc ?_
   conv => whnf
   refine ⟨fun _ => ?_, fun h => absurd h (by simp [c1])⟩
   conv => whnf
   refine ⟨⟨by omega, by omega⟩, ?_⟩
   conv => whnf
   erw [var_ble hvs hd]
   conv => whnf
   erw [var_ble8 hvs]
   conv => whnf
   exact atq_mid ⟨(vs.set o.d.toNat o.n, M), set_ok hvs _ ho.n, applyP_const c1 vs M⟩ (hent _ _ _ (var_set _ _ _) rfl rfl)
  by_cases c2 : o.code = 2
  ·refine satq_vc ?_
   conv => whnf
   refine ⟨fun h => absurd h (by simp [c2]), fun _ => ?_⟩
   conv => whnf
   refine ⟨fun _ => ?_, fun h => absurd h (by simp [c2])⟩
   conv => whnf
   refine ⟨⟨by omega, by omega⟩, ?_⟩
   conv => whnf
   erw [var_ble hvs hd]
   conv => whnf
   erw [var_ble8 hvs]
   conv => whnf
   exact atq_mid ⟨(vs.set o.d.toNat a, M), set_ok hvs _ haw, by rw [applyP_move c2, hae]⟩ (hent _ _ _ (var_set _ _ _) rfl rfl)
  have n1 : (o.code == 1) = false := by simp [c1]
  have n2 : (o.code == 2) = false := by simp [c2]
  by_cases c3 : o.code = 16 ∨ o.code = 17
  ·have hsz : (szN o.code : Int) = sizeI o.code := by unfold szN sizeI; rcases c3 with h | h <;> rw [h] <;> rfl
   have hsb : 1 ≤ szN o.code ∧ szN o.code ≤ 4 := by unfold szN; split <;> omega
   have hAP : applyP o vs M = (match M.bad ((a + o.n) % 4294967296) 1 0 (szN o.code) with
     | none => ⟨vs.set o.d.toNat (M.load ((a + o.n) % 4294967296) 0 (szN o.code)), true, M⟩
     | some _ => ⟨vs, false, M⟩) := by
    rw [hae]; unfold applyP; rw [if_neg c1, if_neg c2, if_pos c3]
    cases M.bad ((getV vs o.a + o.n) % 4294967296) 1 0 (szN o.code) <;> rfl
   obtain ⟨x, y, k, hX, hxw, hk⟩ : ∃ x y k, M.loadV ((a + o.n) % 4294967296) (szN o.code) = valV x y k ∧ word x ∧ applyP o vs M = (if k = true then ⟨vs.set o.d.toNat x, true, M⟩ else ⟨vs, false, M⟩) := by
    rw [hAP]
    unfold MemP.loadV
    cases M.bad ((a + o.n) % 4294967296) 1 0 (szN o.code) with
    | none => exact ⟨_, _, true, rfl, load_word M _ _ _, rfl⟩
    | some z => exact ⟨0, z, false, rfl, word0, rfl⟩
   refine satq_seq ?_
   conv => whnf
   refine satq_block ?_
   refine satq_seq ?_
   conv => whnf
   refine satq_cond rfl (fun h => absurd h (by rw [n1]; decide)) fun _ => ?_
   refine satq_seq ?_
   conv => whnf
   refine satq_cond rfl (fun h => absurd h (by rw [n2]; decide)) fun _ => ?_
   refine satq_mid (α := Unit) (fun _ => [(2, .p (.c (.ref 0 0))), (3, .p (.c (.ref 6 0))), (4, .p (.c (.ref 7 0))), (6, .p (.c (.ref 8 0))), (7, one (.bool false)), (8, one (.int .u32 a)), (9, one (.int .u32 b)), (10, .p (.c (.ref 9 0))), (25, one (.int .i64 o.code)), (49, one (.bool true))]) (fun _ => memL 0 n p M [.cells 45 ((opC o).map .v), .cells 53 (varsC vs), .cells 53 (varsC (List.replicate 28 0)), .cells 100 [.v (.bool (isOp o.code)), .v (.bool (hasD o.code)), .v (.bool (hasA o.code)), .v (.bool (hasB o.code)), .v (.bool (hasN o.code)), .v (.bool (leaves o.code))]]) ?_ fun _ => ?_
   ·refine satq_vc ?_
    conv => whnf
    refine ⟨fun h => ?_, fun h => ?_⟩
    ·conv => whnf
     exact atq_mid () (ent_same rfl (aI rfl (aI rfl (aI rfl (aI rfl (aI rfl (aI rfl (aI rfl (aI rfl (aI rfl (aI ((congrArg (fun z => one (.bool z)) h)) trivial)))))))))) (aI sM (aI sM (aI sM (aI sM (aI sM (aI sM (aI sM (aI sM (aI sM (aI sM trivial)))))))))))
    ·have h17 : (o.code == 17) = true := by
      rcases c3 with e | e
      ·rw [e] at h; cases h
      ·rw [e]; rfl
     conv => whnf
     exact atq_mid () (ent_same rfl (aI rfl (aI rfl (aI rfl (aI rfl (aI rfl (aI rfl (aI rfl (aI rfl (aI rfl (aI ((congrArg (fun z => one (.bool z)) h17)) trivial)))))))))) (aI sM (aI sM (aI sM (aI sM (aI sM (aI sM (aI sM (aI sM (aI sM (aI sM trivial)))))))))))
   refine satq_cond rfl (fun _ => ?_) (fun h => absurd h (by decide))
   refine satq_mid (α := Unit) (fun _ => [(2, .p (.c (.ref 0 0))), (3, .p (.c (.ref 6 0))), (4, .p (.c (.ref 7 0))), (6, .p (.c (.ref 8 0))), (7, one (.bool false)), (8, one (.int .u32 a)), (9, one (.int .u32 b)), (10, .p (.c (.ref 9 0))), (25, one (.int .i64 o.code))]) (fun _ => memL 0 n p M [.cells 45 ((opC o).map .v), .cells 53 (varsC vs), .cells 53 (varsC (List.replicate 28 0)), .cells 100 [.v (.bool (isOp o.code)), .v (.bool (hasD o.code)), .v (.bool (hasA o.code)), .v (.bool (hasB o.code)), .v (.bool (hasN o.code)), .v (.bool (leaves o.code))]]) ?_ fun _ => ?_
   ·refine satq_vc ?_
    conv => whnf
    refine q_not_nil rfl rfl rfl rfl ?_
    conv => whnf
    refine ⟨fun h => absurd h (by decide), fun _ => ?_⟩
    conv => whnf
    exact atq_mid () (ent_same rfl (aI rfl (aI rfl (aI rfl (aI rfl (aI rfl (aI rfl (aI rfl (aI rfl (aI rfl trivial))))))))) (aI sM (aI sM (aI sM (aI sM (aI sM (aI sM (aI sM (aI sM (aI sM (aI sM trivial)))))))))))
   refine satq_anew (memL 0 n p M [.cells 53 (varsC vs), .cells 53 (varsC (List.replicate 28 0))]) [0, 1, 2, 3, 4, 5, 7, 8] (aI ((Exists.intro _ (aI rfl sM))) (aI ((Exists.intro _ (aI rfl (aI rfl (Or.inl (renL_vals _ _).symm))))) (aI ((Exists.intro _ (aI rfl (aI rfl (Or.inl (renL_vals _ _).symm))))) (aI ((Exists.intro _ (aI rfl (aI rfl (Or.inl (renL_vals _ _).symm))))) (aI ((Exists.intro _ (aI rfl (aI rfl (Or.inl (renL_vals _ _).symm))))) (aI ((Exists.intro _ (aI rfl (aI rfl (Or.inl (renL_vals _ _).symm))))) (aI ((Exists.intro _ (aI rfl (aI rfl (Or.inl (renL_vals _ _).symm))))) (aI ((Exists.intro _ (aI rfl (aI rfl (Or.inl (renL_vals _ _).symm))))) trivial)))))))) (memL_bnd2 n p M _ _ _ _) rfl rfl rfl rfl fun r w1 gs hR hgl hgs hback => ?_
   obtain ⟨g6, e6, hcell⟩ := anew_cells (us := opC o) hR hgl hgs rfl 6 rfl rfl
   have hmv : ∀ (r2 : Env), (∀ i, r2.blk i = gs[i]?) → ∀ j, j < 8 → ∀ b, r.blk ([0, 1, 2, 3, 4, 5, 7, 8].getD j 0) = some b → r2.blk j = some b := fun r2 hr2 j hj b hb => by
    rw [hr2, ← hgs j hj]; exact hb
   refine ⟨[(2, .p (.c (.ref 0 0))), (3, one (.pointer (some ⟨g6, 0, none⟩))), (4, .p (.c (.ref 6 0))), (6, .p (.c (.ref 7 0))), (7, one (.bool false)), (8, one (.int .u32 a))], fun act r2 hr2 hfd => frDen ⟨slot_moved hfd 2 rfl (hmv r2 hr2 0 (by omega)), slot_plain hfd 3 rfl e6, slot_moved hfd 4 rfl (hmv r2 hr2 6 (by omega)), slot_moved hfd 6 rfl (hmv r2 hr2 7 (by omega)), slot_same hfd 7 rfl, slot_same hfd 8 rfl, trivial⟩, ?_⟩
   obtain ⟨x0, x1, x2, x3, x4, x5, x6, x7, rfl⟩ := eight hgl
   refine satq_mid (α := Unit) (fun _ => [(3, one (.pointer (some ⟨g6, 0, none⟩))), (4, .p (.c (.ref 6 0))), (6, .p (.c (.ref 7 0))), (7, one (.bool false)), (11, .p (.c (.ref 8 0)))]) (fun _ => memL 0 n p M [.cells 53 (varsC vs), .cells 53 (varsC (List.replicate 28 0)), .cells 120 [.v (.int .u32 x), .v (.int .u32 y), .v (.bool k)]]) ?_ fun _ => ?_
   ·refine satq_vc ?_
    refine sat_anyG (.q 0 (.q 1 (.q 2 (.q 3 (.q 4 (.q 5 (.q 6 (.alt 7 (.alt 8 (.alt 9 (.alt 10 .done .no) .no) (.alt 9 (.alt 8 (.alt 10 .done .no) .no) .no)) (.alt 9 (.alt 7 (.alt 8 (.alt 10 .done .no) .no) .no) .no))))))))) mixed (by kernel_rfl) (by kernel_rfl) ?_
    conv => whnf
    refine ⟨_, hcell 4 [.int .u32 o.n] (fun k u hu => by cases k with | zero => exact hu | succ k => simp at hu), ?_⟩
    conv => whnf
    refine ⟨_, wr32 _, ?_⟩
    conv => whnf
    refine ⟨_, hcell 0 [.int .i64 o.code] (fun k u hu => by cases k with | zero => exact hu | succ k => simp at hu), ?_⟩
    conv => whnf
    refine ⟨?_, ?_, trivial⟩
    ·conv => whnf
     refine call_con (x := .int .i64 (szN o.code : Int)) rfl (by kernel_rfl) (fun r w' hR => by rw [hsz]; exact size_walk o.code w') ?_
     conv => whnf
     refine ⟨?_, ?_, trivial⟩
     ·conv => whnf
      refine call_memR (pre := []) (suf := [one (.int .u32 ((a + o.n) % 4294967296)), one (.int .i64 (szN o.code : Int))]) 0 n p M (valV x y k) memL_six rfl rfl (by kernel_rfl) (fun w' g gs hk hU => by rw [← hX]; exact mem_load M n p _ (szN o.code) w' g gs hU hM (word_mod _) hsb) ?_
      conv => whnf
      refine ⟨?_, trivial⟩
      conv => whnf
      refine ⟨?_, trivial⟩
      conv => whnf
      exact atq_mid () (ent_same rfl (aI rfl (aI rfl (aI rfl (aI rfl (aI rfl trivial))))) (aI sM (aI sM (aI sM (aI sM (aI sM (aI sM (aI sM (aI sM (aI sM trivial))))))))))
     ·conv => whnf
      refine ⟨?_, trivial⟩
      conv => whnf
      refine call_memR (pre := []) (suf := [one (.int .u32 ((a + o.n) % 4294967296)), one (.int .i64 (szN o.code : Int))]) 0 n p M (valV x y k) memL_six rfl rfl (by kernel_rfl) (fun w' g gs hk hU => by rw [← hX]; exact mem_load M n p _ (szN o.code) w' g gs hU hM (word_mod _) hsb) ?_
      conv => whnf
      refine ⟨?_, trivial⟩
      conv => whnf
      exact atq_mid () (ent_same rfl (aI rfl (aI rfl (aI rfl (aI rfl (aI rfl trivial))))) (aI sM (aI sM (aI sM (aI sM (aI sM (aI sM (aI sM (aI sM (aI sM trivial))))))))))
    ·conv => whnf
     refine ⟨?_, trivial⟩
     conv => whnf
     refine call_con (x := .int .i64 (szN o.code : Int)) rfl (by kernel_rfl) (fun r w' hR => by rw [hsz]; exact size_walk o.code w') ?_
     conv => whnf
     refine ⟨?_, trivial⟩
     conv => whnf
     refine call_memR (pre := []) (suf := [one (.int .u32 ((a + o.n) % 4294967296)), one (.int .i64 (szN o.code : Int))]) 0 n p M (valV x y k) memL_six rfl rfl (by kernel_rfl) (fun w' g gs hk hU => by rw [← hX]; exact mem_load M n p _ (szN o.code) w' g gs hU hM (word_mod _) hsb) ?_
     conv => whnf
     refine ⟨?_, trivial⟩
     conv => whnf
     exact atq_mid () (ent_same rfl (aI rfl (aI rfl (aI rfl (aI rfl (aI rfl trivial))))) (aI sM (aI sM (aI sM (aI sM (aI sM (aI sM (aI sM (aI sM (aI sM trivial))))))))))
   refine satq_vc ?_
   conv => whnf
   refine ⟨fun h => ?_, fun h => ?_⟩
   ·have hkf : k = false := by simpa using h
    rw [hkf, if_neg (by decide)] at hk
    conv => whnf
    erw [cut_all hvl]
    conv => whnf
    erw [beq_len hvl, onesL_u32]
    conv => whnf
    erw [ble_of (hvl.trans hz.symm)]
    conv => whnf
    erw [vars_put hvs _ hz]
    conv => whnf
    refine hback _ _ _ (atq_ret_block (atq_ret_mid (atq_ret ?_)))
    conv => whnf
    erw [cut_all hvl]
    conv => whnf
    refine fin_objs (val_tup2 _ _) rfl (memL_sub (M := M)) (memS_ob n p M) fun w' h1 h2 => ?_
    unfold ApplyR
    rw [hk]
    exact ⟨rfl, h1, h2⟩
   ·have hkt : k = true := by simpa using h
    rw [hkt, if_pos rfl] at hk
    conv => whnf
    refine ⟨_, unflat <| hcell 1 [.int .i64 o.d] (fun k u hu => by cases k with | zero => exact hu | succ k => simp at hu), ?_⟩
    conv => whnf
    refine ⟨⟨by omega, by omega⟩, ?_⟩
    conv => whnf
    erw [var_ble hvs hd]
    conv => whnf
    erw [var_ble8 hvs]
    conv => whnf
    refine hback _ _ _ (atq_block ?_)
    exact atq_mid ⟨(vs.set o.d.toNat x, M), set_ok hvs _ hxw, hk⟩ (ent_drop (aI rfl (aI rfl trivial)) (aI sM (aI sM (aI sM (aI sM (aI sM (aI sM (aI ((aI rfl (Or.inl (var_set _ _ _)))) (aI sM trivial)))))))) rfl (grp_T2 _ _ _ _ _ _ _ _ _ _ _ _ _))
  by_cases c4 : o.code = 18 ∨ o.code = 19
  ·have hsz : (szN o.code : Int) = sizeI o.code := by unfold szN sizeI; rcases c4 with h | h <;> rw [h] <;> rfl
   have hsb : 1 ≤ szN o.code ∧ szN o.code ≤ 4 := by unfold szN; split <;> omega
   have hAP : applyP o vs M = ⟨vs, (M.bad ((a + o.n) % 4294967296) 2 0 (szN o.code)).isNone, M.storeM ((a + o.n) % 4294967296) (szN o.code) b⟩ := by
    rw [hae, hbe]; unfold applyP; rw [if_neg c1, if_neg c2, if_neg c3, if_pos c4]
   obtain ⟨x, y, k, hX, hk⟩ : ∃ x y k, checkV (M.bad ((a + o.n) % 4294967296) 2 0 (szN o.code)) = valV x y k ∧ (M.bad ((a + o.n) % 4294967296) 2 0 (szN o.code)).isNone = k := by
    cases M.bad ((a + o.n) % 4294967296) 2 0 (szN o.code) with
    | none => exact ⟨0, 0, true, rfl, rfl⟩
    | some z => exact ⟨0, z, false, rfl, rfl⟩
   rw [hk] at hAP
   obtain ⟨M2, hM2⟩ : ∃ M2, M2 = M.storeM ((a + o.n) % 4294967296) (szN o.code) b := ⟨_, rfl⟩
   rw [← hM2] at hAP
   refine satq_seq ?_
   conv => whnf
   refine satq_block ?_
   refine satq_seq ?_
   conv => whnf
   refine satq_cond rfl (fun h => absurd h (by rw [n1]; decide)) fun _ => ?_
   refine satq_seq ?_
   conv => whnf
   refine satq_cond rfl (fun h => absurd h (by rw [n2]; decide)) fun _ => ?_
   refine satq_mid (α := Unit) (fun _ => [(2, .p (.c (.ref 0 0))), (3, .p (.c (.ref 6 0))), (4, .p (.c (.ref 7 0))), (6, .p (.c (.ref 8 0))), (7, one (.bool false)), (8, one (.int .u32 a)), (9, one (.int .u32 b)), (10, .p (.c (.ref 9 0))), (25, one (.int .i64 o.code)), (49, one (.bool false))]) (fun _ => memL 0 n p M [.cells 45 ((opC o).map .v), .cells 53 (varsC vs), .cells 53 (varsC (List.replicate 28 0)), .cells 100 [.v (.bool (isOp o.code)), .v (.bool (hasD o.code)), .v (.bool (hasA o.code)), .v (.bool (hasB o.code)), .v (.bool (hasN o.code)), .v (.bool (leaves o.code))]]) ?_ fun _ => ?_
   ·refine satq_vc ?_
    conv => whnf
    refine ⟨fun h => absurd h (by simp; omega), fun _ => ?_⟩
    have h17 : (o.code == 17) = false := by simp; omega
    conv => whnf
    exact atq_mid () (ent_same rfl (aI rfl (aI rfl (aI rfl (aI rfl (aI rfl (aI rfl (aI rfl (aI rfl (aI rfl (aI ((congrArg (fun z => one (.bool z)) h17)) trivial)))))))))) (aI sM (aI sM (aI sM (aI sM (aI sM (aI sM (aI sM (aI sM (aI sM (aI sM trivial)))))))))))
   refine satq_cond rfl (fun h => absurd h (by decide)) (fun _ => ?_)
   refine satq_mid (α := Unit) (fun _ => [(2, .p (.c (.ref 0 0))), (3, .p (.c (.ref 6 0))), (4, .p (.c (.ref 7 0))), (6, .p (.c (.ref 8 0))), (7, one (.bool false)), (8, one (.int .u32 a)), (9, one (.int .u32 b)), (10, .p (.c (.ref 9 0))), (25, one (.int .i64 o.code)), (73, one (.bool true))]) (fun _ => memL 0 n p M [.cells 45 ((opC o).map .v), .cells 53 (varsC vs), .cells 53 (varsC (List.replicate 28 0)), .cells 100 [.v (.bool (isOp o.code)), .v (.bool (hasD o.code)), .v (.bool (hasA o.code)), .v (.bool (hasB o.code)), .v (.bool (hasN o.code)), .v (.bool (leaves o.code))]]) ?_ fun _ => ?_
   ·refine satq_vc ?_
    conv => whnf
    refine ⟨fun h => ?_, fun h => ?_⟩
    ·conv => whnf
     exact atq_mid () (ent_same rfl (aI rfl (aI rfl (aI rfl (aI rfl (aI rfl (aI rfl (aI rfl (aI rfl (aI rfl (aI ((congrArg (fun z => one (.bool z)) h)) trivial)))))))))) (aI sM (aI sM (aI sM (aI sM (aI sM (aI sM (aI sM (aI sM (aI sM (aI sM trivial)))))))))))
    ·have h17 : (o.code == 19) = true := by
      rcases c4 with e | e
      ·rw [e] at h; cases h
      ·rw [e]; rfl
     conv => whnf
     exact atq_mid () (ent_same rfl (aI rfl (aI rfl (aI rfl (aI rfl (aI rfl (aI rfl (aI rfl (aI rfl (aI rfl (aI ((congrArg (fun z => one (.bool z)) h17)) trivial)))))))))) (aI sM (aI sM (aI sM (aI sM (aI sM (aI sM (aI sM (aI sM (aI sM (aI sM trivial)))))))))))
   refine satq_cond rfl (fun _ => ?_) (fun h => absurd h (by decide))
   refine satq_mid (α := Unit) (fun _ => [(2, .p (.c (.ref 0 0))), (3, .p (.c (.ref 6 0))), (4, .p (.c (.ref 7 0))), (6, .p (.c (.ref 8 0))), (7, one (.bool false)), (8, one (.int .u32 a)), (9, one (.int .u32 b)), (10, .p (.c (.ref 9 0))), (25, one (.int .i64 o.code))]) (fun _ => memL 0 n p M [.cells 45 ((opC o).map .v), .cells 53 (varsC vs), .cells 53 (varsC (List.replicate 28 0)), .cells 100 [.v (.bool (isOp o.code)), .v (.bool (hasD o.code)), .v (.bool (hasA o.code)), .v (.bool (hasB o.code)), .v (.bool (hasN o.code)), .v (.bool (leaves o.code))]]) ?_ fun _ => ?_
   ·refine satq_vc ?_
    conv => whnf
    refine q_not_nil rfl rfl rfl rfl ?_
    conv => whnf
    refine ⟨fun h => absurd h (by decide), fun _ => ?_⟩
    conv => whnf
    exact atq_mid () (ent_same rfl (aI rfl (aI rfl (aI rfl (aI rfl (aI rfl (aI rfl (aI rfl (aI rfl (aI rfl trivial))))))))) (aI sM (aI sM (aI sM (aI sM (aI sM (aI sM (aI sM (aI sM (aI sM (aI sM trivial)))))))))))
   refine satq_anew (memL 0 n p M [.cells 53 (varsC vs), .cells 53 (varsC (List.replicate 28 0))]) [0, 1, 2, 3, 4, 5, 7, 8] (aI ((Exists.intro _ (aI rfl sM))) (aI ((Exists.intro _ (aI rfl (aI rfl (Or.inl (renL_vals _ _).symm))))) (aI ((Exists.intro _ (aI rfl (aI rfl (Or.inl (renL_vals _ _).symm))))) (aI ((Exists.intro _ (aI rfl (aI rfl (Or.inl (renL_vals _ _).symm))))) (aI ((Exists.intro _ (aI rfl (aI rfl (Or.inl (renL_vals _ _).symm))))) (aI ((Exists.intro _ (aI rfl (aI rfl (Or.inl (renL_vals _ _).symm))))) (aI ((Exists.intro _ (aI rfl (aI rfl (Or.inl (renL_vals _ _).symm))))) (aI ((Exists.intro _ (aI rfl (aI rfl (Or.inl (renL_vals _ _).symm))))) trivial)))))))) (memL_bnd2 n p M _ _ _ _) rfl rfl rfl rfl fun r w1 gs hR hgl hgs hback => ?_
   obtain ⟨g6, e6, hcell⟩ := anew_cells (us := opC o) hR hgl hgs rfl 6 rfl rfl
   have hmv : ∀ (r2 : Env), (∀ i, r2.blk i = gs[i]?) → ∀ j, j < 8 → ∀ b, r.blk ([0, 1, 2, 3, 4, 5, 7, 8].getD j 0) = some b → r2.blk j = some b := fun r2 hr2 j hj b hb => by
    rw [hr2, ← hgs j hj]; exact hb
   refine ⟨[(2, .p (.c (.ref 0 0))), (3, one (.pointer (some ⟨g6, 0, none⟩))), (4, .p (.c (.ref 6 0))), (6, .p (.c (.ref 7 0))), (7, one (.bool false)), (8, one (.int .u32 a)), (9, one (.int .u32 b))], fun act r2 hr2 hfd => frDen ⟨slot_moved hfd 2 rfl (hmv r2 hr2 0 (by omega)), slot_plain hfd 3 rfl e6, slot_moved hfd 4 rfl (hmv r2 hr2 6 (by omega)), slot_moved hfd 6 rfl (hmv r2 hr2 7 (by omega)), slot_same hfd 7 rfl, slot_same hfd 8 rfl, slot_same hfd 9 rfl, trivial⟩, ?_⟩
   obtain ⟨x0, x1, x2, x3, x4, x5, x6, x7, rfl⟩ := eight hgl
   refine satq_mid (α := Unit) (fun _ => [(3, one (.pointer (some ⟨g6, 0, none⟩))), (4, .p (.c (.ref 6 0))), (6, .p (.c (.ref 7 0))), (7, one (.bool false)), (12, .p (.c (.ref 8 0)))]) (fun _ => memL 0 n p M2 [.cells 53 (varsC vs), .cells 53 (varsC (List.replicate 28 0)), .cells 120 [.v (.int .u32 x), .v (.int .u32 y), .v (.bool k)]]) ?_ fun _ => ?_
   ·refine satq_vc ?_
    refine sat_anyG (.q 0 (.q 1 (.q 2 (.q 3 (.q 4 (.q 5 (.q 6 (.q 8 (.alt 7 (.alt 9 (.alt 10 (.alt 11 .done .no) .no) (.alt 10 (.alt 9 (.alt 11 .done .no) .no) .no)) (.alt 10 (.alt 7 (.alt 9 (.alt 11 .done .no) .no) .no) .no)))))))))) mixed (by kernel_rfl) (by kernel_rfl) ?_
    conv => whnf
    refine ⟨_, hcell 4 [.int .u32 o.n] (fun k u hu => by cases k with | zero => exact hu | succ k => simp at hu), ?_⟩
    conv => whnf
    refine ⟨_, wr32 _, ?_⟩
    conv => whnf
    refine ⟨_, hcell 0 [.int .i64 o.code] (fun k u hu => by cases k with | zero => exact hu | succ k => simp at hu), ?_⟩
    conv => whnf
    refine ⟨?_, ?_, trivial⟩
    ·conv => whnf
     refine call_con (x := .int .i64 (szN o.code : Int)) rfl (by kernel_rfl) (fun r w' hR => by rw [hsz]; exact size_walk o.code w') ?_
     conv => whnf
     refine ⟨?_, ?_, trivial⟩
     ·conv => whnf
      refine call_memW (pre := []) (suf := [one (.int .u32 ((a + o.n) % 4294967296)), one (.int .i64 (szN o.code : Int)), one (.int .u32 b)]) 0 n p M M2 (valV x y k) memL_six rfl rfl (by kernel_rfl) (fun w' g gs hk hU => by rw [← hX, hM2]; exact mem_store M n p _ (szN o.code) b w' g gs hU hM (word_mod _) hsb hbw) ?_
      conv => whnf
      refine ⟨?_, trivial⟩
      conv => whnf
      refine ⟨?_, trivial⟩
      conv => whnf
      exact atq_mid () (ent_same rfl (aI rfl (aI rfl (aI rfl (aI rfl (aI rfl trivial))))) (aI sM (aI sM (aI sM (aI sM (aI sM (aI sM (aI sM (aI sM (aI sM trivial))))))))))
     ·conv => whnf
      refine ⟨?_, trivial⟩
      conv => whnf
      refine call_memW (pre := []) (suf := [one (.int .u32 ((a + o.n) % 4294967296)), one (.int .i64 (szN o.code : Int)), one (.int .u32 b)]) 0 n p M M2 (valV x y k) memL_six rfl rfl (by kernel_rfl) (fun w' g gs hk hU => by rw [← hX, hM2]; exact mem_store M n p _ (szN o.code) b w' g gs hU hM (word_mod _) hsb hbw) ?_
      conv => whnf
      refine ⟨?_, trivial⟩
      conv => whnf
      exact atq_mid () (ent_same rfl (aI rfl (aI rfl (aI rfl (aI rfl (aI rfl trivial))))) (aI sM (aI sM (aI sM (aI sM (aI sM (aI sM (aI sM (aI sM (aI sM trivial))))))))))
    ·conv => whnf
     refine ⟨?_, trivial⟩
     conv => whnf
     refine call_con (x := .int .i64 (szN o.code : Int)) rfl (by kernel_rfl) (fun r w' hR => by rw [hsz]; exact size_walk o.code w') ?_
     conv => whnf
     refine ⟨?_, trivial⟩
     conv => whnf
     refine call_memW (pre := []) (suf := [one (.int .u32 ((a + o.n) % 4294967296)), one (.int .i64 (szN o.code : Int)), one (.int .u32 b)]) 0 n p M M2 (valV x y k) memL_six rfl rfl (by kernel_rfl) (fun w' g gs hk hU => by rw [← hX, hM2]; exact mem_store M n p _ (szN o.code) b w' g gs hU hM (word_mod _) hsb hbw) ?_
     conv => whnf
     refine ⟨?_, trivial⟩
     conv => whnf
     exact atq_mid () (ent_same rfl (aI rfl (aI rfl (aI rfl (aI rfl (aI rfl trivial))))) (aI sM (aI sM (aI sM (aI sM (aI sM (aI sM (aI sM (aI sM (aI sM trivial))))))))))
   refine satq_mid (α := Unit) (fun _ => [(4, .p (.c (.ref 6 0))), (6, .p (.c (.ref 7 0))), (7, one (.bool k))]) (fun _ => memL 0 n p M2 [.cells 53 (varsC vs), .cells 53 (varsC vs), .cells 120 [.v (.int .u32 x), .v (.int .u32 y), .v (.bool k)]]) ?_ fun _ => ?_
   ·refine satq_vc ?_
    refine sat_anyG (.q 1 (.alt 0 (.alt 2 (.alt 3 (.q 4 .done) .no) (.alt 3 (.alt 2 (.q 4 .done) .no) .no)) (.alt 2 (.alt 0 (.alt 3 (.q 4 .done) .no) .no) .no))) mixed (by kernel_rfl) (by kernel_rfl) ?_
    conv => whnf
    refine ⟨?_, ?_, trivial⟩
    ·conv => whnf
     erw [cut_all hvl]
     conv => whnf
     refine ⟨?_, ?_, trivial⟩
     ·conv => whnf
      refine ⟨?_, trivial⟩
      conv => whnf
      erw [beq_len hvl, onesL_u32]
      conv => whnf
      erw [ble_of (hvl.trans hz.symm)]
      conv => whnf
      erw [vars_put hvs _ hz]
      conv => whnf
      exact atq_mid () (ent_same rfl (aI rfl (aI rfl (aI rfl trivial))) (aI sM (aI sM (aI sM (aI sM (aI sM (aI sM (aI sM (aI sM (aI sM trivial))))))))))
     ·conv => whnf
      erw [beq_len hvl, onesL_u32]
      conv => whnf
      erw [ble_of (hvl.trans hz.symm)]
      conv => whnf
      erw [vars_put hvs _ hz]
      conv => whnf
      refine ⟨?_, trivial⟩
      conv => whnf
      exact atq_mid () (ent_same rfl (aI rfl (aI rfl (aI rfl trivial))) (aI sM (aI sM (aI sM (aI sM (aI sM (aI sM (aI sM (aI sM (aI sM trivial))))))))))
    ·conv => whnf
     refine ⟨?_, trivial⟩
     conv => whnf
     erw [cut_all hvl]
     conv => whnf
     refine ⟨?_, trivial⟩
     conv => whnf
     erw [beq_len hvl, onesL_u32]
     conv => whnf
     erw [ble_of (hvl.trans hz.symm)]
     conv => whnf
     erw [vars_put hvs _ hz]
     conv => whnf
     exact atq_mid () (ent_same rfl (aI rfl (aI rfl (aI rfl trivial))) (aI sM (aI sM (aI sM (aI sM (aI sM (aI sM (aI sM (aI sM (aI sM trivial))))))))))
   refine satq_vc ?_
   conv => whnf
   refine hback _ _ _ (atq_ret_block (atq_ret_mid (atq_ret ?_)))
   conv => whnf
   erw [cut_all hvl]
   conv => whnf
   refine fin_objs (val_tup2 _ _) rfl (memL_sub (M := M2)) (memS_ob n p M2) fun w' h1 h2 => ?_
   unfold ApplyR
   rw [hAP]
   exact ⟨rfl, h1, h2⟩
  have m3 : (o.code == 16) = false := by simp; omega
  have m4 : (o.code == 17) = false := by simp; omega
  have m5 : (o.code == 18) = false := by simp; omega
  have m6 : (o.code == 19) = false := by simp; omega
  refine satq_vc ?_
  conv => whnf
  refine ⟨fun h => absurd h (by rw [n1]; decide), fun _ => ?_⟩
  conv => whnf
  refine ⟨fun h => absurd h (by rw [n2]; decide), fun _ => ?_⟩
  conv => whnf
  refine ⟨fun h => absurd h (by rw [m3]; decide), fun _ => ?_⟩
  conv => whnf
  refine ⟨fun h => absurd h (by rw [m4]; decide), fun _ => ?_⟩
  conv => whnf
  refine ⟨fun h => absurd h (by rw [m5]; decide), fun _ => ?_⟩
  conv => whnf
  refine ⟨fun h => absurd h (by rw [m6]; decide), fun _ => ?_⟩
  conv => whnf
  refine ⟨fun h => ?_, fun h => ?_⟩
  ·have c5 : o.code = 21 := by simpa using h
   conv => whnf
   erw [cut_all hvl]
   conv => whnf
   erw [beq_len hvl, onesL_u32]
   conv => whnf
   erw [ble_of (hvl.trans hz.symm)]
   conv => whnf
   erw [vars_put hvs _ hz]
   conv => whnf
   refine atq_ret_mid (atq_ret ?_)
   conv => whnf
   erw [cut_all hvl]
   conv => whnf
   refine fin_objs (val_tup2 _ _) rfl (memL_sub (M := M)) (memS_ob n p M) fun w' h1 h2 => ?_
   unfold ApplyR
   rw [applyP_guard c5, ← hae]
   exact ⟨rfl, h1, h2⟩
  have c5 : o.code ≠ 21 := by simpa using h
  conv => whnf
  refine ⟨fun h => ?_, fun h => ?_⟩
  ·have c6 : o.code = 22 := by simpa using h
   have hAP : applyP o vs M = ⟨vs, false, M⟩ := by
    unfold applyP; rw [if_neg c1, if_neg c2, if_neg c3, if_neg c4, if_neg c5, if_pos c6]
   conv => whnf
   erw [cut_all hvl]
   conv => whnf
   erw [beq_len hvl, onesL_u32]
   conv => whnf
   erw [ble_of (hvl.trans hz.symm)]
   conv => whnf
   erw [vars_put hvs _ hz]
   conv => whnf
   refine atq_ret_mid (atq_ret ?_)
   conv => whnf
   erw [cut_all hvl]
   conv => whnf
   refine fin_objs (val_tup2 _ _) rfl (memL_sub (M := M)) (memS_ob n p M) fun w' h1 h2 => ?_
   unfold ApplyR
   rw [hAP]
   exact ⟨rfl, h1, h2⟩
  have c6 : o.code ≠ 22 := by simpa using h
  conv => whnf
  have h17 : hasD o.code = true → isBin o.code = true := fun h => by
   unfold hasD at h; unfold isBin
   rw [decide_eq_true_eq] at h ⊢
   omega
  refine ⟨fun h => ?_, fun h => ?_⟩
  ·have c7 := h17 h
   conv => whnf
   refine sat_tail 8 mixed (by kernel_rfl) ?_
   conv => whnf
   refine q_same (xs := [.int .i64 o.code, .int .u32 a, .int .u32 b]) (x := .int .u32 (wordOp o.code a b)) rfl (by kernel_rfl) (fun r w' hR => op_ref o.code a b w' haw hbw) ?_
   conv => whnf
   refine ⟨⟨by omega, by omega⟩, ?_⟩
   conv => whnf
   erw [var_ble hvs hd]
   conv => whnf
   erw [var_ble8 hvs]
   conv => whnf
   exact atq_mid ⟨(vs.set o.d.toNat (wordOp o.code a b), M), set_ok hvs _ (wordOp_word haw hbw), by rw [applyP_bin c7, hae, hbe]⟩ (hent _ _ _ (var_set _ _ _) rfl rfl)
  ·have c7 : ¬ isBin o.code = true := fun hb => by
    have h' : 3 ≤ o.code ∧ o.code ≤ 15 := by unfold isBin at hb; simpa using hb
    have : hasD o.code = true := by unfold hasD; rw [decide_eq_true_eq]; omega
    rw [this] at h; cases h
   conv => whnf
   exact atq_mid ⟨(vs, M), hvs, by unfold applyP; rw [if_neg c1, if_neg c2, if_neg c3, if_neg c4, if_neg c5, if_neg c6, if_neg c7]⟩ (hent _ _ _ rfl rfl rfl)
 ·obtain ⟨⟨vs', M'⟩, hvs', hA⟩ := y
  dsimp only at hvs' hA ⊢
  refine satq_vc ?_
  conv => whnf
  erw [cut_all (varsC_length hvs')]
  conv => whnf
  erw [beq_len (varsC_length hvs'), onesL_u32]
  conv => whnf
  erw [ble_of ((varsC_length hvs').trans hz.symm)]
  conv => whnf
  erw [vars_put hvs' _ hz]
  conv => whnf
  refine atq_ret ?_
  conv => whnf
  erw [cut_all (varsC_length hvs')]
  conv => whnf
  refine fin_objs (val_tup2 _ _) rfl (memL_sub (M := M')) (memS_ob n p M') fun w' h1 h2 => ?_
  unfold ApplyR
  rw [hA]
  exact ⟨rfl, h1, h2⟩
end Go.Proofs.YtnhdcclpjildjaaGreat
namespace Go.Proofs.YtnhdcclpjildjaaGreat
open Go.RowKit

def MemP.rightsAt (M : MemP) (q : Nat) : Int := (M.rights[q]?).getD 0
def MemP.page (M : MemP) (q : Nat) : List Int := (M.data.drop (256 * q)).take 256
def MemP.fetchV (M : MemP) (a : Int) : Value := if M.right a 4 = true then valV (M.code a) 0 true else valV 0 a false
set_option maxRecDepth 100000 in
theorem mem_fetch (M : MemP) (n p : Nat) (a : Int) (w : World) (g : Nat) (gs : List Nat) (hU : ObjsAt w (g :: gs) (memS 0 n p M)) (hM : M.ok n p) (ha : word a) :
  Calls Tryz.prog 78 #[.pointer (some ⟨g, 0, none⟩), .int .u32 a] w fun e w' => e = .returned (M.fetchV a) ∧ ObjsAt w' (g :: gs) (memS 0 n p M) ∧ GrownBys w w' (g :: gs) := by
 obtain ⟨g0, g1, g2, g3, g4, g5, hg⟩ := six_blocks hU
 injection hg with hg0 hgs
 subst hgs; subst hg0
 refine calls_objs [.p (.c (.ref 0 0)), one (.int .u32 a)] [.pointer (some ⟨g, 0, none⟩), .int .u32 a] Tryz.func78 Tryz.ntmps78 rfl (by simp) hU ⟨_, _, rfl, den_mk_ref rfl, avdenL_of [.int .u32 a]⟩ ?_
 conv => whnf
 refine call_memR (pre := []) (suf := [one (.int .u32 a), one (intV 4)]) 0 n p M (.bool (M.right a 4)) (fun i hi => memL_six i hi) rfl rfl (by kernel_rfl) (fun w' g gs hk hU => mem_right M n p a 4 w' g gs hU hM ha (.inr (.inr rfl))) ?_
 unfold MemP.fetchV
 cases hr : M.right a 4 with
 | false =>
  conv => whnf
  (repeat ((first | apply k1 | apply k2 | apply k3 | apply k4 | refine k5 (by decide) ?_ | refine k6 (by decide) ?_); conv => whnf))
  conv => whnf
  exact fin_objs rfl rfl (fun i o h => sub_append i o h) (memS_ob n p M) fun w' h1 h2 => ⟨rfl, h1, h2⟩
 | true =>
  have hlt := right_lt hr
  rw [hM.ld] at hlt
  have hcb : 0 ≤ M.code a ∧ M.code a < 256 := by
   unfold MemP.code
   cases h : M.image[a.toNat]? with
   | none => simp
   | some x => exact hM.ib x (List.mem_of_getElem? h)
  conv => whnf
  (repeat ((first | apply k1 | apply k2 | apply k3 | apply k4 | refine k5 (by decide) ?_ | refine k6 (by decide) ?_); conv => whnf))
  conv => whnf
  refine call_memR (pre := []) (suf := [one (.int .u32 a)]) 0 n p M (.int .u8 (M.code a)) (fun i hi => memL_six i hi) rfl rfl (by kernel_rfl) (fun w' g gs hk hU => mem_code M n p a w' g gs hU hM ha hlt) ?_
  conv => whnf
  refine ⟨M.code a, by rw [wr32]; omega, ?_⟩
  conv => whnf
  exact fin_objs rfl rfl (fun i o h => sub_append i o h) (memS_ob n p M) fun w' h1 h2 => ⟨rfl, h1, h2⟩
end Go.Proofs.YtnhdcclpjildjaaGreat
namespace Go.Proofs.YtnhdcclpjildjaaGreat
open Go.RowKit

def MemP.syncM (M : MemP) (a : Int) : MemP := if a < (M.data.length : Int) then M.syncTo (a / 256 * 256).toNat 256 else M
theorem syncM_ok {M : MemP} {n p : Nat} (hM : M.ok n p) (a : Int) : (M.syncM a).ok n p := by
 unfold MemP.syncM; split
 ·exact syncTo_ok hM _ _
 ·exact hM
set_option maxRecDepth 100000 in
set_option maxHeartbeats 1000000 in
theorem mem_sync (M : MemP) (n p : Nat) (a : Int) (w : World) (g : Nat) (gs : List Nat) (hU : ObjsAt w (g :: gs) (memS 0 n p M)) (hM : M.ok n p) (ha : word a) :
  Calls Tryz.prog 36 #[.pointer (some ⟨g, 0, none⟩), .int .u32 a] w fun e w' => e = .returned (.bool (decide (a < (n : Int)))) ∧ ObjsAt w' (g :: gs) (memS 0 n p (M.syncM a)) ∧ GrownBys w w' (g :: gs) := by
 obtain ⟨g0, g1, g2, g3, g4, g5, hg⟩ := six_blocks hU
 injection hg with hg0 hgs
 subst hgs; subst hg0
 have hnp := hM.np
 have hpm := hM.pmax
 have ha' := ha
 obtain ⟨ha0, ha1⟩ := ha
 refine calls_objs [.p (.c (.ref 0 0)), one (.int .u32 a)] [.pointer (some ⟨g, 0, none⟩), .int .u32 a] Tryz.func36 Tryz.ntmps36 rfl (by simp) hU ⟨_, _, rfl, den_mk_ref rfl, avdenL_of [.int .u32 a]⟩ ?_
 conv => whnf
 refine call_memR (pre := []) (suf := [one (.int .u32 a)]) 0 n p M (.bool (decide (a < (n : Int)))) (fun i hi => by rw [Nat.zero_add]) rfl rfl (by kernel_rfl) (fun w' g gs hk hU => mem_in M n p a w' g gs hU hM ha') ?_
 conv => whnf
 refine ⟨true, fun _ => ?_, ?_⟩
 ·conv => whnf
  exact ⟨rfl, rfl, rfl, rfl, grp_mem _ _ _ _ _ _ _ _ _⟩
 unfold MemP.syncM
 rw [hM.ld]
 by_cases hlt : a < (n : Int)
 ·rw [if_pos hlt, show cmb true (decide (a < (n : Int))) true = true by simp [cmb, hlt]]
  obtain ⟨b, hb⟩ : ∃ b : Nat, (a / 256 * 256).toNat = b := ⟨_, rfl⟩
  rw [hb]
  have hb2 : (b : Int) = a / 256 * 256 := by omega
  have hbn : b + 256 ≤ n := by omega
  conv => whnf
  (repeat ((first | apply k1 | apply k2 | apply k3 | apply k4 | refine k5 (by decide) ?_ | refine k6 (by decide) ?_); conv => whnf))
  conv => whnf
  refine ⟨a, wr64 (by omega), ?_⟩
  conv => whnf
  refine ⟨by decide, a / 256, by rw [Int.tdiv_eq_ediv_of_nonneg ha0]; exact wr64 (by omega), ?_⟩
  conv => whnf
  refine ⟨(b : Int), by rw [hb2]; exact wr64 (by omega), ?_⟩
  conv => whnf
  refine ⟨{ j : Nat // j ≤ 256 }, fun x => [(0, .p (.c (.ref 0 0))), (5, one (.bool (decide (a < (n : Int))))), (6, one (intV (b : Int))), (7, one (intV ((b + x.1 : Nat) : Int)))], fun x => memS 0 n p (M.syncTo b x.1), fun x => 256 - x.1,
   ⟨⟨0, by omega⟩, ent_same rfl (aI rfl (aI rfl (aI rfl (aI rfl trivial)))) (aI sM (aI sM (aI sM (aI sM (aI sM (aI sM trivial))))))⟩, fun x => ?_⟩
  obtain ⟨j, hj⟩ := x
  dsimp only
  conv => whnf
  refine ⟨(b + 256 : Nat), by rw [show (b : Int) + 256 = ((b + 256 : Nat) : Int) by omega]; exact wr64 (by omega), ?_⟩
  conv => whnf
  refine ⟨fun hc => ?_, fun hc => ?_⟩
  ·have hlt2 : j < 256 := by simp at hc; omega
   have hQ := syncTo_ok hM b j
   obtain ⟨hd, _⟩ := syncTo_data M b j
   have hnext : M.syncTo b (j + 1) = (M.syncTo b j).setI (b + j) (M.get ((b + j : Nat) : Int)) := rfl
   generalize M.syncTo b j = Q at hQ hnext hd ⊢
   have hlenQ : n ≤ (List.map CV.v Q.iV).length := tail_le hQ.li
   have hgb := get_byte hQ (x := ((b + j : Nat) : Int)) (by omega) (by omega)
   have hge : Q.get ((b + j : Nat) : Int) = M.get ((b + j : Nat) : Int) := by unfold MemP.get; rw [hd]
   rw [hge] at hgb
   conv => whnf
   refine sat_tail 13 mixed (by kernel_rfl) ?_
   conv => whnf
   (refine ⟨⟨by omega, by omega⟩, ?_⟩; (conv=>whnf))
   rw [show (List.map CV.v Q.dV)[0 + ((b + j : Nat) : Int).toNat * tsz Tryz.prog 5]? = some (.v (byteV (M.get ((b + j : Nat) : Int)))) by show (List.map CV.v Q.dV)[0 + ((b + j : Nat) : Int).toNat * 1]? = _; rw [Nat.zero_add, Nat.mul_one]; exact hgb.1]
   conv => whnf
   (refine ⟨⟨by omega, by omega⟩, ?_⟩; (conv=>whnf))
   rw [show Nat.ble (0 + ((b + j : Nat) : Int).toNat * tsz Tryz.prog 5 + [CV.v (byteV (M.get ((b + j : Nat) : Int)))].length) (List.map CV.v Q.iV).length = true from Nat.ble_eq_true_of_le (by refine Nat.le_trans ?_ hlenQ; show 0 + _ * 1 + 1 ≤ n; omega)]
   conv => whnf
   rw [show Nat.ble (List.map CV.v Q.iV).length 8 = false from ble_no (by omega)]
   conv => whnf
   refine ⟨((b + (j + 1) : Nat) : Int), by rw [show ((b + j : Nat) : Int) + 1 = ((b + (j + 1) : Nat) : Int) by omega]; exact wr64 (by omega), ?_⟩
   conv => whnf
   have hset : setAll (List.map CV.v Q.iV) (0 + ((b + j : Nat) : Int).toNat * tsz Tryz.prog 5) [CV.v (byteV (M.get ((b + j : Nat) : Int)))] = List.map CV.v (M.syncTo b (j + 1)).iV := by
    rw [set_vals, hnext]
    show List.map CV.v (Q.iV.set (0 + ((b + j : Nat) : Int).toNat * 1) _) = List.map CV.v ((Q.setI (b + j) _).iV)
    rw [Nat.zero_add, Nat.mul_one, Int.toNat_natCast, ← setI_iV Q _ (by rw [hQ.li]; omega)]
   exact ⟨⟨j + 1, by omega⟩, ent_same rfl (aI rfl (aI rfl (aI rfl (aI rfl trivial)))) (aI ((aI rfl (Or.inl (by rw [hnext]; rfl)))) (aI ((aI rfl (Or.inl (by rw [hnext]; rfl)))) (aI ((aI rfl (Or.inl hset))) (aI ((aI rfl (Or.inl (by rw [hnext]; rfl)))) (aI ((aI rfl (Or.inl (by rw [hnext]; rfl)))) (aI ((aI rfl (Or.inl (by rw [hnext]; rfl)))) trivial)))))), by show 256 - (j + 1) < 256 - j; omega⟩
  ·have hje : j = 256 := by simp at hc; omega
   subst hje
   conv => whnf
   refine ⟨_, _, ent_refl, ?_⟩
   conv => whnf
   exact fin_objs rfl rfl (fun i o h => h) (memS_ob n p _) fun w' h1 h2 => ⟨rfl, h1, h2⟩
 ·rw [if_neg hlt, show cmb true (decide (a < (n : Int))) true = false by simp [cmb, hlt]]
  conv => whnf
  (repeat ((first | apply k1 | apply k2 | apply k3 | apply k4 | refine k5 (by decide) ?_ | refine k6 (by decide) ?_); conv => whnf))
  conv => whnf
  exact fin_objs rfl rfl (fun i o h => h) (memS_ob n p M) fun w' h1 h2 => ⟨rfl, h1, h2⟩
end Go.Proofs.YtnhdcclpjildjaaGreat
