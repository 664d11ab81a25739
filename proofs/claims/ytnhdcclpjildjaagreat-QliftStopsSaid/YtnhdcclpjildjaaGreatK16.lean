/- Plain: the evaluation of a lifted block is a run of the plain machine. -/
import Derived.Test.YtnhdcclpjildjaaGreatK14
namespace Go.Proofs.YtnhdcclpjildjaaGreat
open Go.RowKit

structure RunR where
 leaves : Bool
 done : Nat
 pc : Int
 R : Int → Int
 M : MemP
def runQ (F : Int → Option QI) (pc : Int) (n : Nat) : Nat → Nat → (Int → Int) → MemP → RunR
 | 0, k, R, M => ⟨true, k, qAddr pc k, R, M⟩
 | fuel + 1, k, R, M =>
  (match stepQ (qAt F (qAddr pc k)) (qAddr pc k) R M with
   | none => ⟨true, k, qAddr pc k, R, M⟩
   | some (R', nx, M') =>
    (match qTail (qAt F (qAddr pc k)) (qAddr pc k) with
     | some _ => ⟨false, k + 1, nx, R', M'⟩
     | none => if k + 1 = n then ⟨false, k + 1, nx, R', M'⟩ else runQ F pc n fuel (k + 1) R' M'))
theorem runQ_succ (F : Int → Option QI) (pc : Int) (n fuel k : Nat) (R : Int → Int) (M : MemP) : runQ F pc n (fuel + 1) k R M = (match stepQ (qAt F (qAddr pc k)) (qAddr pc k) R M with
   | none => ⟨true, k, qAddr pc k, R, M⟩
   | some (R', nx, M') =>
    (match qTail (qAt F (qAddr pc k)) (qAddr pc k) with
     | some _ => ⟨false, k + 1, nx, R', M'⟩
     | none => if k + 1 = n then ⟨false, k + 1, nx, R', M'⟩ else runQ F pc n fuel (k + 1) R' M')) := rfl
def RunR.out (r : RunR) (vs : List Int) : EvR := ⟨⟨r.leaves, if r.leaves = true then (r.done : Int) else 0, r.done, r.pc, guestsL vs⟩, r.M⟩
theorem ev_mark {ats : List Int} {l : List BOp} {j : Int} {k : Nat} {vs : List Int} {M : MemP} : evalL ats (⟨20, 0, 0, 0, (k : Int)⟩ :: l) j vs M = evalL ats l k vs M := by
 rw [evalL_go (by dsimp only; omega) (by dsimp only; omega) rfl]; rfl
theorem lift_len {F : Int → Option QI} (hF : ∀ a i, F a = some i → i.ok) (pc : Int) {n : Nat} (hn : n ≤ 64) : ∀ (fuel k : Nat), k < n → n ≤ k + fuel → True ∧ True ∧ k < liftLen F pc n fuel k ∧ liftLen F pc n fuel k ≤ n
 | 0, k, hk, hf => by omega
 | fuel + 1, k, hk, hf => by
  rw [liftLen_succ]
  split
  ·exact ⟨trivial, trivial, Nat.lt_succ_self k, hk⟩
  ·split
   ·exact ⟨trivial, trivial, Nat.lt_succ_self k, hk⟩
   ·obtain ⟨_, _, a, b⟩ := lift_len hF pc hn fuel (k + 1) (by omega) (by omega)
    exact ⟨trivial, trivial, by omega, b⟩
theorem lift_eval {F : Int → Option QI} (hF : ∀ a i, F a = some i → i.ok) (pc : Int) {n : Nat} {ats : List Int} (hat : ∀ m, m < ats.length → ats[m]? = some (qAddr pc m)) :
  ∀ (fuel k : Nat) (vs : List Int) (R : Int → Int) (M : MemP) (j : Int), RegOk vs R → k < n → n ≤ k + fuel → n ≤ 64 → ats.length = liftLen F pc n fuel k →
  ∃ vs', RegOk vs' (runQ F pc n fuel k R M).R ∧ (∀ j, 16 ≤ j → j < 19 → getV vs' j = getV vs j) ∧ evalL ats (liftOps F pc n fuel k) j vs M = (runQ F pc n fuel k R M).out vs' ∧ ((runQ F pc n fuel k R M).leaves = false → (runQ F pc n fuel k R M).done = ats.length) ∧ ((runQ F pc n fuel k R M).leaves = true → (runQ F pc n fuel k R M).done < ats.length)
 | 0, k, vs, R, M, j, _, hk, hf, _, _ => by omega
 | fuel + 1, k, vs, R, M, j, h, hk, hf, hn, hlen => by
  have hi := qAt_ok hF (qAddr pc k)
  obtain ⟨i, hi0⟩ : ∃ i, qAt F (qAddr pc k) = i := ⟨_, rfl⟩
  rw [liftLen_succ] at hlen
  rw [liftOps_succ, runQ_succ]
  rw [hi0] at hi hlen ⊢
  rw [ev_mark]
  have q := q_eval (ats := ats) (k := (k : Int)) (M := M) hi h (qAddr pc k)
  have hkl : k < ats.length := by
   rw [hlen]
   cases hq : qTail i (qAddr pc k) with
   | some t => exact Nat.lt_succ_self k
   | none =>
    by_cases hkn : k + 1 = n
    ·simp only [if_pos hkn]; omega
    ·simp only [if_neg hkn]
     obtain ⟨_, _, r3, _⟩ := lift_len hF pc hn fuel (k + 1) (by omega) (by omega)
     omega
  cases hs : stepQ i (qAddr pc k) R M with
  | none =>
   rw [hs] at q
   refine ⟨vs, h, fun _ _ _ => rfl, ?_, nofun, fun _ => hkl⟩
   have key := fun l => q l
   cases hq : qTail i (qAddr pc k) with
   | some t =>
    rw [hq] at key
    refine (key []).trans ?_
    rw [Int.toNat_natCast, hat k hkl]; rfl
   | none =>
    rw [hq] at key
    refine (key _).trans ?_
    rw [Int.toNat_natCast, hat k hkl]; rfl
  | some p =>
   obtain ⟨R', nx, M'⟩ := p
   rw [hs] at q
   obtain ⟨vs', a, b, c⟩ := q
   cases hq : qTail i (qAddr pc k) with
   | some t =>
    rw [hq] at c hlen
    refine ⟨vs', a, b, ?_, fun _ => hlen.symm, nofun⟩
    refine c.trans ?_
    rw [hlen]; rfl
   | none =>
    rw [hq] at c hlen
    obtain ⟨c1, c2⟩ := c
    by_cases hkn : k + 1 = n
    ·simp only [if_pos hkn] at hlen ⊢
     refine ⟨vs', a, b, ?_, fun _ => hlen.symm, nofun⟩
     rw [c2, evalL_exit (Or.inl rfl), hlen, c1]; rfl
    ·simp only [if_neg hkn] at hlen ⊢
     obtain ⟨vs2, a2, b2, e2, d2, f2⟩ := lift_eval hF pc hat fuel (k + 1) vs' R' M' (k : Int) a (by omega) (by omega) hn hlen
     refine ⟨vs2, a2, fun j h16 h19 => (b2 j h16 h19).trans (b j h16 h19), ?_, d2, f2⟩
     rw [c2, e2]
end Go.Proofs.YtnhdcclpjildjaaGreat
namespace Go.Proofs.YtnhdcclpjildjaaGreat
open Go.RowKit

def MemTo (w w' : World) (B m sb : Nat) (l : List Slt) (img : Nat → List Int) : Prop := ∃ l', MemAt2 w' B m sb l' img ∧ keepS l l' ∧ Below B w w' ∧ FrameT w w'
theorem MemTo.later {w w1 w2 : World} {B m sb : Nat} {l : List Slt} {img : Nat → List Int} (h : MemTo w w1 B m sb l img) (hB : Below w1.heap.size w1 w2) : MemTo w w2 B m sb l img := by
 obtain ⟨l', h1, h2, h3, h4⟩ := h
 have hsz : B ≤ w1.heap.size := Nat.le_of_lt (Nat.lt_of_le_of_lt h1.Bm (heap_lt h1.hm))
 exact ⟨l', h1.later hB, h2, h3.trans (hB.mono hsz), h4.trans (FrameT.of hB)⟩
theorem MemTo.start {w w' : World} {B m sb : Nat} {l : List Slt} {img : Nat → List Int} (h : MemAt2 w B m sb l img) (hB : Below w.heap.size w w') : MemTo w w' B m sb l img := MemTo.later ⟨l, h, keepS.refl l, Below.refl _ _, fun _ _ _ _ _ _ => rfl⟩ hB
theorem MemTo.trans {w w1 w2 : World} {B m sb : Nat} {l l' : List Slt} {img : Nat → List Int} (h2 : keepS l l') (h3 : Below B w w1) (h4 : FrameT w w1) (k : MemTo w1 w2 B m sb l' img) : MemTo w w2 B m sb l img := by
 obtain ⟨l2, k1, k2, k3, k4⟩ := k
 exact ⟨l2, k1, h2.trans k2, h3.trans k3, h4.trans k4⟩
section
variable {B m sb : Nat} {img : Nat → List Int}
structure Boxes (w : World) (pm pa m : Nat) (a : Int) : Prop where
 bm : w.heap[pm]? = some (.cells #[ptrV m] 95 (0, 0))
 ba : w.heap[pa]? = some (.cells #[.int .u32 a] 35 (0, 0))
theorem Boxes.keep {w w' : World} {pm pa m : Nat} {a : Int} (h : Boxes w pm pa m a) (hf : FrameT w w') : Boxes w' pm pa m a :=
 ⟨(hf _ _ _ h.bm (by decide) (by decide)).trans h.bm, (hf _ _ _ h.ba (by decide) (by decide)).trans h.ba⟩
end
end Go.Proofs.YtnhdcclpjildjaaGreat
namespace Go.Proofs.YtnhdcclpjildjaaGreat
open Go.RowKit

def simpleQ (op : Int) : Bool := decide (op < 48)
theorem is_ops {op : Int} (h : (qForm op).is = true) : (1 ≤ op ∧ op ≤ 12) ∨ (16 ≤ op ∧ op ≤ 27) ∨ (32 ≤ op ∧ op ≤ 37) ∨ op = 40 ∨ op = 41 ∨ (48 ≤ op ∧ op ≤ 54) := by
 unfold qForm at h
 repeat' split at h
 all_goals first | omega | cases h
theorem qCode_zero {op : Int} : qCode op ≠ 0 ↔ (1 ≤ op ∧ op ≤ 12) ∨ (16 ≤ op ∧ op ≤ 22) := by
 unfold qCode
 repeat' split
 all_goals omega
theorem qAddr_next (pc : Int) (k : Nat) : cut32 (qAddr pc k + 4) = qAddr pc (k + 1) := by
 unfold qAddr cut32
 omega
def iterQ (F : Int → Option QI) : Nat → (Int → Int) → Int → MemP → Option ((Int → Int) × Int × MemP)
 | 0, R, a, M => some (R, a, M)
 | m + 1, R, a, M => (match stepQ (qAt F a) a R M with
  | none => none
  | some (R', nx, M') => iterQ F m R' nx M')
theorem iterQ_succ (F : Int → Option QI) (m : Nat) (R : Int → Int) (a : Int) (M : MemP) : iterQ F (m + 1) R a M = (match stepQ (qAt F a) a R M with
  | none => none
  | some (R', nx, M') => iterQ F m R' nx M') := rfl
theorem step_next {i : QI} {a : Int} {R R' : Int → Int} {M M' : MemP} {nx : Int} (hq : qTail i a = none) (hs : stepQ i a R M = some (R', nx, M')) : nx = cut32 (a + 4) := by
 unfold qTail at hq
 unfold stepQ at hs
 by_cases h10 : i.op = 10 ∧ R i.b = 0
 ·rw [if_pos h10] at hs; cases hs
 rw [if_neg h10] at hs
 by_cases hc : qCode i.op ≠ 0
 ·rw [if_pos hc] at hs
  injection hs with hs; injection hs with _ hs; injection hs with hs _; exact hs.symm
 rw [if_neg hc] at hs hq
 by_cases h1 : i.op = 41 ∨ (23 ≤ i.op ∧ i.op ≤ 26)
 ·by_cases h41 : i.op = 41
  ·rw [if_pos h41] at hs
   injection hs with hs; injection hs with _ hs; injection hs with hs _; exact hs.symm
  rw [if_neg h41] at hs
  by_cases h23 : i.op = 23
  ·rw [if_pos h23] at hs
   split at hs
   ·injection hs with hs; injection hs with _ hs; injection hs with hs _; exact hs.symm
   ·cases hs
  rw [if_neg h23] at hs
  by_cases h24 : i.op = 24
  ·rw [if_pos h24] at hs
   split at hs
   ·injection hs with hs; injection hs with _ hs; injection hs with hs _; exact hs.symm
   ·cases hs
  rw [if_neg h24] at hs
  by_cases h25 : i.op = 25
  ·rw [if_pos h25] at hs
   split at hs
   ·injection hs with hs; injection hs with _ hs; injection hs with hs _; exact hs.symm
   ·cases hs
  rw [if_neg h25, if_pos (by omega)] at hs
  split at hs
  ·injection hs with hs; injection hs with _ hs; injection hs with hs _; exact hs.symm
  ·cases hs
 ·rw [if_neg h1] at hq
  repeat' split at hq
  all_goals cases hq
theorem run_iter {F : Int → Option QI} {pc : Int} {n : Nat} : ∀ (fuel k : Nat) (R : Int → Int) (M : MemP), k < n → n ≤ k + fuel → k ≤ (runQ F pc n fuel k R M).done ∧
  iterQ F ((runQ F pc n fuel k R M).done - k) R (qAddr pc k) M = some ((runQ F pc n fuel k R M).R, (runQ F pc n fuel k R M).pc, (runQ F pc n fuel k R M).M) ∧
  ((runQ F pc n fuel k R M).leaves = true → stepQ (qAt F (runQ F pc n fuel k R M).pc) (runQ F pc n fuel k R M).pc (runQ F pc n fuel k R M).R (runQ F pc n fuel k R M).M = none)
 | 0, k, R, M, hk, hf => by omega
 | fuel + 1, k, R, M, hk, hf => by
  rw [runQ_succ]
  cases hs : stepQ (qAt F (qAddr pc k)) (qAddr pc k) R M with
  | none =>
   refine ⟨Nat.le_refl _, ?_, fun _ => hs⟩
   show iterQ F (k - k) R (qAddr pc k) M = _
   rw [Nat.sub_self]; rfl
  | some p =>
   obtain ⟨R', nx, M'⟩ := p
   have one : iterQ F (k + 1 - k) R (qAddr pc k) M = some (R', nx, M') := by
    rw [show k + 1 - k = 0 + 1 by omega, iterQ_succ, hs]; rfl
   cases hq : qTail (qAt F (qAddr pc k)) (qAddr pc k) with
   | some t => exact ⟨Nat.le_succ k, one, nofun⟩
   | none =>
    have hnx := step_next hq hs
    rw [qAddr_next] at hnx
    by_cases hkn : k + 1 = n
    ·simp only [if_pos hkn]
     exact ⟨Nat.le_succ k, one, nofun⟩
    ·simp only [if_neg hkn]
     obtain ⟨i1, i2, i3⟩ := run_iter (F := F) (pc := pc) (n := n) fuel (k + 1) R' M' (by omega) (by omega)
     refine ⟨by omega, ?_, i3⟩
     rw [show (runQ F pc n fuel (k + 1) R' M').done - k = ((runQ F pc n fuel (k + 1) R' M').done - (k + 1)) + 1 by omega, iterQ_succ, hs, hnx]
     exact i2
end Go.Proofs.YtnhdcclpjildjaaGreat
namespace Go.Proofs.YtnhdcclpjildjaaGreat
open Go.RowKit

theorem liftAts_length (pc : Int) (m : Nat) : (liftAts pc m).length = m := by simp [liftAts]
theorem liftAts_get (pc : Int) {m j : Nat} (h : j < (liftAts pc m).length) : (liftAts pc m)[j]? = some (qAddr pc j) := by
 have hj : j < m := by rw [liftAts_length] at h; exact h
 simp [liftAts, hj]
theorem liftQ_eval {F : Int → Option QI} (hF : ∀ a i, F a = some i → i.ok) (pc : Int) {n : Nat} (h1 : 1 ≤ n) (hn : n ≤ 64) (vs : List Int) (R : Int → Int) (M : MemP) (h : RegOk vs R) :
  ∃ vs', RegOk vs' (runQ F pc n n 0 R M).R ∧ (∀ j, 16 ≤ j → j < 19 → getV vs' j = getV vs j) ∧ evalBlk (liftQ F pc n) vs M = (runQ F pc n n 0 R M).out vs' ∧
   ((runQ F pc n n 0 R M).leaves = false → (runQ F pc n n 0 R M).done = (liftQ F pc n).at_.length) ∧ ((runQ F pc n n 0 R M).leaves = true → (runQ F pc n n 0 R M).done < (liftQ F pc n).at_.length) := by
 have hv := (liftQ_valid hF pc h1 hn).2.1
 obtain ⟨vs', a, b, c, d, e⟩ := lift_eval hF pc (n := n) (ats := liftAts pc (liftLen F pc n n 0)) (fun m hm => liftAts_get pc hm) n 0 vs R M 0 h (by omega) (by omega) hn (liftAts_length _ _)
 refine ⟨vs', a, b, ?_, d, e⟩
 unfold evalBlk
 rw [if_pos hv]
 exact c
end Go.Proofs.YtnhdcclpjildjaaGreat
namespace Go.Proofs.YtnhdcclpjildjaaGreat
open Go.RowKit

structure LiftAt (w : World) (g : Nat) (vA vP vO : Value) (l : List BOp) : Prop where
 blk : w.heap[g]? = some (.cells #[vA, vP, vO] 138 (0, 0))
 row : w.ownsRow 0 45 5 vO l.length (l.flatMap opC)
 far : vO.ownBlock ≠ some g
structure LiftTo (w w' : World) (g : Nat) (vA vP vO : Value) (l' : List BOp) : Prop where
 out : ∃ vO', LiftAt w' g vA vP vO' l' ∧ ∀ b, vO'.ownBlock = some b → vO.ownBlock = some b ∨ w.heap.size ≤ b
 os : w'.os = w.os
 tape : w'.tape = w.tape
 output : w'.output = w.output
 size : w.heap.size ≤ w'.heap.size
 block : ∀ b, b < w.heap.size → b ≠ g → vO.ownBlock ≠ some b → w'.heap[b]? = w.heap[b]?
section
variable {w : World} {g : Nat} {vA vP vO : Value} {l : List BOp}
end
end Go.Proofs.YtnhdcclpjildjaaGreat
namespace Go.Proofs.YtnhdcclpjildjaaGreat
open Go.RowKit

def MemP.img (M : MemP) (k : Nat) : List Int := (M.image.drop (256 * k)).take 256
def imgTo (M : MemP) (j k : Nat) : List Int := if k < j then M.img k else zpage
structure MadeTo (w w' : World) (m sb p : Nat) (M : MemP) (j q : Nat) (l : List Slt) : Prop where
 mem : MemAt2 w' w.heap.size m sb l (imgTo M j)
 len : l.length = p
 slots : ∀ (k : Nat) (s : Slt), l[k]? = some s → (k < q → s.r = M.rightsAt k) ∧ (j ≤ k → s.oc = false) ∧ 0 ≤ s.r ∧ s.r < 8
 below : Below w.heap.size w w'
theorem MadeTo.later {w w' w2 : World} {m sb p : Nat} {M : MemP} {j q : Nat} {l : List Slt} (h : MadeTo w w' m sb p M j q l) (hB : Below w'.heap.size w' w2) : MadeTo w w2 m sb p M j q l :=
 ⟨h.mem.later hB, h.len, h.slots, h.below.trans (hB.mono h.below.size)⟩
section
variable {w : World} {g n p : Nat} {gs : List Nat} {M : MemP}
end
end Go.Proofs.YtnhdcclpjildjaaGreat
namespace Go.Proofs.YtnhdcclpjildjaaGreat
open Go.RowKit

theorem bit_eq1 (b : Bool) : (bitI b == 1) = b := by cases b <;> rfl
theorem bit_eq0 (b : Bool) : (bitI b == 0) = !b := by cases b <;> rfl
set_option maxRecDepth 100000 in
set_option maxHeartbeats 8000000 in
theorem taken_ref06 (op d a : Int) (w : World) (h : 32 ≤ op ∧ op ≤ 37) (hd : word d) (ha : word a) : Calls Tryz.prog 57 #[intV op, u32V d, u32V a] w fun e w' => e = .returned (.bool (takenQ op d a)) ∧ Below w.heap.size w w' := by
 have hop := op_ref 15 d a
 rcases (by omega : op = 32 ∨ op = 33 ∨ op = 34 ∨ op = 35 ∨ op = 36 ∨ op = 37) with rfl | rfl | rfl | rfl | rfl | rfl
 all_goals
  refine calls_satq [intV _, u32V d, u32V a] Tryz.func57 Tryz.ntmps57 rfl (by simp) ?_
  refine satq_vcN ?_
  conv => whnf
  repeat' (first
   | (refine ⟨fun _ => ?_, nT⟩; (conv=>whnf)) | (refine ⟨fun _ => ?_, nF⟩; (conv=>whnf)) | (refine ⟨nF, fun _ => ?_⟩; (conv=>whnf)) | (refine ⟨nT, fun _ => ?_⟩; (conv=>whnf))
   | (refine call_same (x := .int .u32 (wordOp 15 d a)) rfl (by kernel_rfl) (fun r w' hR => hop w' hd ha) ?_; conv => whnf))
 ·refine atq_ret ?_
  conv => whnf
  exact fin_val rfl fun w' hB => ⟨rfl, hB⟩
 ·refine atq_ret ?_
  conv => whnf
  exact fin_val rfl fun w' hB => ⟨by rw [show takenQ 33 d a = (d != a) by unfold takenQ; rw [if_neg (by decide), if_pos rfl]; by_cases h : d = a <;> simp [h]], hB⟩
 ·refine atq_ret ?_
  conv => whnf
  exact fin_val rfl fun w' hB => ⟨rfl, hB⟩
 ·refine atq_ret ?_
  conv => whnf
  exact fin_val rfl fun w' hB => ⟨by rw [show takenQ 35 d a = decide (d ≥ a) by unfold takenQ; rw [if_neg (by decide), if_neg (by decide), if_neg (by decide), if_pos rfl]; by_cases h : d < a <;> simp [h] <;> omega], hB⟩
 ·refine atq_ret ?_
  conv => whnf
  exact fin_val rfl fun w' hB => ⟨by rw [show takenQ 36 d a = (wordOp 15 d a == 1) from (bit_eq1 _).symm], hB⟩
 ·refine atq_ret ?_
  conv => whnf
  exact fin_val rfl fun w' hB => ⟨by rw [show takenQ 37 d a = (wordOp 15 d a == 0) from ((bit_eq0 _).trans (by show (!decide (signedI d < signedI a)) = decide (¬ signedI d < signedI a); by_cases h : signedI d < signedI a <;> simp [h])).symm]; rfl, hB⟩
end Go.Proofs.YtnhdcclpjildjaaGreat
namespace Go.Proofs.YtnhdcclpjildjaaGreat
open Go.RowKit

theorem owns_below {w w' : World} {e : TypeId} {size n : Nat} {v : Value} {xs : List Value} (h : w.ownsRow 0 e size v n xs) (hB : Below w.heap.size w w') : w'.ownsRow 0 e size v n xs := by
 obtain ⟨h1, h2⟩ := h
 refine ⟨h1, ?_⟩
 rcases h2 with h2 | ⟨g, cap, cur, hv, hg, hh, hr⟩
 ·exact .inl h2
 ·exact .inr ⟨g, cap, cur, hv, hg, (hB.block g (by
   rcases Nat.lt_or_ge g w.heap.size with h3 | h3
   ·exact h3
   ·rw [Array.getElem?_eq_none h3] at hh; cases hh)).trans hh, hr⟩
section
variable {w : World} {g : Nat} {vA vP vO : Value} {l : List BOp}
theorem LiftAt.lt (h : LiftAt w g vA vP vO l) : g < w.heap.size := by
 rcases Nat.lt_or_ge g w.heap.size with h1 | h1
 ·exact h1
 ·have := h.blk; rw [Array.getElem?_eq_none h1] at this; cases this
theorem LiftAt.later {w' : World} (h : LiftAt w g vA vP vO l) (hB : Below w.heap.size w w') : LiftAt w' g vA vP vO l :=
 ⟨(hB.block g h.lt).trans h.blk, owns_below h.row hB, h.far⟩
theorem LiftTo.refl {w' : World} (h : LiftAt w g vA vP vO l) (hB : Below w.heap.size w w') : LiftTo w w' g vA vP vO l :=
 ⟨⟨vO, h.later hB, fun _b hb => .inl hb⟩, hB.os, hB.tape, hB.output, hB.size, fun b hb _ _ => hB.block b hb⟩
theorem LiftTo.later {w1 w2 : World} {l1 : List BOp} (h : LiftTo w w1 g vA vP vO l1) (hB : Below w1.heap.size w1 w2) : LiftTo w w2 g vA vP vO l1 := by
 obtain ⟨vO1, k1, k2⟩ := h.out
 exact ⟨⟨vO1, k1.later hB, k2⟩, hB.os.trans h.os, hB.tape.trans h.tape, hB.output.trans h.output, Nat.le_trans h.size hB.size, fun b hb h1 h2 => (hB.block b (Nat.lt_of_lt_of_le hb h.size)).trans (h.block b hb h1 h2)⟩
theorem LiftTo.then {w1 w2 : World} {l1 l2 : List BOp} {vO1 : Value} (h : LiftTo w w1 g vA vP vO l1) (hb : ∀ b, vO1.ownBlock = some b → vO.ownBlock = some b ∨ w.heap.size ≤ b) (k : LiftTo w1 w2 g vA vP vO1 l2) : LiftTo w w2 g vA vP vO l2 := by
 obtain ⟨vO2, k1, k2⟩ := k.out
 refine ⟨⟨vO2, k1, fun b hb2 => ?_⟩, k.os.trans h.os, k.tape.trans h.tape, k.output.trans h.output, Nat.le_trans h.size k.size, fun b hlt h1 h2 => ?_⟩
 ·rcases k2 b hb2 with h3 | h3
  ·exact hb b h3
  ·exact .inr (Nat.le_trans h.size h3)
 ·refine (k.block b (Nat.lt_of_lt_of_le hlt h.size) h1 fun e => ?_).trans (h.block b hlt h1 h2)
  rcases hb b e with h3 | h3
  ·exact h2 h3
  ·omega
end
end Go.Proofs.YtnhdcclpjildjaaGreat
namespace Go.Proofs.YtnhdcclpjildjaaGreat
open Go.RowKit

structure St where
 pc : Int
 R : Int → Int
 f : Int
 c0 : Int
 c1 : Int
 c2 : Int
 c3 : Int
 steps : Int
 due : Int
abbrev stL (s : St) (T : List Value) : List Value := u32V s.pc :: u32V (s.R 0) :: u32V (s.R 1) :: u32V (s.R 2) :: u32V (s.R 3) :: u32V (s.R 4) :: u32V (s.R 5) :: u32V (s.R 6) :: u32V (s.R 7) :: u32V (s.R 8) :: u32V (s.R 9) :: u32V (s.R 10) :: u32V (s.R 11) :: u32V (s.R 12) :: u32V (s.R 13) :: u32V (s.R 14) :: u32V (s.R 15) :: u32V s.f :: u32V s.c0 :: u32V s.c1 :: u32V s.c2 :: u32V s.c3 :: intV s.steps :: intV s.due :: T
abbrev stV (s : St) : Value := .agg (stL s []).toArray
abbrev outSV (s : St) (k inf : Int) : Value := .agg (stL s [intV k, u32V inf]).toArray
abbrev stT : TypeId := 39
structure St.ok (s : St) : Prop where
 pc : word s.pc
 reg : ∀ j, 0 ≤ j → j < 16 → word (s.R j)
 zero : s.R 0 = 0
 fl : s.f = 0
 steps : 0 ≤ s.steps ∧ s.steps < 1099511627776
theorem stL_congr {s : St} {R R' : Int → Int} (h : ∀ j, 0 ≤ j → j < 16 → R j = R' j) (T : List Value) : stL { s with R := R } T = stL { s with R := R' } T := by
 unfold stL
 dsimp only
 rw [h 0 (by omega) (by omega), h 1 (by omega) (by omega), h 2 (by omega) (by omega), h 3 (by omega) (by omega), h 4 (by omega) (by omega), h 5 (by omega) (by omega), h 6 (by omega) (by omega), h 7 (by omega) (by omega), h 8 (by omega) (by omega), h 9 (by omega) (by omega), h 10 (by omega) (by omega), h 11 (by omega) (by omega), h 12 (by omega) (by omega), h 13 (by omega) (by omega), h 14 (by omega) (by omega), h 15 (by omega) (by omega)]
set_option maxRecDepth 100000 in
set_option maxHeartbeats 8000000 in
theorem operation_ref06 (op : Int) (w : World) (h : 0 ≤ op ∧ op < 64) : Calls Tryz.prog 52 #[intV op] w fun e w' => e = .returned (intV (qCode op)) ∧ Below w.heap.size w w' := by
 rcases (by omega : op = 1 ∨ op = 2 ∨ op = 3 ∨ op = 4 ∨ op = 5 ∨ op = 6 ∨ op = 7 ∨ op = 8 ∨ op = 9 ∨ op = 10 ∨ op = 11 ∨ op = 12 ∨ op = 16 ∨ op = 17 ∨ op = 18 ∨ op = 19 ∨ op = 20 ∨ op = 21 ∨ op = 22 ∨ ¬ ((1 ≤ op ∧ op ≤ 12) ∨ (16 ≤ op ∧ op ≤ 22))) with rfl | rfl | rfl | rfl | rfl | rfl | rfl | rfl | rfl | rfl | rfl | rfl | rfl | rfl | rfl | rfl | rfl | rfl | rfl | hno
 case inr.inr.inr.inr.inr.inr.inr.inr.inr.inr.inr.inr.inr.inr.inr.inr.inr.inr.inr =>
  have hq : qCode op = 0 := Decidable.byContradiction fun hc => hno (qCode_zero.1 hc)
  rw [hq]
  refine calls_satq [intV op] Tryz.func52 Tryz.ntmps52 rfl (by simp) ?_
  refine satq_seqN ?_
  conv => whnf
  refine satq_in ?_
  refine satq_seqN ?_
  conv => whnf
  refine satq_block ?_
  repeat' (first
   | (refine satq_cond rfl (fun h => absurd h (by simp; omega)) (fun h => ?_))
   | (refine satq_seqN ?_; (conv=>whnf); repeat (refine ⟨(fun h => absurd h (by simp; omega)), fun _ => ?_⟩; (conv=>whnf))))
  refine satq_skip (atq_block (atq_on ?_))
  refine satq_vcN ?_
  conv => whnf
  refine atq_ret ?_
  conv => whnf
  exact fin_val rfl fun w' hB => ⟨rfl, hB⟩
 all_goals
  refine calls_satq [intV _] Tryz.func52 Tryz.ntmps52 rfl (by simp) ?_
  refine satq_seqN ?_
  conv => whnf
  refine satq_in ?_
  refine satq_seqN ?_
  conv => whnf
  refine satq_block ?_
  repeat' (first
   | (refine satq_cond rfl (fun h => absurd h (by decide)) (fun _ => ?_))
   | (refine satq_cond rfl (fun _ => ?_) (fun h => absurd h (by decide)))
   | (refine satq_seqN ?_; (conv=>whnf); (repeat ((first | apply k1 | apply k2 | apply k3 | apply k4 | refine k5 (by decide) ?_ | refine k6 (by decide) ?_); conv => whnf))))
  refine satq_vcN ?_
  conv => whnf
  refine atq_up (atq_ret ?_) fun a w hq => hq
  conv => whnf
  exact fin_val rfl fun w' hB => ⟨rfl, hB⟩
end Go.Proofs.YtnhdcclpjildjaaGreat
namespace Go.Proofs.YtnhdcclpjildjaaGreat
open Go.RowKit

structure LSt (w w' : World) (g : Nat) (vA vP vO : Value) (l' : List BOp) (pb : Nat) (us : List Value) (t : TypeId) : Prop where
 lift : LiftTo w w' g vA vP vO l'
 box : w'.heap[pb]? = some (.cells us.toArray t (0, 0))
 lt : pb < w.heap.size
 ne : pb ≠ g
 no : vO.ownBlock ≠ some pb
section
variable {w : World} {g : Nat} {vA vP vO : Value} {l : List BOp} {pb : Nat} {us : List Value} {t : TypeId}
theorem LSt.later {w1 w2 : World} {l1 : List BOp} (h : LSt w w1 g vA vP vO l1 pb us t) (hB : Below w1.heap.size w1 w2) : LSt w w2 g vA vP vO l1 pb us t :=
 ⟨h.lift.later hB, (hB.block pb (heap_lt h.box)).trans h.box, h.lt, h.ne, h.no⟩
theorem LSt.step {w1 : World} {l1 : List BOp} (h : LSt w w1 g vA vP vO l1 pb us t) : ∃ vO1, LiftAt w1 g vA vP vO1 l1 ∧ ∀ w2 l2, LiftTo w1 w2 g vA vP vO1 l2 → LSt w w2 g vA vP vO l2 pb us t := by
 obtain ⟨vO1, k1, k2⟩ := h.lift.out
 have hfar : vO1.ownBlock ≠ some pb := fun e => by
  rcases k2 pb e with h1 | h1
  ·exact h.no h1
  ·have := h.lt; omega
 exact ⟨vO1, k1, fun w2 l2 k => ⟨h.lift.then k2 k, (k.block pb (heap_lt h.box) h.ne hfar).trans h.box, h.lt, h.ne, h.no⟩⟩
abbrev qiT : TypeId := 62
end
end Go.Proofs.YtnhdcclpjildjaaGreat
namespace Go.Proofs.YtnhdcclpjildjaaGreat
open Go.RowKit

def readN (F : Int → Option Int) (a : Int) : Nat → Option Int
 | 0 => some 0
 | j + 1 => match readN F a j, F (a + j) with
  | some k, some b => some (k + b * 256 ^ j)
  | _, _ => none
def readQ (F : Int → Option Int) (a : Int) : Option QI := if a % 4 = 0 then (readN F a 4).bind decQ else none
theorem readN_lt {F : Int → Option Int} (hF : ∀ a b, F a = some b → 0 ≤ b ∧ b < 256) {a : Int} : ∀ {j : Nat} {k : Int}, readN F a j = some k → 0 ≤ k ∧ k < 256 ^ j
 | 0, k, h => by simp [readN] at h; subst h; decide
 | j + 1, k, h => by
  unfold readN at h
  split at h
  ·rename_i k0 b h1 h2
   injection h with h
   have h3 := readN_lt hF h1
   have h4 := hF _ _ h2
   have hp : (0 : Int) < 256 ^ j := Int.pow_pos (by decide)
   rw [Int.pow_succ]
   have h5 : b * 256 ^ j ≤ 255 * 256 ^ j := Int.mul_le_mul_of_nonneg_right (by omega) (by omega)
   have h6 : 0 ≤ b * 256 ^ j := Int.mul_nonneg h4.1 (by omega)
   omega
  ·cases h
theorem readN_none {F : Int → Option Int} {a : Int} {i : Nat} (h : F (a + i) = none) : ∀ {j : Nat}, i < j → readN F a j = none
 | j + 1, hj => by
  unfold readN
  rcases Nat.lt_or_ge i j with h1 | h1
  ·rw [readN_none h h1]
  ·have : i = j := by omega
   subst this
   rw [h]
   split
   ·rename_i h1 h2; cases h2
   ·rfl
structure RdS (F : Int → Option Int) (a : Int) where
 j : Nat
 k : Int
 hj : j ≤ 4
 hk : readN F a j = some k
end Go.Proofs.YtnhdcclpjildjaaGreat
namespace Go.Proofs.YtnhdcclpjildjaaGreat
open Go.RowKit

def limN (most : Int) : Nat := (min (max most 1) 64).toNat
theorem limN_ok (most : Int) : 1 ≤ limN most ∧ limN most ≤ 64 := by unfold limN; omega
def addTo (l : List Int) (a : Int) : Nat → List Int
 | 0 => l
 | j + 1 => addPage (addTo l a j) (a + j)
theorem readQ_ok {F : Int → Option Int} (hF : ∀ a b, F a = some b → 0 ≤ b ∧ b < 256) {a : Int} {i : QI} (h : readQ F a = some i) : i.ok := by
 unfold readQ at h
 split at h
 ·cases hn : readN F a 4 with
  | none => rw [hn] at h; cases h
  | some x => rw [hn] at h; exact decQ_ok (by have := readN_lt hF hn; unfold word; omega) h
 ·cases h
structure LfS (F : Int → Option QI) (pc : Int) (n : Nat) where
 more : Bool
 k : Nat
 ps : List Int
 pre : List BOp
 hk : k ≤ n
 hps : ∀ x, x ∈ ps ↔ x ∈ liftPages pc k
 hpl : ps.length ≤ 4 * k
 hol : pre.length ≤ 8 * k
 hgo : more = true → k < n ∧ pre ++ liftOps F pc n (n - k) k = liftOps F pc n n 0 ∧ liftLen F pc n (n - k) k = liftLen F pc n n 0
 hend : more = false → pre = liftOps F pc n n 0 ∧ k = liftLen F pc n n 0
structure PgS (l : List Int) (a : Int) (m : Nat) where
 j : Nat
 q : List Int
 hj : j ≤ 4
 hq : ∀ x, x ∈ q ↔ x ∈ addTo l a j
 hl : q.length ≤ m + j
end Go.Proofs.YtnhdcclpjildjaaGreat
namespace Go.Proofs.YtnhdcclpjildjaaGreat
open Go.RowKit

theorem onesL_app {S : List Ow} : ∀ {l m : List CV}, onesL S l = true → onesL S m = true → onesL S (l ++ m) = true
 | [], _, _, h => h
 | c :: l, m, h1, h2 => by
  show (match oneS S c with | true => onesL S (l ++ m) | false => false) = true
  have h1 : (match oneS S c with | true => onesL S l | false => false) = true := h1
  cases hc : oneS S c with
  | true => rw [hc] at h1; exact onesL_app h1 h2
  | false => rw [hc] at h1; cases h1
structure StC (L : List Value) : Prop where
 len : L.length = 24
 one : ∀ S, onesL S (L.map .v) = true
theorem stC_of (s : St) : StC (stL s []) := ⟨rfl, fun _ => rfl⟩
theorem StC.clen {L : List Value} (h : StC L) : (L.map CV.v).length = 24 := by rw [List.length_map]; exact h.len
theorem out_cells2 {L : List Value} (h : StC L) (x y : CV) (Z : List CV) (hZ : Z.length = 26) : setAll (setAll Z 0 (L.map .v)) 24 [x, y] = L.map .v ++ [x, y] := by
 obtain ⟨Z1, z1, z2, rfl, h1⟩ : ∃ (Z1 : List CV) (z1 z2 : CV), Z = Z1 ++ [z1, z2] ∧ Z1.length = 24 := by
  refine ⟨Z.take 24, Z[24], Z[25], ?_, by rw [List.length_take]; omega⟩
  have : Z.drop 24 = [Z[24], Z[25]] := by
   rw [List.drop_eq_getElem_cons (by omega), List.drop_eq_getElem_cons (by omega), List.drop_eq_nil_of_le (by omega)]
  rw [← this, List.take_append_drop]
 rw [setAll_take (L.map .v) Z1 0 (by rw [h.clen]; omega) 24 (by omega) [z1, z2], setAll_same (by rw [h1, h.clen])]
 show ((L.map CV.v ++ [z1, z2]).set 24 x).set 25 y = _
 rw [List.set_append_right _ _ (by rw [h.clen]; omega), h.clen, List.set_append_right _ _ (by rw [h.clen]; omega), h.clen]
 rfl
theorem fill_out {P : Program} {S : List Ow} {f : Fr} {place : Nat → Option (Nat × Nat)} {x y : Operand} {L : List Value} {c1 c2 : CV} {Z : List CV} (hL : StC L) (hp0 : place 0 = some (0, 24)) (hp1 : place 1 = some (24, 2)) (hx : (f.ev x).okCells S = some (L.map .v)) (hy : (f.ev y).okCells S = some [c1, c2]) (hZ : Z.length = 26) : fillK P S f place [(0, x), (1, y)] Z = some (L.map .v ++ [c1, c2]) := by
 have h1 : Nat.beq (L.map CV.v).length 24 = true := beq_len hL.clen
 have h2 : Nat.ble (0 + 24) Z.length = true := Nat.ble_eq_true_of_le (by omega)
 have h3 : Nat.ble (24 + 2) (setAll Z 0 (L.map .v)).length = true := Nat.ble_eq_true_of_le (by rw [setAll_length]; omega)
 simp only [fillK, hp0, hp1, hx, hy, h1, h2, h3, show Nat.beq [c1, c2].length 2 = true from rfl]
 rw [out_cells2 hL c1 c2 Z hZ]
theorem fill_out1 {P : Program} {S : List Ow} {f : Fr} {place : Nat → Option (Nat × Nat)} {x : Operand} {L : List Value} {c1 c2 : CV} {Z : List CV} (hL : StC L) (hp0 : place 0 = some (0, 24)) (hx : (f.ev x).okCells S = some (L.map .v)) (hZ : Z.length = 24) : fillK P S f place [(0, x)] (Z ++ [c1, c2]) = some (L.map .v ++ [c1, c2]) := by
 have h1 : Nat.beq (L.map CV.v).length 24 = true := beq_len hL.clen
 have h2 : Nat.ble (0 + 24) (Z ++ [c1, c2]).length = true := Nat.ble_eq_true_of_le (by simp; omega)
 simp only [fillK, hp0, hx, h1, h2]
 rw [setAll_take (L.map .v) Z 0 (by rw [hL.clen]; omega) 24 (by omega) [c1, c2], setAll_same (by rw [hZ, hL.clen])]
abbrev outSC (L : List Value) (c1 c2 : CV) : List CV := L.map .v ++ [c1, c2]
theorem outSC_len {L : List Value} (h : StC L) (c1 c2 : CV) : (outSC L c1 c2).length = 26 := by
 rw [List.length_append, h.clen]; rfl
theorem outSC_one {L : List Value} (h : StC L) (S : List Ow) {c1 c2 : CV} (h1 : onesL S [c1, c2] = true) : onesL S (outSC L c1 c2) = true := onesL_app (h.one S) h1
theorem outSC_val (L : List Value) (x y : Value) : (AV.p (.agg (outSC L (.v x) (.v y)))).val = some (.agg (L ++ [x, y]).toArray) := by
 rw [show outSC L (.v x) (.v y) = (L ++ [x, y]).map .v by rw [List.map_append]; rfl]
 exact val_agg _
set_option maxRecDepth 100000 in
set_option maxHeartbeats 2000000 in
theorem trapped_walk (L : List Value) (hL : StC L) (k inf : Int) (w : World) : Calls Tryz.prog 53 #[.agg L.toArray, intV k, u32V inf] w fun e w' => e = .returned (.agg (L ++ [intV k, u32V inf]).toArray) ∧ Below w.heap.size w w' := by
 refine calls_satq [.agg L.toArray, intV k, u32V inf] Tryz.func53 Tryz.ntmps53 rfl (by simp) ?_
 refine satq_seqN ?_
 conv => whnf
 obtain ⟨Z, hZ⟩ : ∃ Z : List CV, Z = List.map CV.v (stL ⟨0, fun _ => 0, 0, 0, 0, 0, 0, 0, 0⟩ [intV 0, u32V 0]) := ⟨_, rfl⟩
 have hZl : Z.length = 26 := by rw [hZ]; rfl
 refine satq_as (f' := [(1, one (intV k)), (2, one (u32V inf)), (3, .p (.c (.ref 0 0))), (6, .p (.c (.ref 1 0)))]) (S' := [.cells stT (L.map .v), .cells 69 Z]) (ent_same rfl (aI rfl (aI rfl (aI rfl (aI rfl trivial)))) (aI sM (aI ((aI rfl (Or.inl (by rw [hZ]; rfl)))) trivial))) ?_
 clear hZ
 refine satq_vcN ?_
 conv => whnf
 erw [cut_all hL.clen]
 conv => whnf
 refine fill_of (outSC L (.v (intV k)) (.v (u32V inf))) (fill_out hL rfl rfl rfl rfl rfl) ?_
 generalize hO : outSC L (.v (intV k)) (.v (u32V inf)) = O
 have hOl : O.length = 26 := by rw [← hO]; exact outSC_len hL _ _
 have hO1 : ∀ S, onesL S O = true := fun S => by rw [← hO]; exact outSC_one hL S rfl
 conv => whnf
 erw [beq_len hOl]
 conv => whnf
 erw [hO1]
 conv => whnf
 erw [ble_of (by rw [hOl, hZl])]
 conv => whnf
 erw [show Nat.ble Z.length 8 = false by rw [hZl]; rfl]
 conv => whnf
 erw [setAll_same (by rw [hOl, hZl])]
 refine atq_ret ?_
 conv => whnf
 erw [cut_all hOl]
 conv => whnf
 rw [← hO]
 exact fin_val (outSC_val L _ _) fun w' hB => ⟨rfl, hB⟩
end Go.Proofs.YtnhdcclpjildjaaGreat
namespace Go.Proofs.YtnhdcclpjildjaaGreat
open Go.RowKit

def MemP.fet (M : MemP) (a : Int) : Option Int := if M.right a 4 = true then some (M.code a) else none
theorem fet_byte {M : MemP} {n p : Nat} (hM : M.ok n p) (a b : Int) (h : M.fet a = some b) : 0 ≤ b ∧ b < 256 := by
 unfold MemP.fet at h
 split at h
 ·injection h with h
  subst h
  unfold MemP.code
  cases hc : M.image[a.toNat]? with
  | none => simp
  | some x => exact hM.ib x (List.mem_of_getElem? hc)
 ·cases h
theorem MemAt2.keep {w w' : World} {B m sb : Nat} {l : List Slt} {img : Nat → List Int} (h : MemAt2 w B m sb l img) (hk : ∀ k, B ≤ k → k < w.heap.size → w'.heap[k]? = w.heap[k]?) : MemAt2 w' B m sb l img :=
 ⟨(hk _ h.Bm (heap_lt h.hm)).trans h.hm, (hk _ h.Bs (heap_lt h.hs)).trans h.hs, h.Bm, h.Bs, fun s hs => by obtain ⟨⟨us, hu⟩, hb⟩ := h.dp s hs; exact ⟨⟨us, hu.later (hk _ hb (heap_lt hu.at_))⟩, hb⟩,
  fun k s hs => by obtain ⟨hu, hb⟩ := h.cp k s hs; exact ⟨hu.later (hk _ hb (heap_lt hu.at_)), hb⟩, h.sep⟩
def liftM (M : MemP) (pc most : Int) : Blk := liftQ (readQ M.fet) pc (limN most)
theorem liftM_ok {M : MemP} {n p : Nat} (hM : M.ok n p) (pc most : Int) : (liftM M pc most).ok ∧ validB (liftM M pc most) = true ∧ ∀ o ∈ (liftM M pc most).ops, clean o :=
 liftQ_valid (fun _a _i h => readQ_ok (fun a b h => fet_byte hM a b h) h) pc (limN_ok most).1 (limN_ok most).2
theorem Rows3.base {B B' : Nat} {w : World} {v1 v2 v3 : Value} {b : Blk} (h : Rows3 B w v1 v2 v3 b) (hB : B' ≤ B) : Rows3 B' w v1 v2 v3 b :=
 ⟨own_base h.at_ hB, own_base h.pages hB, own_base h.ops hB, h.d12, h.d13, h.d23⟩
section
variable {w : World} {g n p : Nat} {gs : List Nat} {M : MemP}
end
end Go.Proofs.YtnhdcclpjildjaaGreat
namespace Go.Proofs.YtnhdcclpjildjaaGreat
open Go.RowKit

def MemP.fk (M : MemP) (pc : Int) : Int := if pc % 4 = 0 then (match M.bad pc 4 0 4 with | some _ => 5 | none => if (readQ M.fet pc).isSome = true then 0 else 7) else 7
def MemP.fi (M : MemP) (pc : Int) : Int := if pc % 4 = 0 then (match M.bad pc 4 0 4 with | some y => y | none => 0) else 0
abbrev fetV6 (i : QI) (k inf : Int) : Value := .agg #[intV i.op, intV i.d, intV i.a, intV i.b, u32V i.imm, intV k, u32V inf]
theorem bad_some {M : MemP} {a r y : Int} : ∀ {i k : Nat}, M.bad a r i k = some y → ∃ j, i ≤ j ∧ j < i + k ∧ M.right ((a + j) % 4294967296) r = false
 | i, 0, h => by cases h
 | i, k + 1, h => by
  unfold MemP.bad at h
  split at h
  ·obtain ⟨j, h1, h2, h3⟩ := bad_some h
   exact ⟨j, by omega, by omega, h3⟩
  ·rename_i hr
   exact ⟨i, Nat.le_refl _, by omega, by simpa using hr⟩
theorem fet_none {M : MemP} {a : Int} (h : M.right a 4 = false) : M.fet a = none := by unfold MemP.fet; rw [h]; rfl
theorem read_bad {M : MemP} {pc y : Int} (hpc : word pc) (h4 : pc % 4 = 0) (h : M.bad pc 4 0 4 = some y) : readQ M.fet pc = none := by
 obtain ⟨j, _, h2, h3⟩ := bad_some h
 unfold word at hpc
 rw [show (pc + (j : Int)) % 4294967296 = pc + j by omega] at h3
 unfold readQ
 rw [if_pos h4, readN_none (fet_none h3) (by omega)]
 rfl
theorem fk_zero {M : MemP} {pc : Int} (hpc : word pc) : M.fk pc = 0 ↔ (readQ M.fet pc).isSome = true := by
 unfold MemP.fk
 by_cases h4 : pc % 4 = 0
 ·rw [if_pos h4]
  cases hb : M.bad pc 4 0 4 with
  | some y => rw [read_bad hpc h4 hb]; simp
  | none => cases (readQ M.fet pc).isSome <;> simp
 ·rw [if_neg h4]
  unfold readQ
  rw [if_neg h4]
  simp
set_option maxRecDepth 100000 in
set_option maxHeartbeats 8000000 in
theorem fetch6_walk (M : MemP) (n p : Nat) (pc : Int) (w : World) (g : Nat) (gs : List Nat) (hU : ObjsAt w (g :: gs) (memS 0 n p M)) (hM : M.ok n p) (hpc : word pc) :
  Calls Tryz.prog 46 #[u32V pc, .pointer (some ⟨g, 0, none⟩)] w fun e w' => e = .returned (fetV6 ((readQ M.fet pc).getD QI.zero) (M.fk pc) (M.fi pc)) ∧ ObjsAt w' (g :: gs) (memS 0 n p M) ∧ GrownBys w w' (g :: gs) := by
 obtain ⟨g0, g1, g2, g3, g4, g5, hg⟩ := six_blocks hU
 injection hg with hg0 hgs
 subst hgs; subst hg0
 have hpc' := hpc
 obtain ⟨p0, p1⟩ := hpc'
 refine calls_objs_satq [one (u32V pc), .p (.c (.ref 0 0))] [u32V pc, .pointer (some ⟨g, 0, none⟩)] Tryz.func46 Tryz.ntmps46 rfl (by simp) hU ⟨_, _, rfl, den_one _ _, _, _, rfl, den_mk_ref rfl, rfl⟩ ?_
 refine satq_seqN ?_
 conv => whnf
 refine satq_seqN ?_
 conv => whnf
 refine ⟨by decide, pc % 4, Int.tmod_eq_emod_of_nonneg p0, ?_⟩
 conv => whnf
 refine ⟨fun hc => ?_, fun hc => ?_⟩
 ·have h4 : ¬ pc % 4 = 0 := by simpa using hc
  conv => whnf
  refine atq_ret ?_
  conv => whnf
  refine fin_objs rfl rfl memL_sub (memS_ob n p M) fun w' h1 h2 => ⟨?_, h1, h2⟩
  unfold MemP.fk MemP.fi readQ
  rw [if_neg h4, if_neg h4, if_neg h4]; rfl
 have h4 : pc % 4 = 0 := by simpa using hc
 have hr : readQ M.fet pc = (readN M.fet pc 4).bind decQ := by unfold readQ; rw [if_pos h4]
 clear hc
 conv => whnf
 refine satq_seqN ?_
 conv => whnf
 refine satq_mid (α := { x : Int // readN M.fet pc 4 = some x ∧ M.bad pc 4 0 4 = none }) (fun x => [(0, one (u32V pc)), (4, .p (.c (.ref 6 0))), (5, one (u32V x.1))]) (fun _ => memL 0 n p M [.cells 106 [.v (intV 0), .v (intV 0), .v (intV 0), .v (intV 0), .v (u32V 0), .v (intV 0), .v (u32V 0)]]) ?_ fun x => ?_
 ·refine satq_seqN ?_
  conv => whnf
  refine satq_block ?_
  refine satq_loop (α := { x : Nat × Int // x.1 ≤ 4 ∧ readN M.fet pc x.1 = some x.2 ∧ M.bad pc 4 0 4 = M.bad pc 4 x.1 (4 - x.1) }) (fun x => [(0, one (u32V pc)), (1, .p (.c (.ref 0 0))), (4, .p (.c (.ref 6 0))), (5, one (u32V x.1.2)), (6, one (intV (x.1.1 : Int)))]) (fun _ => memL 0 n p M [.cells 106 [.v (intV 0), .v (intV 0), .v (intV 0), .v (intV 0), .v (u32V 0), .v (intV 0), .v (u32V 0)]]) (fun x => 4 - x.1.1)
   ⟨(0, 0), by omega, rfl, rfl⟩ (ent_same rfl (aI rfl (aI rfl (aI rfl (aI rfl (aI rfl trivial))))) (aI sM (aI sM (aI sM (aI sM (aI sM (aI sM (aI sM trivial)))))))) fun x => ?_
  obtain ⟨⟨j, k⟩, hj, hk, hb⟩ := x
  dsimp only at hj hk hb ⊢
  have hkb := readN_lt (fun a b h => fet_byte hM a b h) hk
  refine satq_seqN ?_
  conv => whnf
  refine ⟨fun hc => ?_, fun hc => ?_⟩
  ·have hlt : j < 4 := by simp at hc; omega
   have hbs := bad_step M pc 4 (i := j) (m := 4) hlt
   rw [show (pc + (j : Int)) % 4294967296 = pc + j by omega] at hbs
   have hwx : word (pc + j) := by unfold word; omega
   have hno := readN_none (F := M.fet) (a := pc) (i := j) (j := 4)
   have hnx : readN M.fet pc (j + 1) = match readN M.fet pc j, M.fet (pc + j) with
    | some k, some b => some (k + b * 256 ^ j)
    | _, _ => none := rfl
   rw [hk] at hnx
   have hfb := fet_byte hM (pc + j)
   conv => whnf
   refine satq_in (satq_block ?_)
   refine satq_seqN ?_
   conv => whnf
   refine ⟨(j : Int), by rw [wr32]; omega, ?_⟩
   conv => whnf
   refine ⟨pc + j, by rw [wr32]; omega, ?_⟩
   conv => whnf
   refine call_memR (pre := []) (suf := [one (u32V (pc + j))]) 0 n p M (M.fetchV (pc + j)) (fun i hi => memL_six i hi) rfl rfl (by kernel_rfl) (fun w' g gs hk hU => mem_fetch M n p (pc + j) w' g gs hU hM hwx) ?_
   cases hrt : M.right (pc + j) 4 with
   | false =>
    have hfv : M.fetchV (pc + j) = valV 0 (pc + j) false := by unfold MemP.fetchV; rw [hrt]; rfl
    have hbad : M.bad pc 4 0 4 = some (pc + j) := by rw [hb, hbs, hrt]; rfl
    rw [hfv]
    conv => whnf
    refine satq_seqN ?_
    conv => whnf
    refine ⟨fun _ => ?_, fun hc => absurd hc (by decide)⟩
    conv => whnf
    refine ⟨(j : Int), by rw [wr32]; omega, ?_⟩
    conv => whnf
    refine ⟨pc + j, by rw [wr32]; omega, ?_⟩
    conv => whnf
    refine atq_up (atq_ret ?_) fun a w hq => hq
    conv => whnf
    refine fin_objs rfl rfl (fun i o h => sub_append i o h) (memS_ob n p M) fun w' h1 h2 => ⟨?_, h1, h2⟩
    rw [read_bad hpc h4 hbad]
    unfold MemP.fk MemP.fi
    rw [if_pos h4, if_pos h4, hbad]; rfl
   | true =>
    have hfv : M.fetchV (pc + j) = valV (M.code (pc + j)) 0 true := by unfold MemP.fetchV; rw [hrt]; rfl
    have hfe : M.fet (pc + j) = some (M.code (pc + j)) := by unfold MemP.fet; rw [hrt]; rfl
    rw [hrt] at hbs
    rw [hfv]
    have hbb := hfb _ hfe
    rw [hfe] at hnx
    generalize M.code (pc + j) = b at hbb hnx hfe hfv ⊢
    conv => whnf
    refine satq_seqN ?_
    conv => whnf
    refine ⟨fun hc => absurd hc (by decide), fun _ => ?_⟩
    conv => whnf
    have hj4 : j = 0 ∨ j = 1 ∨ j = 2 ∨ j = 3 := by omega
    refine satq_vcN ?_
    conv => whnf
    refine ⟨8 * (j : Int), wr64 (by omega), ?_⟩
    conv => whnf
    refine ⟨8 * (j : Int), by show IntKind.u64.wrap _ = _; rcases hj4 with rfl | rfl | rfl | rfl <;> rfl, ?_⟩
    conv => whnf
    refine ⟨by omega, b * 256 ^ j, ?_, ?_⟩
    ·rw [wr32]
     rcases hj4 with rfl | rfl | rfl | rfl
     ·show b * 2 ^ 0 % 4294967296 = b * 256 ^ 0; omega
     ·show b * 2 ^ 8 % 4294967296 = b * 256 ^ 1; omega
     ·show b * 2 ^ 16 % 4294967296 = b * 256 ^ 2; omega
     ·show b * 2 ^ 24 % 4294967296 = b * 256 ^ 3; omega
    conv => whnf
    refine ⟨k + b * 256 ^ j, ?_, ?_⟩
    ·rw [wr32]
     have := readN_lt (fun a b h => fet_byte hM a b h) hnx
     have h2 : (256 : Int) ^ (j + 1) ≤ 4294967296 := by rcases hj4 with rfl | rfl | rfl | rfl <;> decide
     omega
    conv => whnf
    refine atq_block (atq_on ?_)
    refine satq_vcN ?_
    conv => whnf
    refine ⟨(j : Int) + 1, wr64 (by omega), ?_⟩
    conv => whnf
    exact atq_next ⟨(j + 1, k + b * 256 ^ j), by show j + 1 ≤ 4; omega, hnx, by rw [hb, hbs, if_pos rfl]⟩ (ent_drop (aI rfl (aI rfl (aI rfl (aI rfl (aI rfl trivial))))) (aI sM (aI sM (aI sM (aI sM (aI sM (aI sM (aI sM trivial))))))) rfl (grp_memT _ _ _ _ _ _ _ _ _ _ rfl)) (by show 4 - (j + 1) < 4 - j; omega)
  ·have he : j = 4 := by simp at hc; omega
   subst he
   conv => whnf
   exact atq_out (atq_exit (atq_mid ⟨k, hk, by rw [hb]; rfl⟩ (ent_same rfl (aI rfl (aI rfl (aI rfl trivial))) (aI sM (aI sM (aI sM (aI sM (aI sM (aI sM (aI sM trivial))))))))))
 obtain ⟨x, hx, hb⟩ := x
 dsimp only
 have hxw : word x := by have := readN_lt (fun a b h => fet_byte hM a b h) hx; unfold word; omega
 refine satq_seqN ?_
 conv => whnf
 refine call_con rfl (by kernel_rfl) (fun r w' hR => decode_ref x w' hxw) ?_
 have hr2 : readQ M.fet pc = decQ x := by rw [hr, hx]; rfl
 have hfk : M.fk pc = if (decQ x).isSome = true then 0 else 7 := by unfold MemP.fk; rw [if_pos h4, hb, hr2]
 have hfi : M.fi pc = 0 := by unfold MemP.fi; rw [if_pos h4, hb]
 rw [hr2, hfk, hfi]
 cases decQ x with
 | none =>
  conv => whnf
  refine satq_vcN ?_
  conv => whnf
  (repeat ((first | apply k1 | apply k2 | apply k3 | apply k4 | refine k5 (by decide) ?_ | refine k6 (by decide) ?_); conv => whnf))
  refine atq_ret ?_
  conv => whnf
  exact fin_objs rfl rfl (fun i o h => sub_append i o h) (memS_ob n p M) fun w' h1 h2 => ⟨rfl, h1, h2⟩
 | some i =>
  conv => whnf
  refine satq_vcN ?_
  conv => whnf
  (repeat ((first | apply k1 | apply k2 | apply k3 | apply k4 | refine k5 (by decide) ?_ | refine k6 (by decide) ?_); conv => whnf))
  refine atq_ret ?_
  conv => whnf
  exact fin_objs rfl rfl (fun i o h => sub_append i o h) (memS_ob n p M) fun w' h1 h2 => ⟨rfl, h1, h2⟩
end Go.Proofs.YtnhdcclpjildjaaGreat
namespace Go.Proofs.YtnhdcclpjildjaaGreat
open Go.RowKit

def MemP.simp (M : MemP) (pc : Int) : Bool := match readQ M.fet pc with | none => false | some i => simpleQ i.op
theorem readQ_op {M : MemP} {n p : Nat} (hM : M.ok n p) {pc : Int} {i : QI} (h : readQ M.fet pc = some i) : i.ok ∧ (qForm i.op).is = true := by
 have hF := fun a b (h : M.fet a = some b) => fet_byte hM a b h
 refine ⟨readQ_ok hF h, ?_⟩
 unfold readQ at h
 split at h
 ·cases hr : readN M.fet pc 4 with
  | none => rw [hr] at h; cases h
  | some x =>
   rw [hr] at h
   exact (validQ_parts (decQ_valid h).1).1
 ·cases h
set_option maxRecDepth 100000 in
set_option maxHeartbeats 8000000 in
theorem simple_walk (M : MemP) (n p : Nat) (pc : Int) (w : World) (g : Nat) (gs : List Nat) (hU : ObjsAt w (g :: gs) (memS 0 n p M)) (hM : M.ok n p) (hpc : word pc) :
  Calls Tryz.prog 44 #[u32V pc, .pointer (some ⟨g, 0, none⟩)] w fun e w' => e = .returned (.bool (M.simp pc)) ∧ ObjsAt w' (g :: gs) (memS 0 n p M) ∧ GrownBys w w' (g :: gs) := by
 obtain ⟨g0, g1, g2, g3, g4, g5, hg⟩ := six_blocks hU
 injection hg with hg0 hgs
 subst hgs; subst hg0
 refine calls_objs_satq [one (u32V pc), .p (.c (.ref 0 0))] [u32V pc, .pointer (some ⟨g, 0, none⟩)] Tryz.func44 Tryz.ntmps44 rfl (by simp) hU ⟨_, _, rfl, den_one _ _, _, _, rfl, den_mk_ref rfl, rfl⟩ ?_
 have hz := fk_zero (M := M) hpc
 refine satq_seqN ?_
 conv => whnf
 refine satq_seqN ?_
 conv => whnf
 refine call_memR (pre := [one (u32V pc)]) (suf := []) 0 n p M (fetV6 ((readQ M.fet pc).getD QI.zero) (M.fk pc) (M.fi pc)) (fun i hi => by rw [Nat.zero_add]) rfl rfl (by kernel_rfl) (fun w' g gs hk hU => fetch6_walk M n p pc w' g gs hU hM hpc) ?_
 unfold MemP.simp
 generalize M.fk pc = k at hz ⊢
 cases hr : readQ M.fet pc with
 | none =>
  rw [hr] at hz
  have hk : ¬ k = 0 := by simpa using hz
  conv => whnf
  refine satq_seqN ?_
  conv => whnf
  refine ⟨fun _ => ?_, fun hc => absurd hc (by simpa using hk)⟩
  conv => whnf
  refine atq_ret ?_
  conv => whnf
  exact fin_objs rfl rfl (fun i o h => sub_append i o h) (memS_ob n p M) fun w' h1 h2 => ⟨rfl, h1, h2⟩
 | some i =>
  have hi := (readQ_op hM hr).1.op
  rw [hr] at hz
  have hk : k = 0 := by simpa using hz
  subst hk
  obtain ⟨op, d, a, b, imm⟩ := i
  dsimp only at hi
  rw [Option.getD_some]
  conv => whnf
  refine satq_seqN ?_
  conv => whnf
  (repeat ((first | apply k1 | apply k2 | apply k3 | apply k4 | refine k5 (by decide) ?_ | refine k6 (by decide) ?_); conv => whnf))
  by_cases hlt : op < 48
  ·have hs : simpleQ op = true := by unfold simpleQ; simpa using hlt
   have e8 : (op == 48) = false := by simp; omega
   have e9 : (op == 49) = false := by simp; omega
   have e0 : (op == 50) = false := by simp; omega
   have e1 : (op == 51) = false := by simp; omega
   have e2 : (op == 52) = false := by simp; omega
   have e3 : (op == 53) = false := by simp; omega
   have e4 : (op == 54) = false := by simp; omega
   refine satq_vcN ?_
   conv => whnf
   refine ⟨fun h => absurd h (by rw [e8]; decide), fun _ => ?_⟩
   conv => whnf
   refine ⟨fun h => absurd h (by rw [e9]; decide), fun _ => ?_⟩
   conv => whnf
   refine ⟨fun h => absurd h (by rw [e0]; decide), fun _ => ?_⟩
   conv => whnf
   refine ⟨fun h => absurd h (by rw [e1]; decide), fun _ => ?_⟩
   conv => whnf
   refine ⟨fun h => absurd h (by rw [e2]; decide), fun _ => ?_⟩
   conv => whnf
   refine ⟨fun h => absurd h (by rw [e3]; decide), fun _ => ?_⟩
   conv => whnf
   rw [e4]
   (repeat ((first | apply k1 | apply k2 | apply k3 | apply k4 | refine k5 (by decide) ?_ | refine k6 (by decide) ?_); conv => whnf))
   refine atq_ret ?_
   conv => whnf
   exact fin_objs rfl rfl (fun i o h => sub_append i o h) (memS_ob n p M) fun w' h1 h2 => ⟨by show _ = Ending.returned (.bool (simpleQ op)); rw [hs], h1, h2⟩
  ·have hform := (readQ_op hM hr).2
   have h2 := is_ops hform
   dsimp only at h2
   rcases (by omega : op = 48 ∨ op = 49 ∨ op = 50 ∨ op = 51 ∨ op = 52 ∨ op = 53 ∨ op = 54) with rfl | rfl | rfl | rfl | rfl | rfl | rfl
   all_goals
    refine satq_vcN ?_
    conv => whnf
    (repeat ((first | apply k1 | apply k2 | apply k3 | apply k4 | refine k5 (by decide) ?_ | refine k6 (by decide) ?_); conv => whnf))
    refine atq_ret ?_
    conv => whnf
    exact fin_objs rfl rfl (fun i o h => sub_append i o h) (memS_ob n p M) fun w' h1 h2 => ⟨rfl, h1, h2⟩
end Go.Proofs.YtnhdcclpjildjaaGreat
namespace Go.Proofs.YtnhdcclpjildjaaGreat
open Go.RowKit

abbrev ifI (b : Bool) (x y : Int) : Int := match b with | true => x | false => y
abbrev entL (R : Int → Int) (j : Nat) : List Int := [0, ifI (Nat.blt 1 j) (R 1) 0, ifI (Nat.blt 2 j) (R 2) 0, ifI (Nat.blt 3 j) (R 3) 0, ifI (Nat.blt 4 j) (R 4) 0, ifI (Nat.blt 5 j) (R 5) 0, ifI (Nat.blt 6 j) (R 6) 0, ifI (Nat.blt 7 j) (R 7) 0, ifI (Nat.blt 8 j) (R 8) 0, ifI (Nat.blt 9 j) (R 9) 0, ifI (Nat.blt 10 j) (R 10) 0, ifI (Nat.blt 11 j) (R 11) 0, ifI (Nat.blt 12 j) (R 12) 0, ifI (Nat.blt 13 j) (R 13) 0, ifI (Nat.blt 14 j) (R 14) 0, ifI (Nat.blt 15 j) (R 15) 0, 0, 0, 0, 0, 0, 0, 0, 0, 0, 0, 0, 0]
theorem enter_reg {s : St} (hs : s.ok) : RegOk (entL s.R 16) s.R := by
 have hw : ∀ j : Int, 0 ≤ j → j < 16 → word (s.R j) := hs.reg
 refine ⟨⟨rfl, fun x hx => ?_⟩, fun j h0 h1 => ?_, hs.zero⟩
 ·simp only [entL, ifI, List.mem_cons, List.not_mem_nil, or_false] at hx
  rcases hx with h | h | h | h | h | h | h | h | h | h | h | h | h | h | h | h | h | h | h | h | h | h | h | h | h | h | h | h
  all_goals (subst h; first | exact word0 | exact hw _ (by decide) (by decide))
 ·rcases (by omega : j = 0 ∨ j = 1 ∨ j = 2 ∨ j = 3 ∨ j = 4 ∨ j = 5 ∨ j = 6 ∨ j = 7 ∨ j = 8 ∨ j = 9 ∨ j = 10 ∨ j = 11 ∨ j = 12 ∨ j = 13 ∨ j = 14 ∨ j = 15) with rfl | rfl | rfl | rfl | rfl | rfl | rfl | rfl | rfl | rfl | rfl | rfl | rfl | rfl | rfl | rfl
  ·exact hs.zero.symm
  all_goals rfl
theorem st_reg (s : St) (T : List Value) {j : Int} (h0 : 0 ≤ j) (h1 : j < 16) : ((stL s T).map CV.v)[0 + 1 + j.toNat * 1]? = some (.v (u32V (s.R j))) := by
 rcases (by omega : j = 0 ∨ j = 1 ∨ j = 2 ∨ j = 3 ∨ j = 4 ∨ j = 5 ∨ j = 6 ∨ j = 7 ∨ j = 8 ∨ j = 9 ∨ j = 10 ∨ j = 11 ∨ j = 12 ∨ j = 13 ∨ j = 14 ∨ j = 15) with rfl | rfl | rfl | rfl | rfl | rfl | rfl | rfl | rfl | rfl | rfl | rfl | rfl | rfl | rfl | rfl <;> rfl
abbrev regU (R : Int → Int) (d x : Int) : Int → Int := fun j => if j = d then x else R j
theorem st_setR (s : St) (T : List Value) {j : Int} (x : Int) (h0 : 0 ≤ j) (h1 : j < 16) : setAll ((stL s T).map CV.v) (0 + 1 + j.toNat * 1) [.v (u32V x)] = (stL { s with R := regU s.R j x } T).map .v := by
 rcases (by omega : j = 0 ∨ j = 1 ∨ j = 2 ∨ j = 3 ∨ j = 4 ∨ j = 5 ∨ j = 6 ∨ j = 7 ∨ j = 8 ∨ j = 9 ∨ j = 10 ∨ j = 11 ∨ j = 12 ∨ j = 13 ∨ j = 14 ∨ j = 15) with rfl | rfl | rfl | rfl | rfl | rfl | rfl | rfl | rfl | rfl | rfl | rfl | rfl | rfl | rfl | rfl <;> rfl
theorem ent_set (R : Int → Int) {j : Nat} (h0 : 0 < j) (h1 : j < 16) : setAll (varsC (entL R j)) (0 + (j : Int).toNat * 1) [.v (u32V (R (j : Int)))] = varsC (entL R (j + 1)) := by
 rcases (by omega : j = 0 ∨ j = 1 ∨ j = 2 ∨ j = 3 ∨ j = 4 ∨ j = 5 ∨ j = 6 ∨ j = 7 ∨ j = 8 ∨ j = 9 ∨ j = 10 ∨ j = 11 ∨ j = 12 ∨ j = 13 ∨ j = 14 ∨ j = 15) with rfl | rfl | rfl | rfl | rfl | rfl | rfl | rfl | rfl | rfl | rfl | rfl | rfl | rfl | rfl | rfl <;> first | omega | rfl
theorem len_ble (l : List CV) {n m : Nat} (hl : l.length = n) (h : m ≤ n) : Nat.ble m l.length = true := Nat.ble_eq_true_of_le (by omega)
theorem len_big (l : List CV) {n : Nat} (hl : l.length = n) (h : 8 < n) : Nat.ble l.length 8 = false := by rw [hl]; exact ble_no h
set_option maxRecDepth 100000 in
set_option maxHeartbeats 2000000 in
theorem enter_walk (s : St) (w : World) : Calls Tryz.prog 47 #[intV 2, stV s] w fun e w' => e = .returned (varsV (entL s.R 16)) ∧ Below w.heap.size w w' := by
 obtain ⟨L, hL⟩ : ∃ L, L = stL s [] := ⟨_, rfl⟩
 have hLl : (L.map CV.v).length = 24 := by rw [hL]; rfl
 have hreg : ∀ j : Int, 0 ≤ j → j < 16 → (L.map CV.v)[0 + 1 + j.toNat * 1]? = some (.v (u32V (s.R j))) := fun j h0 h1 => by rw [hL]; exact st_reg s [] h0 h1
 rw [show stV s = .agg L.toArray by rw [hL]]
 refine calls_satq [intV 2, .agg L.toArray] Tryz.func47 Tryz.ntmps47 rfl (by simp) ?_
 refine satq_seqN ?_
 conv => whnf
 refine satq_seqN ?_
 conv => whnf
 obtain ⟨Z0, hZ0⟩ : ∃ Z0 : List CV, Z0 = varsC (entL s.R 0) := ⟨_, rfl⟩
 have hZ0l : Z0.length = 28 := by rw [hZ0]; rfl
 refine satq_mid (α := { Z : List CV // Z = varsC (entL s.R 16) }) (fun _ => [(0, one (intV 2)), (4, .p (.c (.ref 1 0))), (5, .p (.c (.ref 2 0)))]) (fun x => [.cells stT (L.map .v), .cells 53 Z0, .cells 53 x.1]) ?_ fun x => ?_
 ·refine satq_seqN ?_
  conv => whnf
  refine satq_block ?_
  refine satq_loop (α := { x : Nat × List CV // x.1 ≤ 16 ∧ x.2 = varsC (entL s.R x.1) }) (fun x => [(0, one (intV 2)), (3, .p (.c (.ref 0 0))), (4, .p (.c (.ref 1 0))), (5, .p (.c (.ref 2 0))), (6, one (intV (x.1.1 : Int)))]) (fun x => [.cells stT (L.map .v), .cells 53 Z0, .cells 53 x.1.2]) (fun x => 16 - x.1.1)
   ⟨(0, varsC (entL s.R 0)), by omega, rfl⟩ (ent_same rfl (aI rfl (aI rfl (aI rfl (aI rfl (aI rfl trivial))))) (aI sM (aI ((aI rfl (Or.inl (by rw [hZ0]; rfl)))) (aI sM trivial)))) fun x => ?_
  obtain ⟨⟨j, Z⟩, hj, hZ⟩ := x
  dsimp only at hj hZ ⊢
  have hZl : Z.length = 28 := by rw [hZ]; rfl
  refine satq_seqN ?_
  conv => whnf
  refine ⟨fun hc => ?_, fun hc => ?_⟩
  ·have hlt : j < 16 := by simp at hc; omega
   conv => whnf
   refine satq_in (satq_block ?_)
   refine satq_seqN ?_
   conv => whnf
   (repeat ((first | apply k1 | apply k2 | apply k3 | apply k4 | refine k5 (by decide) ?_ | refine k6 (by decide) ?_); conv => whnf))
   by_cases h0 : j = 0
   ·subst h0
    refine satq_cond rfl (fun h => absurd h (by decide)) fun _ => ?_
    refine satq_skip (atq_block (atq_on ?_))
    refine satq_vcN ?_
    conv => whnf
    refine ⟨_, wr64 (by omega), ?_⟩
    conv => whnf
    exact atq_next ⟨(1, Z), by show (1 : Nat) ≤ 16; omega, hZ⟩ (ent_same rfl (aI rfl (aI rfl (aI rfl (aI rfl (aI rfl trivial))))) (aI sM (aI sM (aI sM trivial)))) (by show 16 - 1 < 16 - 0; omega)
   ·refine satq_cond rfl (fun _ => ?_) fun h => absurd h (by simp; omega)
    refine satq_vcN ?_
    conv => whnf
    (refine ⟨⟨by omega, by omega⟩, ?_⟩; (conv=>whnf))
    erw [hreg (j : Int) (by omega) (by omega)]
    conv => whnf
    (refine ⟨⟨by omega, by omega⟩, ?_⟩; (conv=>whnf))
    erw [len_ble Z hZl (m := 0 + (j : Int).toNat * 1 + 1) (by omega)]
    conv => whnf
    erw [len_big Z hZl (by omega)]
    conv => whnf
    refine atq_block (atq_on ?_)
    refine satq_vcN ?_
    conv => whnf
    refine ⟨_, wr64 (by omega), ?_⟩
    conv => whnf
    exact atq_next ⟨(j + 1, _), by show j + 1 ≤ 16; omega, by rw [← ent_set s.R (by omega) hlt, ← hZ]; rfl⟩ (ent_same rfl (aI rfl (aI rfl (aI rfl (aI rfl (aI rfl trivial))))) (aI sM (aI sM (aI sM trivial)))) (by show 16 - (j + 1) < 16 - j; omega)
  ·have he : j = 16 := by simp at hc; omega
   subst he
   conv => whnf
   exact atq_out (atq_exit (atq_mid ⟨Z, hZ⟩ (ent_same rfl (aI rfl (aI rfl (aI rfl trivial))) (aI sM (aI sM (aI sM trivial))))))
 obtain ⟨Z, hZ⟩ := x
 have hZl : Z.length = 28 := by rw [hZ]; rfl
 have hZ1 : ∀ S, onesL S Z = true := fun S => by rw [hZ]; rfl
 dsimp only
 refine satq_vcN ?_
 conv => whnf
 (repeat ((first | apply k1 | apply k2 | apply k3 | apply k4 | refine k5 (by decide) ?_ | refine k6 (by decide) ?_); conv => whnf))
 erw [cut_all hZl]
 conv => whnf
 erw [beq_len hZl]
 conv => whnf
 erw [hZ1]
 conv => whnf
 erw [len_ble Z0 hZ0l (m := 0 + Z.length) (by omega)]
 conv => whnf
 erw [len_big Z0 hZ0l (by omega)]
 conv => whnf
 erw [setAll_same (by rw [hZl, hZ0l])]
 refine atq_ret ?_
 conv => whnf
 erw [cut_all hZl]
 conv => whnf
 rw [hZ]
 exact fin_val (val_agg _) fun w2 hB => ⟨rfl, hB⟩
end Go.Proofs.YtnhdcclpjildjaaGreat
