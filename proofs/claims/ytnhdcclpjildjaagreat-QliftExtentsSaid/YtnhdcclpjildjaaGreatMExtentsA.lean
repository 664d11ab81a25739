/- The plain functions that this claim's walks show the program to compute: the middle form's operation. -/
import Derived.Test.YtnhdcclpjildjaaGreatC11
namespace Go.Proofs.YtnhdcclpjildjaaGreat

/-! The table of operations. -/
def sizeI (c : Int) : Int := if c == 17 || c == 19 then 1 else 4
/-! Words: numbers from 0 to 2^32 - 1. -/
/-! Validity, as the program checks it: one pass with a state. -/
end Go.Proofs.YtnhdcclpjildjaaGreat
namespace Go.Proofs.YtnhdcclpjildjaaGreat
open Go.RowKit

/-! Fold. -/
/-! Words stay words. -/
theorem pow32 (n : Nat) : (2 : Int) ^ n > 0 := Int.pow_pos (by decide)
theorem ite_word {p : Prop} [Decidable p] {x y : Int} (hx : word x) (hy : word y) : word (if p then x else y) := by by_cases h : p <;> simp only [h, if_true, if_false] <;> assumption
theorem word_mod (x : Int) : word (x % 4294967296) := by unfold word; omega
theorem word_bit (x : Bool) : word (bitI x) := by cases x <;> (unfold word bitI; decide)
theorem wordOp_word {c a b : Int} (ha : word a) (hb : word b) : word (wordOp c a b) := by
 have w0 : word 0 := by unfold word; omega
 have hand : word (andI a b) := by unfold word andI at *; have : a.toNat &&& b.toNat ≤ a.toNat := Nat.and_le_left; omega
 have hor : word (orI a b) := by unfold word orI at *; have : a.toNat ||| b.toNat < 2 ^ 32 := Nat.or_lt_two_pow (by omega) (by omega); omega
 have hxor : word (xorI a b) := by unfold word xorI at *; have : a.toNat ^^^ b.toNat < 2 ^ 32 := Nat.xor_lt_two_pow (by omega) (by omega); omega
 have hshr : word (a / 2 ^ (b % 32).toNat) := by
  have h1 := Int.ediv_nonneg ha.1 (Int.le_of_lt (pow32 (b % 32).toNat))
  have h2 : a / 2 ^ (b % 32).toNat ≤ a := Int.ediv_le_self _ ha.1
  unfold word at *; omega
 have hdiv : word (a / b) := by
  have h1 := Int.ediv_nonneg ha.1 hb.1
  have h2 : a / b ≤ a := Int.ediv_le_self _ ha.1
  unfold word at *; omega
 exact ite_word (word_mod _) (ite_word (word_mod _) (ite_word hand (ite_word hor (ite_word hxor (ite_word (word_mod _) (ite_word hshr (ite_word (word_mod _) (ite_word (word_mod _) (ite_word (ite_word w0 hdiv) (ite_word (word_bit _) (ite_word (word_bit _) (ite_word (word_bit _) w0))))))))))))
end Go.Proofs.YtnhdcclpjildjaaGreat
namespace Go.Proofs.YtnhdcclpjildjaaGreat
open Go.RowKit
def fld (n : String) (t : TypeId) (k b : Nat) : Field := { name := n, type := t, offset := k, embedded := false, tag := "", pkgPath := "", byteOffset := b }
end Go.Proofs.YtnhdcclpjildjaaGreat
namespace Go.Proofs.YtnhdcclpjildjaaGreat

theorem ops_cut : ∀ {l : List BOp} {k : Nat} {o : BOp}, l[k]? = some o → ((l.flatMap opC).drop (k * 5)).take 5 = opC o
 | [], k, o, h => by simp at h
 | x :: l, 0, o, h => by simp at h; subst h; simp [List.flatMap_cons, opC]
 | x :: l, k + 1, o, h => by
  rw [List.flatMap_cons, show (k + 1) * 5 = (opC x).length + k * 5 by simp [opC]; omega, ← List.drop_drop, List.drop_left]
  exact ops_cut (by simpa using h)
theorem next_formed {s s2 : Ck} {o : BOp} {x y : Bool} (h : ckNext s o x y = some s2) : formedB o = true := by
 unfold ckNext at h
 by_cases hf : (formedB o && placedB s o x y) = true
 ·simp only [Bool.and_eq_true] at hf; exact hf.1
 ·rw [if_neg hf] at h; cases h
theorem run_formed : ∀ {l : List BOp} {s s' : Ck}, ckRun s l = some s' → ∀ o ∈ l, formedB o = true
 | [], _, _, _, o, ho => by cases ho
 | p :: l, s, s', h, o, ho => by
  unfold ckRun at h
  split at h
  ·rename_i s2 h2
   rcases List.mem_cons.1 ho with rfl | ho
   ·exact next_formed h2
   ·exact run_formed h o ho
  ·cases h
theorem valid_formed {b : Blk} (h : validB b = true) : ∀ o ∈ b.ops, formedB o = true := by
 unfold validB at h
 simp only [Bool.and_eq_true] at h
 have h2 := h.2
 split at h2
 ·rename_i s hs; exact run_formed hs
 ·cases h2
end Go.Proofs.YtnhdcclpjildjaaGreat
namespace Go.Proofs.YtnhdcclpjildjaaGreat
open Go.RowKit

theorem sgnW_low (n : Int) {bits : Nat} (_h : bits = 0 ∨ bits = 18 ∨ bits = 22) (_h0 : 0 < bits) : sgnW (n % 2 ^ bits) bits = sgnW n bits := by
 unfold sgnW
 rw [Int.emod_emod_of_dvd n (Int.dvd_refl _)]
theorem decQ_word {i : QI} (hv : validQ i = true) (him : word i.imm) : decQ (wordQ i) = some i ∧ word (wordQ i) := by
 obtain ⟨h1, h2, h3, h4, h5⟩ := validQ_parts hv
 obtain ⟨q1, q2, q2', q4, q5, q6, q7, q8⟩ := qForm_cases i.op
 have r2 := regB_range h2
 have r3 := regB_range h3
 have r4 := regB_range h4
 have r1 := q5 h1
 have lo := low_range i.imm q1
 have hw0 : wordQ i = i.op * 67108864 + i.d * 4194304 + i.a * 262144 + i.b * 16384 + i.imm % 2 ^ (qForm i.op).bits := rfl
 have key : wordQ i / 67108864 = i.op ∧ word (wordQ i) ∧ ((qForm i.op).d = true → wordQ i / 4194304 % 16 = i.d) ∧ ((qForm i.op).a = true → wordQ i / 262144 % 16 = i.a) ∧ ((qForm i.op).b = true → wordQ i / 16384 % 16 = i.b) ∧ wordQ i % 2 ^ (qForm i.op).bits = i.imm % 2 ^ (qForm i.op).bits := by
  rw [hw0]
  unfold word
  rcases q1 with q | q | q
  ·rw [q] at lo ⊢
   have e : (2 : Int) ^ 0 = 1 := rfl
   rw [e] at lo ⊢
   refine ⟨by omega, by omega, fun _ => by omega, fun _ => by omega, fun _ => by omega, by omega⟩
  ·have hb := r4.2.2 (by cases hb : (qForm i.op).b with | false => rfl | true => rw [q6 hb] at q; cases q)
   rw [q] at lo ⊢
   have e : (2 : Int) ^ 18 = 262144 := rfl
   rw [e] at lo ⊢
   refine ⟨by omega, by omega, fun _ => by omega, fun _ => by omega, fun h => ?_, by omega⟩
   have := q6 h; omega
  ·have hb := r4.2.2 (by cases hb : (qForm i.op).b with | false => rfl | true => rw [q6 hb] at q; cases q)
   have ha := r3.2.2 (q7 q)
   have ha2 := q7 q
   rw [q] at lo ⊢
   have e : (2 : Int) ^ 22 = 4194304 := rfl
   rw [e] at lo ⊢
   refine ⟨by omega, by omega, fun _ => by omega, fun h => ?_, fun h => ?_, by omega⟩
   ·rw [ha2] at h; cases h
   ·have := q6 h; omega
 obtain ⟨k1, k2, k3, k4, k5, k6⟩ := key
 have hf : fieldsQ (wordQ i) = i := by
  unfold fieldsQ
  rw [k1, k6]
  have e1 : (if (qForm i.op).d then wordQ i / 4194304 % 16 else 0) = i.d := by
   cases hd : (qForm i.op).d with
   | true => exact k3 hd
   | false => exact (r2.2.2 hd).symm
  have e2 : (if (qForm i.op).a then wordQ i / 262144 % 16 else 0) = i.a := by
   cases hd : (qForm i.op).a with
   | true => exact k4 hd
   | false => exact (r3.2.2 hd).symm
  have e3 : (if (qForm i.op).b then wordQ i / 16384 % 16 else 0) = i.b := by
   cases hd : (qForm i.op).b with
   | true => exact k5 hd
   | false => exact (r4.2.2 hd).symm
  have e4 : (if (qForm i.op).signed then sgnW (i.imm % 2 ^ (qForm i.op).bits) (qForm i.op).bits else i.imm % 2 ^ (qForm i.op).bits) = i.imm := by
   unfold immB at h5
   cases hs : (qForm i.op).signed with
   | true =>
    have hpos := (q4 hs).1
    rw [hs, if_neg (by omega)] at h5
    rw [if_pos rfl, sgnW_low _ q1 hpos]
    simpa using h5
   | false =>
    rw [hs] at h5
    rw [if_neg (by decide)]
    unfold word at him
    rcases q1 with q | q | q
    ·rw [q] at h5 ⊢
     have h0 : i.imm = 0 := by simpa using h5
     rw [h0]; rfl
    ·rw [q, if_neg (by decide), if_neg (by decide)] at h5
     rw [q]
     have e : (2 : Int) ^ 18 = 262144 := rfl
     rw [e] at h5 ⊢
     split at h5
     ·have := of_decide_eq_true h5; omega
     ·have := of_decide_eq_true h5; omega
    ·rw [q, if_neg (by decide), if_neg (by decide)] at h5
     rw [q]
     have e : (2 : Int) ^ 22 = 4194304 := rfl
     rw [e] at h5 ⊢
     split at h5
     ·have := of_decide_eq_true h5; omega
     ·have := of_decide_eq_true h5; omega
  rw [e1, e2, e3, e4]
 refine ⟨?_, k2⟩
 unfold decQ
 rw [hf]
 unfold encQ
 rw [if_pos hv, if_pos rfl]
end Go.Proofs.YtnhdcclpjildjaaGreat
namespace Go.Proofs.YtnhdcclpjildjaaGreat
open Go.RowKit

section
variable {P : Program} {w0 : World} {G : Gs} {N : Nd} {f f' : Fr} {S S' : List Ow}
theorem ent_trans {f2 : Fr} {S2 : List Ow} (h : Ent w0 G N f S f' S') (k : Ent w0 G N f' S' f2 S2) : Ent w0 G N f S f2 S2 := ⟨fun a w hg => k.out a w (h.out a w hg)⟩
theorem ent_row (d : Nat) (e : TypeId) (size : Nat) (h : f.get d = one (.slice none 0 0)) : Ent w0 G N f S ((d, .p (.c (.row S.length))) :: f) (S ++ [.row e size 0 []]) := ⟨fun a w ⟨r, hR, hf, hN, hd⟩ => by
 have hle := hR.le_new none (some (.slice none 0 0))
 have hdd := hf d
 rw [h] at hdd
 have hv := den_v hdd
 refine ⟨r.set S.length none (some (.slice none 0 0)), hR.snoc (Below.refl _ _) nofun ⟨.slice none 0 0, by simp [Env.set], by simp [Env.set, Value.ownBlock], by simp, .inl ⟨rfl, rfl⟩⟩, fun k => ?_, hN, hd⟩
 simp only [Fr.get]
 split
 ·rename_i hk
  have := Nat.eq_of_beq_eq_true hk; subst this
  simp only [AV.den, Pc.den, CV.den]; rw [hv]; simp [Env.set]
 ·exact (hf.mono hle) k⟩
end

/-! Functions. -/
section
variable {P : Program} {w0 : World} {G : Gs} {fid : FuncId} {args : List AV} {S : List Ow} {K : AV → List Ow → Prop} {xs : List Value} {x : Value}
end
end Go.Proofs.YtnhdcclpjildjaaGreat
namespace Go.Proofs.YtnhdcclpjildjaaGreat
open Go.RowKit

section
variable {P : Program} {ops : Array Oper} {md : Region.Mode} {C : World → Prop}
end
/-! The same over states that are known part by part. -/
section
variable {P : Program} {w0 : World} {G : Gs} {N : Nd} {ops : Array Oper} {S : List Ow} {r : Env} {w1 : World}
end
section
variable {P : Program} {w0 : World} {G : Gs} {fid : FuncId} {args : List AV} {S : List Ow} {K : AV → Prop} {xs : List Value} {x : Value}
theorem q_same (hx : avals args = some xs) (hok : fnOk P fid = true) (h : ∀ r w, Rel w0 G S r w → Calls P fid xs.toArray w fun e w' => e = .returned x ∧ w = w') (hK : K (AV.of x)) : QCall P w0 G S fid args K :=
 q_con hx hok (fun r w hR => (h r w hR).mono fun e w' ⟨h1, h2⟩ => ⟨h1, by subst h2; exact Below.refl _ _⟩) hK
end
end Go.Proofs.YtnhdcclpjildjaaGreat
namespace Go.Proofs.YtnhdcclpjildjaaGreat
open Go.RowKit

def Fresh (B : Nat) (A : Option Addr) : Prop := ∀ b off sp, A = some ⟨b, off, sp⟩ → B ≤ b
section
variable {R : Value → Option (DataW Unit × List MemPlace)} {cd : Int → DataW Unit} {n : Nat} {m m' : Int → Option Int}
variable {w0 : World} {G : Gs} {fid : FuncId} {S : List Ow} {K : AV → List Ow → Prop} {x : Value}
end
theorem call_row {P : Program} {w0 : World} {G : Gs} {fid : FuncId} {args : List AV} {S : List Ow} {K : AV → List Ow → Prop} {xs : List Value} {e : TypeId} {size n : Nat} {ys : List Value} (hx : avals args = some xs) (hok : fnOk P fid = true)
  (h : ∀ r w, Rel w0 G S r w → Calls P fid xs.toArray w fun en w' => ∃ v, en = .returned v ∧ w'.ownsRow w.heap.size e size v n ys ∧ Below w.heap.size w w') (hK : K (.p (.c (.row S.length))) (S ++ [.row e size n ys])) : CallS P w0 G fid args S K := by
 refine ⟨hok, fun r w us hR hd => ?_⟩
 rw [avals_den hx hd]
 refine (h r w hR).mono fun en w' ⟨v, he, hown, hb⟩ => ⟨.p (.c (.row S.length)), v, _, r.set S.length v.ownBlock (some v), he, by simp [AV.den, Pc.den, CV.den, Env.set], ?_, hR.le_new _ _, hK⟩
 refine hR.snoc hb (fun x hx => ?_) ⟨v, by simp [Env.set], by simp [Env.set], own_base hown (Nat.zero_le _)⟩
 rcases hown.2 with ⟨h1, _⟩ | ⟨g, cap, cur, h1, hg, hh, _⟩
 ·rw [h1] at hx; cases hx
 ·rw [h1] at hx; simp [Value.ownBlock] at hx; subst hx
  refine ⟨hg, ?_⟩
  rcases Nat.lt_or_ge g w'.heap.size with h2 | h2
  ·exact h2
  ·rw [Array.getElem?_eq_none h2] at hh; cases hh
end Go.Proofs.YtnhdcclpjildjaaGreat
namespace Go.Proofs.YtnhdcclpjildjaaGreat
open Go.RowKit

theorem u32_xor {a b : Int} (ha : word a) (hb : word b) : bits .xor .u32 a b = xorI a b := by
 unfold word at ha hb
 obtain ⟨n, rfl⟩ := Int.eq_ofNat_of_zero_le ha.1
 obtain ⟨m, rfl⟩ := Int.eq_ofNat_of_zero_le hb.1
 have hx : n ^^^ m < 2 ^ 32 := Nat.xor_lt_two_pow (by omega) (by omega)
 show IntKind.u32.wrap ((BitVec.ofInt 32 (n : Int) ^^^ BitVec.ofInt 32 (m : Int)).toNat : Int) = _
 rw [BitVec.toNat_xor, ofInt_u32 n (by omega), ofInt_u32 m (by omega), IntKind.wrap_u32]
 simp only [xorI, Int.toNat_natCast]
 omega
set_option maxHeartbeats 400000 in
theorem bit_ref (x : Bool) (w : World) :
  Calls Tryz.prog 83 #[.bool x] w fun e w' => e = .returned (.int .u32 (bitI x)) ∧ w = w' := by
 cases x
 all_goals
  go_enter Tryz.func83, Tryz.ntmps83
  go_wp2
  go_ret
  exact ⟨rfl, rfl⟩
set_option maxHeartbeats 400000 in
theorem signed_ref (a : Int) (w : World) (ha : word a) :
  Calls Tryz.prog 82 #[.int .u32 a] w fun e w' => e = .returned (.int .i64 (signedI a)) ∧ w = w' := by
 obtain ⟨h0, h1⟩ := ha
 by_cases hs : 2147483648 ≤ a
 all_goals
  go_enter Tryz.func82, Tryz.ntmps82
  go_wp2
  go_ret
  exact ⟨ret_int (by unfold signedI; split <;> omega), rfl⟩
end Go.Proofs.YtnhdcclpjildjaaGreat
namespace Go.Proofs.YtnhdcclpjildjaaGreat
open Go.RowKit

theorem sl_later {w w' : World} {A : Option Addr} {xs : List Value} (h : SlAt w w.heap.size A xs) (hB : Below w.heap.size w w') : SlAt w' w'.heap.size A xs := (h.below hB (Nat.le_refl _)).more hB.size
end Go.Proofs.YtnhdcclpjildjaaGreat
namespace Go.Proofs.YtnhdcclpjildjaaGreat
open Go.RowKit

theorem ck_step {s s1 : Ck} {o : BOp} {x y : Bool} (h : ckNext s o x y = some s1) : formedB o = true ∧ placedB s o x y = true ∧ (o.code = 20 → o.n = (s.marks : Int) ∧ s1 = ⟨s.marks + 1, 0, false⟩) ∧
  (o.code ≠ 20 → (∀ v ∈ reads o, readB s v = true) ∧ s1 = ⟨s.marks, if 20 ≤ writes o then s.written ||| 2 ^ (writes o).toNat else s.written, s.changed || (stores o.code || decide (0 ≤ writes o ∧ writes o < 20))⟩) := by
 unfold ckNext at h
 by_cases hf : (formedB o && placedB s o x y) = true
 ·rw [if_pos hf] at h
  simp only [Bool.and_eq_true] at hf
  refine ⟨hf.1, hf.2, fun hc => ?_, fun hc => ?_⟩
  ·rw [if_pos (by simp [hc])] at h
   by_cases hn : (o.n == (s.marks : Int)) = true
   ·rw [if_pos hn] at h; injection h with h; exact ⟨by simpa using hn, h.symm⟩
   ·rw [if_neg hn] at h; cases h
  ·rw [if_neg (by simpa using hc)] at h
   by_cases hr : (reads o).all (readB s) = true
   ·rw [if_pos hr] at h; injection h with h; exact ⟨fun v hv => List.all_eq_true.1 hr v hv, h.symm⟩
   ·rw [if_neg hr] at h; cases h
 ·rw [if_neg hf] at h; cases h
theorem ck_uncons {s s2 : Ck} {o : BOp} {l : List BOp} (h : ckRun s (o :: l) = some s2) : ∃ s1, ckNext s o l.isEmpty (exitNext l) = some s1 ∧ ckRun s1 l = some s2 := by
 change (match ckNext s o l.isEmpty (exitNext l) with | some s' => ckRun s' l | none => none) = _ at h
 cases h1 : ckNext s o l.isEmpty (exitNext l) with
 | none => rw [h1] at h; cases h
 | some s1 => rw [h1] at h; exact ⟨s1, rfl, h⟩
/-! Fold. -/
theorem valid_parts {b : Blk} : validB b = true ↔ headerB b = true ∧ ∃ s, ckRun ⟨0, 0, false⟩ b.ops = some s ∧ s.marks = b.at_.length := by
 unfold validB
 rw [Bool.and_eq_true]
 constructor
 ·rintro ⟨h1, h2⟩
  split at h2
  ·rename_i s hs; exact ⟨h1, s, hs, by simpa using h2⟩
  ·cases h2
 ·rintro ⟨h1, s, h2, h3⟩
  rw [h2]
  exact ⟨h1, by simp [h3]⟩
end Go.Proofs.YtnhdcclpjildjaaGreat
namespace Go.Proofs.YtnhdcclpjildjaaGreat
open Go.RowKit

/-! Frames that name only some own entries, by their blocks. -/
section
variable {ok : Nat → Bool} {r r' : Env}
end
/-! Own entries of cells. -/
section
variable {w0 : World} {G : Gs} {S : List Ow} {r : Env} {W : World}
theorem rel_base (h : Rel w0 G S r W) {gs ext : List Nat} (hgs : ∀ (i g : Nat), gs[i]? = some g → r.blk i = some g) (hext : ∀ i b, r.blk i = some b → b ∈ gs ∨ b ∈ ext) : Rel W ⟨gs, ext⟩ S r W :=
 ⟨rfl, rfl, rfl, Nat.le_refl _, fun _ _ _ => rfl, h.own, h.inj, fun i b hb => ⟨(h.new i b hb).1, fun _ => hext i b hb⟩, h.outB, h.outV, hgs⟩
theorem rel_back (h : Rel w0 G S r W) {gs ext : List Nat} {S' : List Ow} {r' : Env} {W' : World} (h2 : Rel W ⟨gs, ext⟩ S' r' W') (hx : ∀ b, b ∈ gs ∨ b ∈ ext → ∃ i, r.blk i = some b) (hf : ∀ (i g : Nat), G.fix[i]? = some g → gs[i]? = some g) : Rel w0 G S' r' W' := by
 refine ⟨h2.os.trans h.os, h2.tape.trans h.tape, h2.output.trans h.output, Nat.le_trans h.size h2.size, fun k hk hG => (h2.old k (Nat.lt_of_lt_of_le hk h.size) fun hm => ?_).trans (h.old k hk hG), h2.own, h2.inj, fun i b hb => ⟨(h2.new i b hb).1, fun hlt => ?_⟩, h2.outB, h2.outV, fun i g hg => h2.first i g (hf i g hg)⟩
 ·obtain ⟨i, hi⟩ := hx k hm
  exact hG ((h.new i k hi).2 hk)
 ·obtain ⟨j, hj⟩ := hx b ((h2.new i b hb).2 (Nat.lt_of_lt_of_le hlt h.size))
  exact (h.new j b hj).2 hlt
end
end Go.Proofs.YtnhdcclpjildjaaGreat
namespace Go.Proofs.YtnhdcclpjildjaaGreat
open Go.RowKit

section
variable {P : Program} {w0 : World} {G : Gs} {N : Nd} {c d : Code} {f : Fr} {S : List Ow} {Q : Exit → Act → World → Prop}
end
def cellsS (S : List Ow) : Bool := S.all fun o => match o with | .cells _ _ => true | _ => false
end Go.Proofs.YtnhdcclpjildjaaGreat
namespace Go.Proofs.YtnhdcclpjildjaaGreat
open Go.RowKit

section
variable {r : Env} {σ : Nat → Nat} {n : Nat}
end
def isViewB (S : List Ow) (k : Nat) : Bool := match S[k]? with | some (.view ..) => true | _ => false
def memB (k : Nat) : List Nat → Bool
 | [] => false
 | j :: l => match Nat.beq k j with | true => true | false => memB k l
theorem memB_of {k : Nat} : ∀ {l : List Nat}, k ∈ l → memB k l = true
 | j :: l, h => by
  simp only [memB]
  split
  ·rfl
  ·rename_i hb
   rcases List.mem_cons.1 h with rfl | h
   ·rw [Nat.beq_refl] at hb; cases hb
   ·exact memB_of h
def injB (S : List Ow) : List Nat → Bool
 | [] => true
 | k :: l => match isViewB S k, memB k l with | false, true => false | _, _ => injB S l
theorem injB_spec {S : List Ow} : ∀ {l : List Nat} {i j k : Nat}, injB S l = true → i < j → l[i]? = some k → l[j]? = some k → isViewB S k = true
 | [], i, j, k, _, _, h, _ => by simp at h
 | a :: l, i, j, k, hb, hij, hi, hj => by
  obtain ⟨j, rfl⟩ : ∃ j', j = j' + 1 := ⟨j - 1, by omega⟩
  simp only [List.getElem?_cons_succ] at hj
  simp only [injB] at hb
  cases i with
  | zero =>
   simp at hi; subst hi
   cases hv : isViewB S a
   ·rw [hv, memB_of (List.mem_of_getElem? hj)] at hb; cases hb
   ·rfl
  | succ i =>
   have hb2 : injB S l = true := by split at hb; cases hb; exact hb
   exact injB_spec hb2 (by omega : i < j) (by simpa using hi) hj
def idB (n : Nat) : List Nat → Nat → Bool
 | [], _ => true
 | k :: l, i => match Nat.blt i n, Nat.beq k i with | true, false => false | _, _ => idB n l (i + 1)
theorem idB_spec {n : Nat} : ∀ {l : List Nat} {s i k : Nat}, idB n l s = true → l[i]? = some k → s + i < n → k = s + i
 | [], s, i, k, _, h, _ => by simp at h
 | a :: l, s, i, k, hb, hi, hn => by
  simp only [idB] at hb
  cases i with
  | zero =>
   simp at hi; subst hi
   have h1 : Nat.blt s n = true := by rw [Nat.blt_eq]; omega
   rw [h1] at hb
   cases h2 : Nat.beq a s
   ·rw [h2] at hb; cases hb
   ·exact Nat.eq_of_beq_eq_true h2
  | succ i =>
   have hb2 : idB n l (s + 1) = true := by split at hb; cases hb; exact hb
   have := idB_spec (i := i) hb2 (by simpa using hi) (by omega)
   omega
theorem rel_ren {w0 : World} {G : Gs} {S S' : List Ow} {r : Env} {w : World} (hR : Rel w0 G S r w) (σl : List Nat) (hS : RLe S (fun i => σl.getD i 0) S' σl) (hb : sbnd S'.length S' = true) (hi : injB S σl = true) (hG : idB G.fix.length σl 0 = true) (hGl : Nat.ble G.fix.length S'.length = true) :
  Rel w0 G S' (r.comp (fun i => σl.getD i 0) S'.length) w := by
 have hl := hS.length
 have at_ : ∀ i, i < S'.length → ∃ k o o', σl[i]? = some k ∧ σl.getD i 0 = k ∧ S'[i]? = some o' ∧ S[k]? = some o ∧ OLe o (o'.ren fun i => σl.getD i 0) := fun i hil => by
  obtain ⟨k, o, h1, h2, h3⟩ := hS.get (List.getElem?_eq_getElem hil)
  exact ⟨k, o, _, h1, by rw [List.getD_eq_getElem?_getD, h1]; rfl, List.getElem?_eq_getElem hil, h2, h3⟩
 have lt_of : ∀ {i b}, (r.comp (fun i => σl.getD i 0) S'.length).blk i = some b → i < S'.length := fun {i b} h => by
  simp only [Env.comp] at h; split at h
  ·assumption
  ·cases h
 refine ⟨hR.os, hR.tape, hR.output, hR.size, hR.old, fun i o' ho' => ?_, fun i j b h1 h2 => ?_, fun i b h => ?_, fun i h => if_neg (by omega), fun i h => if_neg (by omega), fun i g hg => ?_⟩
 ·have hil : i < S'.length := by
   rcases Nat.lt_or_ge i S'.length with h1 | h1
   ·exact h1
   ·rw [List.getElem?_eq_none h1] at ho'; cases ho'
  obtain ⟨k, o, o2, h1, h2, h3, h4, h5⟩ := at_ i hil
  rw [ho'] at h3; injection h3 with h3; subst h3
  have hh := h5.holds (hR.own k o h4)
  have hbo := sbnd_get hb ho'
  have hbl : (r.comp (fun i => σl.getD i 0) S'.length).blk i = r.blk k := (comp_blk hil).trans (by rw [h2])
  have hvl : (r.comp (fun i => σl.getD i 0) S'.length).val i = r.val k := (comp_val hil).trans (by rw [h2])
  cases o' with
  | cells t l => obtain ⟨b, us, j1, j2, j3⟩ := hh; exact ⟨b, us, hbl.trans j1, j2, denL_ren l us hbo j3⟩
  | row e size m xs => obtain ⟨v, j1, j2, j3⟩ := hh; exact ⟨v, hvl.trans j1, j2.trans hbl.symm, j3⟩
  | ext φ => obtain ⟨b, j1, j2⟩ := hh; exact ⟨b, hbl.trans j1, j2⟩
  | view φ m xs =>
   obtain ⟨A, c, j1, j2, j3, j4, j5⟩ := hh
   refine ⟨A, c, hvl.trans j1, j2, j3, hbl.trans j4, fun j u hj => ?_⟩
   obtain ⟨b, off, j6, j7, j8, j9⟩ := j5 j u hj
   refine ⟨b, off, j6, j7, fun q hq => ?_, j9⟩
   rw [comp_blk (lt_of hq)] at hq
   exact j8 _ hq
  | gone => trivial
 ·have l1 := lt_of h1
  have l2 := lt_of h2
  rw [comp_blk l1] at h1
  rw [comp_blk l2] at h2
  obtain ⟨k, o, o2, a1, a2, a3, a4, a5⟩ := at_ i l1
  obtain ⟨k', o', o2', b1, b2, b3, b4, b5⟩ := at_ j l2
  have hk := hR.inj _ _ b h1 h2
  rw [a2, b2] at hk
  subst hk
  have hnv : isViewB S k = false := by
   cases hv : isViewB S k
   ·rfl
   ·exfalso
    unfold isViewB at hv
    rw [a4] at hv
    cases o <;> simp at hv
    obtain ⟨A, c, _, _, _, j4, _⟩ := hR.own k _ a4
    rw [a2, j4] at h1; cases h1
  rcases Nat.lt_trichotomy i j with h | h | h
  ·rw [injB_spec hi h a1 b1] at hnv; cases hnv
  ·exact h
  ·rw [injB_spec hi h b1 a1] at hnv; cases hnv
 ·have l1 := lt_of h
  rw [comp_blk l1] at h
  exact hR.new _ b h
 ·have hgl : i < G.fix.length := by
   rcases Nat.lt_or_ge i G.fix.length with h1 | h1
   ·exact h1
   ·rw [List.getElem?_eq_none h1] at hg; cases hg
  have hil : i < S'.length := Nat.lt_of_lt_of_le hgl (Nat.le_of_ble_eq_true hGl)
  obtain ⟨k, o, o2, a1, a2, _⟩ := at_ i hil
  rw [comp_blk hil, a2]
  have := idB_spec hG a1 (by omega)
  rw [this, Nat.zero_add]
  exact hR.first i g hg
theorem ent_ren {w0 : World} {G : Gs} {N : Nd} {f f' : Fr} {S S' : List Ow} (σl : List Nat) (hf : FRen f (fun i => σl.getD i 0) f') (hS : RLe S (fun i => σl.getD i 0) S' σl) (hfb : f'.bnd S'.length = true) (hb : sbnd S'.length S' = true) (hi : injB S σl = true) (hG : idB G.fix.length σl 0 = true) (hGl : Nat.ble G.fix.length S'.length = true) : Ent w0 G N f S f' S' :=
 ⟨fun _a _w ⟨_r, hR, hd, hN, hdf⟩ => ⟨_, rel_ren hR σl hS hb hi hG hGl, hf.den hfb hd, hN, hdf⟩⟩
end Go.Proofs.YtnhdcclpjildjaaGreat
namespace Go.Proofs.YtnhdcclpjildjaaGreat
open Go.RowKit

theorem formed_split {o : BOp} : formedB o = true ↔ isOp o.code = true ∧ fieldB (hasD o.code) o.d = true ∧ fieldB (hasA o.code) o.a = true ∧ fieldB (hasB o.code) o.b = true ∧ (hasN o.code || o.n == 0) = true := by
 unfold formedB
 simp only [Bool.and_eq_true]
 constructor
 ·rintro ⟨⟨⟨⟨h1, h2⟩, h3⟩, h4⟩, h5⟩; exact ⟨h1, h2, h3, h4, h5⟩
 ·rintro ⟨h1, h2, h3, h4, h5⟩; exact ⟨⟨⟨⟨h1, h2⟩, h3⟩, h4⟩, h5⟩
/-! Dead. -/
/-! The result of Opt. -/
end Go.Proofs.YtnhdcclpjildjaaGreat
namespace Go.Proofs.YtnhdcclpjildjaaGreat
open Go.RowKit
section
variable {P : Program} {w0 : World} {G : Gs} {N : Nd} {c d : Code} {f : Fr} {S : List Ow} {Q : Exit → Act → World → Prop}
theorem atq_as {e : Exit} {f' : Fr} {S' : List Ow} (h : Ent w0 G N f S f' S') (k : AtQ w0 G N e f' S' Q) : AtQ w0 G N e f S Q := ⟨fun a w hg => k.out a w (h.out a w hg)⟩
end
end Go.Proofs.YtnhdcclpjildjaaGreat
namespace Go.Proofs.YtnhdcclpjildjaaGreat
open Go.RowKit
def guardedU (P : Program) (W : World) (G : Gs) (N : Nd) (ops : Array Oper) : List Oper → Fr → List Ow → (Fr → List Ow → Prop) → Prop
 | [], f, S, K => K f S
 | o :: l, f, S, K => match o.guard with
  | none => opK P W G N o f S fun f' S' => guardedU P W G N ops l f' S' K
  | some _ => (match guardU ops f o with
  | some x => (x = true → opK P W G N o f S fun f' S' => guardedU P W G N ops l f' S' K) ∧ (x = false → (match dstOk N.n o.dst with
   | true => f.putK o.dst (one undef) fun f' => guardedU P W G N ops l f' S K
   | false => False))
  | none => False)
section
variable {P : Program} {w0 : World} {G : Gs} {N : Nd} {c d : Code} {f : Fr} {S : List Ow} {Q : Exit → Act → World → Prop}
theorem guardedU_sound {ops : Array Oper} {Q : Act → World → Prop} : ∀ (l : List Oper) (f : Fr) (S : List Ow) (K : Fr → List Ow → Prop), guardedU P w0 G N ops l f S K → (∀ f' S' a' w', K f' S' → Good w0 G N f' S' a' w' → Q a' w') →
  ∀ a w, Good w0 G N f S a w → seL P ops Q l a w
 | [], f, S, K, h, hK, a, w, hg => hK _ _ _ _ h hg
 | o :: l, f, S, K, h, hK, a, w, hg => by
  obtain ⟨r, hR, hf, hN, hd⟩ := hg
  unfold guardedU at h
  split at h
  ·rename_i hg
   unfold seL
   rw [if_pos (wanted_none hg _)]
   exact (opK_sound h).out r a w hR hf hN hd _ (fun _ _ _ => True) fun f' S' a' w' hk hg' => guardedU_sound l f' S' K hk hK a' w' hg'
  rename_i _ _ _
  split at h
  ·rename_i x hgd
   have hw := guardU_wanted hf hgd
   cases x with
   | true =>
    unfold seL
    rw [if_pos hw]
    exact (opK_sound (h.1 rfl)).out r a w hR hf hN hd _ (fun _ _ _ => True) fun f' S' a' w' hk hg' => guardedU_sound l f' S' K hk hK a' w' hg'
   | false =>
    have h := h.2 rfl
    split at h
    ·rename_i hdst
     have hk := putK_iff.1 h
     unfold seL
     rw [if_neg (by rw [hw]; decide)]
     exact guardedU_sound l _ S K hk hK _ w ⟨r, hR, hf.put (den_one _ _) (by rw [hN]; exact hdst), (put_size a _ _).trans hN, (put_defers a _ _).trans hd⟩
    ·exact h.elim
  ·exact h.elim
theorem satq_regionU {id : Nat} {ops : Array Oper} (h : guardedU P w0 G N ops ops.toList f S fun f' S' => AtQ w0 G N .normal f' S' Q) : SatQ P w0 G N (.region id ops false) f S Q :=
 ⟨fun a w hg => wpIn_region_list (seL_wpIn none 10 (guardedU_sound _ f S _ h (fun _f' _S' a' w' hk hg' => hk.out a' w' hg') a w hg))⟩
end
end Go.Proofs.YtnhdcclpjildjaaGreat
namespace Go.Proofs.YtnhdcclpjildjaaGreat
open Go.RowKit

theorem CV.sh_den {r r' : Env} {n k : Nat} (h : ∀ i b, i < n → r'.blk i = some b → r.blk (k + i) = some b) : ∀ {c : CV} {u : Value}, c.ob n = true → c.den r' u → (c.sh k).den r u
 | .v x, u, _, hd => by simpa only [CV.den, CV.sh] using hd
 | .ref i off, u, hb, hd => by
  simp only [CV.den, CV.sh] at hd ⊢; obtain ⟨x, hx, hu⟩ := hd
  exact ⟨x, h i x (by simpa [CV.ob, Nat.blt_eq] using hb) hx, hu⟩
 | .sl i off m c, u, hb, hd => by
  simp only [CV.den, CV.sh] at hd ⊢; obtain ⟨x, hx, hu⟩ := hd
  exact ⟨x, h i x (by simpa [CV.ob, Nat.blt_eq] using hb) hx, hu⟩
 | .any, u, hb, _ => by cases hb
 | .vref .., _, hb, _ => by cases hb
 | .row .., _, hb, _ => by cases hb
 | .mp .., _, hb, _ => by cases hb
 | .clo .., _, hb, _ => by cases hb
theorem sh_denL {r r' : Env} {n k : Nat} (h : ∀ i b, i < n → r'.blk i = some b → r.blk (k + i) = some b) : ∀ {l : List CV} {us : List Value}, (∀ c ∈ l, c.ob n = true) → denL r' l us → denL r (l.map (CV.sh k)) us
 | [], us, _, hd => by simpa only [denL, List.map_nil] using hd
 | c :: cs, us, hb, hd => by
  simp only [List.map_cons, denL] at hd ⊢; obtain ⟨u, l, hu, hc, hl⟩ := hd
  exact ⟨u, l, hu, CV.sh_den h (hb c (by simp)) hc, sh_denL h (fun x hx => hb x (by simp [hx])) hl⟩
theorem ShAll.get' {k : Nat} : ∀ {U V : List Ow} (i : Nat), ShAll k U V → ∀ {o}, V[i]? = some o → ∃ o', U[i]? = some o' ∧ o'.Sh k o
 | [], [], i, _, o, h => by simp at h
 | a :: U, b :: V, 0, hs, o, h => by simp at h; subst h; exact ⟨a, rfl, hs.1⟩
 | a :: U, b :: V, i + 1, hs, o, h => by simpa using ShAll.get' i hs.2 (by simpa using h)
 | [], _ :: _, _, h, _, _ => h.elim
 | _ :: _, [], _, h, _, _ => h.elim
section
variable {P : Program} {w0 : World} {G : Gs} {N : Nat} {c : Code} {fn : Func} {R : Ending → World → Prop}
end
def putS (S : List Ow) (k : Nat) : List Ow → List Ow
 | [] => S
 | o :: V => putS (S.set k o) (k + 1) V
theorem putS_length : ∀ (V : List Ow) (S : List Ow) (k : Nat), (putS S k V).length = S.length
 | [], S, k => rfl
 | o :: V, S, k => by simp [putS, putS_length V]
theorem putS_get : ∀ (V : List Ow) (S : List Ow) (k j : Nat), k + V.length ≤ S.length → (putS S k V)[j]? = if k ≤ j ∧ j < k + V.length then V[j - k]? else S[j]?
 | [], S, k, j, h => by rw [if_neg (by simp)]; rfl
 | o :: V, S, k, j, h => by
  simp only [List.length_cons] at h
  show (putS (S.set k o) (k + 1) V)[j]? = _
  rw [putS_get V _ (k + 1) j (by simp; omega)]
  by_cases h1 : k + 1 ≤ j ∧ j < k + 1 + V.length
  ·rw [if_pos h1, if_pos (by simp only [List.length_cons]; omega), show j - k = (j - (k + 1)) + 1 by omega, List.getElem?_cons_succ]
  ·rw [if_neg h1]
   by_cases h2 : j = k
   ·subst h2
    rw [List.getElem?_set_self (by omega), if_pos (by simp only [List.length_cons]; omega), Nat.sub_self]; rfl
   ·rw [List.getElem?_set_ne (fun e => h2 e.symm), if_neg (by simp only [List.length_cons]; omega)]
theorem call_objs {P : Program} {w0 : World} {G : Gs} {fid : FuncId} {S : List Ow} {K : AV → List Ow → Prop} {pre suf : List AV} {xs ys : List Value} {α : Type} (k : Nat) (U V : List Ow) (U' V' : α → List Ow) (X : α → Value) (post : α → Prop) (hpos : 0 < U.length) (hsh : ShAll k U V) (hob : ObAll U.length U) (hS : ∀ i, i < U.length → S[k + i]? = V[i]?)
  (hx : avals pre = some xs) (hy : avals suf = some ys) (hok : fnOk P fid = true) (hsh' : ∀ x, post x → ShAll k (U' x) (V' x)) (hob' : ∀ x, post x → ObAll U.length (U' x)) (hlen' : ∀ x, post x → (U' x).length = U.length)
  (h : ∀ w g gs, OldKeeps w0 G w (g :: gs) → ObjsAt w (g :: gs) U → Calls P fid (xs ++ .pointer (some ⟨g, 0, none⟩) :: ys).toArray w fun e w' => ∃ x, post x ∧ e = .returned (X x) ∧ ObjsAt w' (g :: gs) (U' x) ∧ GrownBys w w' (g :: gs))
  (hK : ∀ x, post x → K (AV.of (X x)) (putS S k (V' x))) : CallS P w0 G fid (pre ++ .p (.c (.ref k 0)) :: suf) S K := by
 refine ⟨hok, fun r w vs hR hd => ?_⟩
 have hSlen : k + U.length ≤ S.length := by
  have h1 := hS (U.length - 1) (by omega)
  obtain ⟨o', h2, _⟩ := hsh.get (U.length - 1) (List.getElem?_eq_getElem (by omega) : U[U.length - 1]? = some U[U.length - 1])
  rw [h2] at h1
  rcases Nat.lt_or_ge (k + (U.length - 1)) S.length with h3 | h3
  ·omega
  ·rw [List.getElem?_eq_none h3] at h1; cases h1
 have hblk : ∀ i, i < U.length → ∃ b, r.blk (k + i) = some b := fun i hi => by
  obtain ⟨o', h2, h3⟩ := hsh.get i (List.getElem?_eq_getElem hi)
  have h4 := hR.own (k + i) o' (by rw [hS i hi, h2])
  have h5 := hob _ (List.getElem_mem hi)
  cases hu : U[i] with
  | cells t l =>
   rw [hu] at h3
   cases o' with
   | cells t' l' => obtain ⟨b, us, e1, _⟩ := h4; exact ⟨b, e1⟩
   | row => exact h3.elim
   | ext => exact h3.elim
   | view => exact h3.elim
   | gone => exact h3.elim
  | row => rw [hu] at h5; exact h5.elim
  | ext => rw [hu] at h5; exact h5.elim
  | view => rw [hu] at h5; exact h5.elim
  | gone => rw [hu] at h5; exact h5.elim
 obtain ⟨gs, hgl, hgs⟩ : ∃ gs : List Nat, gs.length = U.length ∧ ∀ i, i < U.length → gs[i]? = r.blk (k + i) := by
  refine ⟨(List.range U.length).map fun i => (r.blk (k + i)).getD 0, by simp, fun i hi => ?_⟩
  obtain ⟨b, hb⟩ := hblk i hi
  rw [List.getElem?_map, List.getElem?_range hi, hb]
  simp [hb]
 have hto : ∀ i b, i < U.length → r.blk (k + i) = some b → (envOf gs).blk i = some b := fun i b hi hb => by
  show gs[i]? = some b
  rw [hgs i hi]; exact hb
 have hfrom : ∀ i b, i < U.length → (envOf gs).blk i = some b → r.blk (k + i) = some b := fun i b hi hb => by
  have hb : gs[i]? = some b := hb
  rw [hgs i hi] at hb; exact hb
 have hin : ∀ (i b : Nat), gs[i]? = some b → i < U.length ∧ r.blk (k + i) = some b := fun i b hb => by
  have hi : i < U.length := by
   rcases Nat.lt_or_ge i U.length with h1 | h1
   ·exact h1
   ·rw [List.getElem?_eq_none (by omega)] at hb; cases hb
  exact ⟨hi, by rw [← hgs i hi]; exact hb⟩
 have hmem : ∀ b, b ∈ gs → ∃ i, i < U.length ∧ r.blk (k + i) = some b := fun b hb => by
  obtain ⟨i, hi⟩ := List.getElem?_of_mem hb
  exact ⟨i, hin i b hi⟩
 have hU : ObjsAt w gs U := by
  refine ⟨hgl.symm, fun i j b hi hj => ?_, fun g hg => ?_, fun i o ho => ?_⟩
  ·have := hR.inj _ _ b (hin i b hi).2 (hin j b hj).2
   omega
  ·obtain ⟨i, _, hi⟩ := hmem g hg
   exact (hR.new _ g hi).1
  ·have hi : i < U.length := by
    rcases Nat.lt_or_ge i U.length with h1 | h1
    ·exact h1
    ·rw [List.getElem?_eq_none h1] at ho; cases ho
   obtain ⟨o', h2, h3⟩ := hsh.get i ho
   have h4 := hR.own (k + i) o' (by rw [hS i hi, h2])
   have h5 := hob o (List.mem_of_getElem? ho)
   cases o with
   | cells t l =>
    cases o' with
    | cells t' l' =>
     obtain ⟨rfl, rfl⟩ := h3
     obtain ⟨b, us, e1, e2, e3⟩ := h4
     exact ⟨b, us, hto i b hi e1, e2, denL_sh (n := U.length) hto h5 e3⟩
    | row => exact h3.elim
    | ext => exact h3.elim
    | view => exact h3.elim
    | gone => exact h3.elim
   | row => exact h5.elim
   | ext => exact h5.elim
   | view => exact h5.elim
   | gone => exact h5.elim
 have hkeep : OldKeeps w0 G w gs := fun b hb hG => by
  refine ⟨Nat.lt_of_lt_of_le hb hR.size, fun hm => ?_, hR.old b hb hG⟩
  obtain ⟨i, _, hi⟩ := hmem b hm
  exact hG ((hR.new _ b hi).2 hb)
 cases gs with
 | nil => simp at hgl; omega
 | cons g gs =>
  obtain ⟨vs1, vs2, rfl, d1, d2⟩ := avden_append hd
  obtain rfl := avals_den hx d1
  obtain ⟨u, vs3, rfl, d3, d4⟩ := d2
  obtain rfl := avals_den hy d4
  obtain ⟨b, hb, rfl⟩ := den_ref d3
  have hbg : b = g := by
   have := hto 0 b hpos (by simpa using hb)
   have : g = b := by injection this
   exact this.symm
  subst hbg
  refine (h w b gs hkeep hU).mono fun e w' ⟨x, hp, he, hU', hg⟩ => ?_
  refine ⟨AV.of (X x), X x, _, r, he, AV.of_den r _, ?_, Env.le.refl r, hK x hp⟩
  have hVl : (V' x).length = U.length := by rw [← hlen' x hp, (hsh' x hp).length]
  have hnot : ∀ j b', r.blk j = some b' → ¬ (k ≤ j ∧ j < k + U.length) → b' ∉ (b :: gs) := fun j b' hj hno hm => by
   obtain ⟨i, hi, hbi⟩ := hmem b' hm
   have := hR.inj _ _ b' hj hbi
   omega
  refine ⟨hg.os.trans hR.os, hg.tape.trans hR.tape, hg.output.trans hR.output, Nat.le_trans hR.size hg.size, fun j hj hjG => ?_, fun j o hj => ?_, hR.inj, fun j b' hb' => ⟨Nat.lt_of_lt_of_le (hR.new j b' hb').1 hg.size, (hR.new j b' hb').2⟩,
   fun j hj => hR.outB j (by rwa [putS_length] at hj), fun j hj => hR.outV j (by rwa [putS_length] at hj), hR.first⟩
  ·obtain ⟨k1, k2, k3⟩ := hkeep j hj hjG
   rw [hg.block j k1 k2]; exact k3
  ·rw [putS_get _ _ _ _ (by rw [hVl]; exact hSlen), hVl] at hj
   by_cases hr : k ≤ j ∧ j < k + U.length
   ·rw [if_pos hr] at hj
    obtain ⟨o', h2, h3⟩ := (hsh' x hp).get' (j - k) hj
    have h4 := hU'.own (j - k) o' h2
    have h5 := hob' x hp o' (List.mem_of_getElem? h2)
    cases o' with
    | cells t l =>
     cases o with
     | cells t' l' =>
      obtain ⟨rfl, rfl⟩ := h3
      obtain ⟨c, us, e1, e2, e3⟩ := h4
      refine ⟨c, us, ?_, e2, sh_denL (n := U.length) hfrom h5 e3⟩
      have := hfrom (j - k) c (by omega) e1
      rwa [show k + (j - k) = j by omega] at this
     | row => exact h3.elim
     | ext => exact h3.elim
     | view => exact h3.elim
     | gone => exact h3.elim
    | row => exact h5.elim
    | ext => exact h5.elim
    | view => exact h5.elim
    | gone => exact h5.elim
   ·rw [if_neg hr] at hj
    refine Ow.holds_block (hR.own j o hj) (fun b' hb' => hg.block b' (hR.new j b' hb').1 (hnot j b' hb' hr)) hg.size fun b' hb' hno => hg.block b' hb' fun hm => ?_
    obtain ⟨i, _, hi⟩ := hmem b' hm
    exact hno _ hi
end Go.Proofs.YtnhdcclpjildjaaGreat
namespace Go.Proofs.YtnhdcclpjildjaaGreat
open Go.RowKit

section
variable {P : Program} {w0 : World} {G : Gs} {S : List Ow} {f : Fr} {o : Oper} {K : AV → Prop}
theorem q_conv_str {x : Operand} {src dst e : TypeId} {te : TypeId} (i n c : Nat) (l : List Int) (hop : o.op = .convert src dst x) (hs : P.underlying src = some (.slice e)) (he : P.underlying e = some (.int .u8)) (hd : P.underlying dst = some .string) (hx : f.ev x = .p (.c (.sl i 0 n c))) (hi : S[i]? = some (.cells te ((l.map (Value.int .u8)).map .v))) (hn : l.length = n) (hk : K (one (strV l))) : QRun P w0 G S f o K := by
 refine ⟨_, hk, fun r a hf => ?_⟩
 have h1 := hf.ev x
 rw [hx] at h1
 obtain ⟨b, hb, hu⟩ := den_sl h1
 refine ⟨_, rfl, fun w hR => ?_⟩
 obtain ⟨b', us, e1, e2, e3⟩ := hR.own i _ hi
 rw [hb] at e1; injection e1 with e1; subst e1
 obtain rfl := denL_vals_inv e3
 have hl : (loadCells ⟨b, 0, none⟩ n).run P w = .ok (l.map (Value.int .u8)).toArray w := by
  unfold loadCells
  have := run_loadCells (P := P) (w := w) (b := b) (off := 0) n 0 #[] (l.map (Value.int .u8)) (by simp [hn]) (fun j u hj => by simpa [World.cell?, e2] using hj)
  simpa using this
 simp [execOp, hop, hu, run_convert_bytes_string w src dst e _ n c hs he hd, run_bytesToString w _ n c l hl, strV, bytesA]
end
end Go.Proofs.YtnhdcclpjildjaaGreat
namespace Go.Proofs.YtnhdcclpjildjaaGreat
open Go.RowKit

def viewT (_ : Option Addr) : Prop := True
end Go.Proofs.YtnhdcclpjildjaaGreat
namespace Go.Proofs.YtnhdcclpjildjaaGreat
open Go.RowKit

theorem sub_append {U T : List Ow} : ∀ (i : Nat) (o : Ow), U[i]? = some o → (U ++ T)[i]? = some o := fun i o h => by
 have hi : i < U.length := by
  rcases Nat.lt_or_ge i U.length with h1 | h1
  ·exact h1
  ·rw [List.getElem?_eq_none h1] at h; cases h
 rw [List.getElem?_append_left hi]; exact h
theorem putS_same {S V : List Ow} {k : Nat} (h : ∀ i, i < V.length → S[k + i]? = V[i]?) : putS S k V = S := by
 rcases Nat.eq_zero_or_pos V.length with h0 | hpos
 ·rw [List.eq_nil_of_length_eq_zero h0]; rfl
 have hlen : k + V.length ≤ S.length := by
  have h1 := h (V.length - 1) (by omega)
  rw [List.getElem?_eq_getElem (by omega : V.length - 1 < V.length)] at h1
  rcases Nat.lt_or_ge (k + (V.length - 1)) S.length with h3 | h3
  ·omega
  ·rw [List.getElem?_eq_none h3] at h1; cases h1
 refine List.ext_getElem? fun j => ?_
 rw [putS_get _ _ _ _ hlen]
 split
 ·rename_i hj
  rw [← h (j - k) (by omega), show k + (j - k) = j by omega]
 ·rfl
section
variable {w0 : World} {G : Gs} {fid : FuncId} {S : List Ow} {K : AV → List Ow → Prop} {pre suf : List AV} {xs ys : List Value} {P : Program}
theorem call_memW (k n p : Nat) (M M' : MemP) (X : Value) (hS : ∀ i, i < 6 → S[k + i]? = (memS k n p M)[i]?) (hx : avals pre = some xs) (hy : avals suf = some ys) (hok : fnOk P fid = true)
  (h : ∀ w g gs, OldKeeps w0 G w (g :: gs) → ObjsAt w (g :: gs) (memS 0 n p M) → Calls P fid (xs ++ .pointer (some ⟨g, 0, none⟩) :: ys).toArray w fun e w' => e = .returned X ∧ ObjsAt w' (g :: gs) (memS 0 n p M') ∧ GrownBys w w' (g :: gs))
  (hK : K (AV.of X) (putS S k (memS k n p M'))) : CallS P w0 G fid (pre ++ .p (.c (.ref k 0)) :: suf) S K :=
 call_objs (α := Unit) k (memS 0 n p M) (memS k n p M) (fun _ => memS 0 n p M') (fun _ => memS k n p M') (fun _ => X) (fun _ => True) (by simp) (memS_sh k n p M) (memS_ob n p M) hS hx hy hok (fun _ _ => memS_sh k n p M') (fun _ _ => memS_ob n p M') (fun _ _ => rfl)
  (fun w g gs hk hU => (h w g gs hk hU).mono fun e w' ⟨h1, h2, h3⟩ => ⟨(), trivial, h1, h2, h3⟩) (fun _ _ => hK)
theorem call_memR (k n p : Nat) (M : MemP) (X : Value) (hS : ∀ i, i < 6 → S[k + i]? = (memS k n p M)[i]?) (hx : avals pre = some xs) (hy : avals suf = some ys) (hok : fnOk P fid = true)
  (h : ∀ w g gs, OldKeeps w0 G w (g :: gs) → ObjsAt w (g :: gs) (memS 0 n p M) → Calls P fid (xs ++ .pointer (some ⟨g, 0, none⟩) :: ys).toArray w fun e w' => e = .returned X ∧ ObjsAt w' (g :: gs) (memS 0 n p M) ∧ GrownBys w w' (g :: gs))
  (hK : K (AV.of X) S) : CallS P w0 G fid (pre ++ .p (.c (.ref k 0)) :: suf) S K :=
 call_memW k n p M M X hS hx hy hok h (by rw [putS_same (fun i hi => hS i hi)]; exact hK)
end
set_option maxRecDepth 100000 in
theorem mem_in (M : MemP) (n p : Nat) (a : Int) (w : World) (g : Nat) (gs : List Nat) (hU : ObjsAt w (g :: gs) (memS 0 n p M)) (_hM : M.ok n p) (ha : word a) :
  Calls Tryz.prog 60 #[.pointer (some ⟨g, 0, none⟩), .int .u32 a] w fun e w' => e = .returned (.bool (decide (a < (n : Int)))) ∧ ObjsAt w' (g :: gs) (memS 0 n p M) ∧ GrownBys w w' (g :: gs) := by
 obtain ⟨g0, g1, g2, g3, g4, g5, hg⟩ := six_blocks hU
 injection hg with hg0 hgs
 subst hgs; subst hg0
 refine calls_objs [.p (.c (.ref 0 0)), one (.int .u32 a)] [.pointer (some ⟨g, 0, none⟩), .int .u32 a] Tryz.func60 Tryz.ntmps60 rfl (by simp) hU ⟨_, _, rfl, den_mk_ref rfl, avdenL_of [.int .u32 a]⟩ ?_
 conv => whnf
 refine ⟨a, wr64 (by unfold word at ha; omega), ?_⟩
 conv => whnf
 exact fin_objs rfl rfl (fun i o h => h) (memS_ob n p M) fun w' h1 h2 => ⟨rfl, h1, h2⟩
theorem tail_le {l : List Int} {f : Int → Value} {t : List Value} {n : Nat} (h : l.length = n) : n ≤ ((l.map f ++ t).map CV.v).length := by simp [h]
theorem tail_set {l : List Int} {f : Int → Value} {t : List Value} {i : Nat} {x : Int} (h : i < l.length) : (l.map f ++ t).set i (f x) = (l.set i x).map f ++ t := by
 rw [List.set_append_left _ _ (by simpa using h), List.map_set]
set_option maxRecDepth 100000 in
theorem mem_right (M : MemP) (n p : Nat) (a r : Int) (w : World) (g : Nat) (gs : List Nat) (hU : ObjsAt w (g :: gs) (memS 0 n p M)) (hM : M.ok n p) (ha : word a) (hr : r = 1 ∨ r = 2 ∨ r = 4) :
  Calls Tryz.prog 109 #[.pointer (some ⟨g, 0, none⟩), .int .u32 a, .int .i64 r] w fun e w' => e = .returned (.bool (M.right a r)) ∧ ObjsAt w' (g :: gs) (memS 0 n p M) ∧ GrownBys w w' (g :: gs) := by
 obtain ⟨g0, g1, g2, g3, g4, g5, hg⟩ := six_blocks hU
 injection hg with hg0 hgs
 subst hgs; subst hg0
 refine calls_objs [.p (.c (.ref 0 0)), one (.int .u32 a), one (.int .i64 r)] [.pointer (some ⟨g, 0, none⟩), .int .u32 a, .int .i64 r] Tryz.func109 Tryz.ntmps109 rfl (by simp) hU ⟨_, _, rfl, den_mk_ref rfl, avdenL_of [.int .u32 a, .int .i64 r]⟩ ?_
 conv => whnf
 refine call_memR (pre := []) (suf := [one (.int .u32 a)]) 0 n p M (.bool (decide (a < (n : Int)))) (fun i hi => by rw [Nat.zero_add]) rfl rfl (by kernel_rfl) (fun w' g gs hk hU => mem_in M n p a w' g gs hU hM ha) ?_
 conv => whnf
 have hw : 0 ≤ a ∧ a < 4294967296 := ha
 refine ⟨((M.rights[(a / 256).toNat]?).getD 0) / r % 2 == 1, fun hin => ?_, ?_⟩
 ·have hlt : a < (n : Int) := by simpa using hin
  have hnp := hM.np
  have hq : (a / 256).toNat < p := by omega
  obtain ⟨x, hx⟩ : ∃ x, M.rights[(a / 256).toNat]? = some x := ⟨_, List.getElem?_eq_getElem (by rw [hM.lr]; exact hq)⟩
  have hxb := hM.rb x (List.mem_of_getElem? hx)
  have hget : (M.rV.map CV.v)[(a / 256).toNat]? = some (.v (intV x)) := by exact tail_at hx
  rw [hx]
  conv => whnf
  refine ⟨by decide, a / 256, by rw [Int.tdiv_eq_ediv_of_nonneg hw.1, wr32]; omega, ?_⟩
  conv => whnf
  refine ⟨⟨by omega, by omega⟩, ?_⟩
  conv => whnf
  rw [show (List.map CV.v M.rV)[0 + (a / 256).toNat * tsz Tryz.prog 3]? = some (.v (intV x)) by show (List.map CV.v M.rV)[0 + (a / 256).toNat * 1]? = _; rw [Nat.zero_add, Nat.mul_one]; exact hget]
  conv => whnf
  have hr0 : 0 < r := by omega
  have hd0 : 0 ≤ x / r := Int.ediv_nonneg hxb.1 (by omega)
  have hd1 : x / r ≤ x := Int.ediv_le_self _ hxb.1
  refine ⟨by omega, x / r, by rw [Int.tdiv_eq_ediv_of_nonneg hxb.1]; exact wr64 (by omega), ?_⟩
  conv => whnf
  refine ⟨by decide, x / r % 2, Int.tmod_eq_emod_of_nonneg hd0, ?_⟩
  conv => whnf
  exact ⟨rfl, rfl, rfl, rfl, grp_mem _ _ _ _ _ _ _ _ _⟩
 conv => whnf
 refine fin_objs rfl rfl (fun i o h => h) (memS_ob n p M) fun w' h1 h2 => ⟨?_, h1, h2⟩
 unfold MemP.right
 rw [hM.ld]; rfl
end Go.Proofs.YtnhdcclpjildjaaGreat
namespace Go.Proofs.YtnhdcclpjildjaaGreat
open Go.RowKit

abbrev memL (k n p : Nat) (M : MemP) (T : List Ow) : List Ow :=
 .cells 125 [.sl (k + 1) 0 n (n + M.td.length), .sl (k + 2) 0 n (n + M.ti.length), .sl (k + 3) 0 n (n + M.tod.length), .sl (k + 4) 0 n (n + M.toi.length), .sl (k + 5) 0 p (p + M.tr.length), .v (.bool false)] ::
  .cells 5 (M.dV.map .v) :: .cells 5 (M.iV.map .v) :: .cells 5 (M.odV.map .v) :: .cells 5 (M.oiV.map .v) :: .cells 3 (M.rV.map .v) :: T
theorem memL_sub {n p : Nat} {M : MemP} {T : List Ow} : ∀ (i : Nat) (o : Ow), (memS 0 n p M)[i]? = some o → (memL 0 n p M T)[i]? = some o := sub_append (T := T)
theorem memL_six {n p : Nat} {M : MemP} {T : List Ow} : ∀ (i : Nat), i < 6 → (memL 0 n p M T)[0 + i]? = (memS 0 n p M)[i]? := fun i hi => by
 rw [Nat.zero_add]
 exact List.getElem?_append_left (l₁ := memS 0 n p M) (l₂ := T) hi
theorem grp_memT (g g1 g2 g3 g4 g5 n p : Nat) (M : MemP) (T : List Ow) (hT : sbnd (6 + T.length) T = true) : grpOk ⟨[g, g1, g2, g3, g4, g5], []⟩ (memL 0 n p M T) = true := by
 have hl : (memL 0 n p M T).length = 6 + T.length := by simp; omega
 have hb : ∀ i, i < 6 → Nat.blt i (6 + T.length) = true := fun i hi => by rw [Nat.blt_eq]; omega
 unfold grpOk
 rw [hl, show Nat.ble (Gs.mk [g, g1, g2, g3, g4, g5] []).fix.length (6 + T.length) = true from Nat.ble_eq_true_of_le (by show 6 ≤ _; omega)]
 show sbnd (6 + T.length) (memL 0 n p M T) = true
 simp only [sbnd, Ow.bnd, bndL_vals, bndL, CV.bnd, Nat.zero_add, hb 1 (by omega), hb 2 (by omega), hb 3 (by omega), hb 4 (by omega), hb 5 (by omega)]
 exact hT
def valV (v at_ : Int) (ok : Bool) : Value := .agg #[.int .u32 v, .int .u32 at_, .bool ok]
def checkV (x : Option Int) : Value := match x with | none => valV 0 0 true | some y => valV 0 y false
theorem bad_step (M : MemP) (a r : Int) {i m : Nat} (h : i < m) : M.bad a r i (m - i) = if M.right ((a + i) % 4294967296) r = true then M.bad a r (i + 1) (m - (i + 1)) else some ((a + i) % 4294967296) := by
 obtain ⟨k, hk⟩ : ∃ k, m - i = k + 1 := ⟨m - i - 1, by omega⟩
 rw [hk, show m - (i + 1) = k by omega]; rfl
set_option maxRecDepth 100000 in
theorem mem_check (M : MemP) (n p : Nat) (a r : Int) (m : Nat) (w : World) (g : Nat) (gs : List Nat) (hU : ObjsAt w (g :: gs) (memS 0 n p M)) (hM : M.ok n p) (_ha : word a) (hr : r = 1 ∨ r = 2 ∨ r = 4) (hm : 1 ≤ m ∧ m ≤ 4) :
  Calls Tryz.prog 84 #[.pointer (some ⟨g, 0, none⟩), .int .u32 a, .int .i64 (m : Int), .int .i64 r] w fun e w' => e = .returned (checkV (M.bad a r 0 m)) ∧ ObjsAt w' (g :: gs) (memS 0 n p M) ∧ GrownBys w w' (g :: gs) := by
 obtain ⟨g0, g1, g2, g3, g4, g5, hg⟩ := six_blocks hU
 injection hg with hg0 hgs
 subst hgs; subst hg0
 refine calls_objs [.p (.c (.ref 0 0)), one (.int .u32 a), one (.int .i64 (m : Int)), one (.int .i64 r)] [.pointer (some ⟨g, 0, none⟩), .int .u32 a, .int .i64 (m : Int), .int .i64 r] Tryz.func84 Tryz.ntmps84 rfl (by simp) hU ⟨_, _, rfl, den_mk_ref rfl, avdenL_of [.int .u32 a, .int .i64 (m : Int), .int .i64 r]⟩ ?_
 conv => whnf
 refine ⟨decide ((m : Int) > 4), fun _ => ?_, ?_⟩
 ·conv => whnf
  exact ⟨rfl, rfl, rfl, rfl, grp_memT g g1 g2 g3 g4 g5 n p M [.cells 120 [.v (.int .u32 0), .v (.int .u32 0), .v (.bool false)]] rfl⟩
 conv => whnf
 refine ⟨fun hc => absurd hc (by simp [cmb]; omega), fun _ => ?_⟩
 conv => whnf
 refine ⟨{ i : Nat // i ≤ m ∧ M.bad a r 0 m = M.bad a r i (m - i) }, fun x => [(0, .p (.c (.ref 0 0))), (1, one (.int .u32 a)), (2, one (.int .i64 (m : Int))), (3, one (.int .i64 r)), (8, .p (.c (.ref 6 0))), (9, one (.int .i64 (x.1 : Int)))], fun x => memL 0 n p M [.cells 120 [.v (.int .u32 0), .v (.int .u32 0), .v (.bool false)]], fun x => m - x.1,
  ⟨⟨0, by omega, rfl⟩, ent_same rfl (aI rfl (aI rfl (aI rfl (aI rfl (aI rfl (aI rfl trivial)))))) (aI sM (aI sM (aI sM (aI sM (aI sM (aI sM (aI sM trivial)))))))⟩, fun x => ?_⟩
 obtain ⟨i, hi, hbad⟩ := x
 dsimp only
 conv => whnf
 refine ⟨fun hc => ?_, fun hc => ?_⟩
 ·have hlt : i < m := by simpa using hc
  rw [bad_step M a r hlt] at hbad
  conv => whnf
  refine ⟨(i : Int), by rw [wr32]; omega, ?_⟩
  conv => whnf
  refine ⟨(a + i) % 4294967296, wr32 _, ?_⟩
  conv => whnf
  refine call_memR (pre := []) (suf := [one (.int .u32 ((a + i) % 4294967296)), one (.int .i64 r)]) 0 n p M (.bool (M.right ((a + i) % 4294967296) r)) memL_six rfl rfl (by kernel_rfl) (fun w' g gs hk hU => mem_right M n p _ r w' g gs hU hM (by unfold word; omega) hr) ?_
  conv => whnf
  refine ⟨fun hb => ?_, fun hb => ?_⟩
  ·have hb' : M.right ((a + i) % 4294967296) r = false := by simpa using hb
   rw [hb', if_neg (by decide)] at hbad
   conv => whnf
   refine ⟨(i : Int), by rw [wr32]; omega, ?_⟩
   conv => whnf
   refine ⟨(a + i) % 4294967296, wr32 _, ?_⟩
   conv => whnf
   refine ⟨_, _, ent_refl, ?_⟩
   conv => whnf
   exact fin_objs rfl rfl memL_sub (memS_ob n p M) fun w' h1 h2 => ⟨by rw [hbad]; rfl, h1, h2⟩
  ·have hb' : M.right ((a + i) % 4294967296) r = true := by simpa using hb
   rw [if_pos hb'] at hbad
   conv => whnf
   refine ⟨_, wr64 (by omega), ?_⟩
   conv => whnf
   exact ⟨⟨i + 1, by omega, hbad⟩, ent_same rfl (aI rfl (aI rfl (aI rfl (aI rfl (aI rfl (aI rfl trivial)))))) (aI sM (aI sM (aI sM (aI sM (aI sM (aI sM (aI sM trivial))))))), by show m - (i + 1) < m - i; omega⟩
 ·have hie : i = m := by simp at hc; omega
  subst hie
  rw [Nat.sub_self] at hbad
  conv => whnf
  refine ⟨_, _, ent_refl, ?_⟩
  conv => whnf
  exact fin_objs rfl rfl memL_sub (memS_ob n p M) fun w' h1 h2 => ⟨by rw [hbad]; rfl, h1, h2⟩
end Go.Proofs.YtnhdcclpjildjaaGreat
namespace Go.Proofs.YtnhdcclpjildjaaGreat
open Go.RowKit

theorem bad_none {M : MemP} {a r : Int} : ∀ {i k : Nat}, M.bad a r i k = none → ∀ j, i ≤ j → j < i + k → M.right ((a + j) % 4294967296) r = true
 | i, 0, _, j, h1, h2 => by omega
 | i, k + 1, h, j, h1, h2 => by
  unfold MemP.bad at h
  split at h
  ·rename_i hr
   by_cases e : j = i
   ·rw [e]; exact hr
   ·exact bad_none h j (by omega) (by omega)
  ·cases h
theorem right_lt {M : MemP} {a r : Int} (h : M.right a r = true) : a < (M.data.length : Int) := by
 unfold MemP.right at h
 simp only [Bool.and_eq_true, decide_eq_true_eq] at h
 exact h.1
def MemP.loadV (M : MemP) (a : Int) (m : Nat) : Value := match M.bad a 1 0 m with | none => valV (M.load a 0 m) 0 true | some y => valV 0 y false
theorem load_step (M : MemP) (a : Int) {i m : Nat} (h : i < m) : M.load a i (m - i) = (M.load a (i + 1) (m - (i + 1)) * 256 + M.get ((a + i) % 4294967296)) % 4294967296 := by
 obtain ⟨k, hk⟩ : ∃ k, m - i = k + 1 := ⟨m - i - 1, by omega⟩
 rw [hk, show m - (i + 1) = k by omega]; rfl
theorem load_word (M : MemP) (a : Int) (i k : Nat) : word (M.load a i k) := by
 cases k with
 | zero => exact word0
 | succ k => exact word_mod _
theorem get_byte {M : MemP} {n p : Nat} (hM : M.ok n p) {x : Int} (h0 : 0 ≤ x) (hx : x < (n : Int)) : (M.dV.map CV.v)[x.toNat]? = some (.v (byteV (M.get x))) ∧ 0 ≤ M.get x ∧ M.get x < 256 := by
 obtain ⟨y, hy⟩ : ∃ y, M.data[x.toNat]? = some y := ⟨_, List.getElem?_eq_getElem (by rw [hM.ld]; omega)⟩
 have hb := hM.db y (List.mem_of_getElem? hy)
 unfold MemP.get
 rw [hy]
 exact ⟨tail_at hy, hb⟩
set_option maxRecDepth 100000 in
theorem mem_load (M : MemP) (n p : Nat) (a : Int) (m : Nat) (w : World) (g : Nat) (gs : List Nat) (hU : ObjsAt w (g :: gs) (memS 0 n p M)) (hM : M.ok n p) (ha : word a) (hm : 1 ≤ m ∧ m ≤ 4) :
  Calls Tryz.prog 55 #[.pointer (some ⟨g, 0, none⟩), .int .u32 a, .int .i64 (m : Int)] w fun e w' => e = .returned (M.loadV a m) ∧ ObjsAt w' (g :: gs) (memS 0 n p M) ∧ GrownBys w w' (g :: gs) := by
 obtain ⟨g0, g1, g2, g3, g4, g5, hg⟩ := six_blocks hU
 injection hg with hg0 hgs
 subst hgs; subst hg0
 refine calls_objs [.p (.c (.ref 0 0)), one (.int .u32 a), one (.int .i64 (m : Int))] [.pointer (some ⟨g, 0, none⟩), .int .u32 a, .int .i64 (m : Int)] Tryz.func55 Tryz.ntmps55 rfl (by simp) hU ⟨_, _, rfl, den_mk_ref rfl, avdenL_of [.int .u32 a, .int .i64 (m : Int)]⟩ ?_
 conv => whnf
 refine call_memR (pre := []) (suf := [one (.int .u32 a), one (.int .i64 (m : Int)), one (.int .i64 1)]) 0 n p M (checkV (M.bad a 1 0 m)) memL_six rfl rfl (by kernel_rfl) (fun w' g gs hk hU => mem_check M n p a 1 m w' g gs hU hM ha (.inl rfl) hm) ?_
 cases hbad : M.bad a 1 0 m with
 | some y =>
  conv => whnf
  refine ⟨fun hc => absurd hc (by decide), fun _ => ?_⟩
  conv => whnf
  exact fin_objs rfl rfl memL_sub (memS_ob n p M) fun w' h1 h2 => ⟨by unfold MemP.loadV; rw [hbad]; rfl, h1, h2⟩
 | none =>
  conv => whnf
  refine ⟨fun _ => ?_, fun hc => absurd hc (by decide)⟩
  conv => whnf
  refine ⟨_, wr64 (by omega), ?_⟩
  conv => whnf
  have e0 : M.load a m (m - m) = 0 := by rw [Nat.sub_self]; rfl
  refine ⟨{ i : Nat // i ≤ m }, fun x => [(0, .p (.c (.ref 0 0))), (1, one (.int .u32 a)), (6, .p (.c (.ref 6 0))), (7, .p (.c (.ref 7 0))), (8, one (.int .i64 ((x.1 : Int) - 1)))], fun x => memL 0 n p M [.cells 120 [.v (.int .u32 0), .v (.int .u32 0), .v (.bool false)], .cells 120 [.v (.int .u32 (M.load a x.1 (m - x.1))), .v (.int .u32 0), .v (.bool true)]], fun x => x.1,
   ⟨⟨m, by omega⟩, ent_same rfl (aI rfl (aI rfl (aI rfl (aI rfl (aI rfl trivial))))) (aI sM (aI sM (aI sM (aI sM (aI sM (aI sM (aI sM (aI ((aI rfl (Or.inl (by rw [e0])))) trivial))))))))⟩, fun x => ?_⟩
  obtain ⟨i, hi⟩ := x
  dsimp only
  conv => whnf
  refine ⟨fun hc => ?_, fun hc => ?_⟩
  ·have hpos : 0 < i := by simp at hc; omega
   obtain ⟨k, rfl⟩ : ∃ k, i = k + 1 := ⟨i - 1, by omega⟩
   have hk : k < m := by omega
   have hx := right_lt (bad_none hbad k (by omega) (by omega))
   rw [hM.ld] at hx
   have hx0 : 0 ≤ (a + (k : Int)) % 4294967296 := by omega
   obtain ⟨hget, hb0, hb1⟩ := get_byte hM hx0 hx
   have hst := load_step M a hk
   have hlw : word (M.load a (k + 1) (m - (k + 1))) := load_word M a _ _
   rw [show (((k + 1 : Nat) : Int) - 1) = (k : Int) by omega]
   have hl0 : 0 ≤ M.load a (k + 1) (m - (k + 1)) := hlw.1
   conv => whnf
   refine sat_tail 16 mixed (by kernel_rfl) ?_
   conv => whnf
   refine ⟨_, wr32 _, ?_⟩
   conv => whnf
   refine ⟨(k : Int), by rw [wr32]; omega, ?_⟩
   conv => whnf
   refine ⟨(a + (k : Int)) % 4294967296, wr32 _, ?_⟩
   conv => whnf
   refine ⟨⟨by omega, by omega⟩, ?_⟩
   conv => whnf
   rw [show (List.map CV.v M.dV)[0 + ((a + (k : Int)) % 4294967296).toNat * tsz Tryz.prog 5]? = some (.v (byteV (M.get ((a + k) % 4294967296)))) by show (List.map CV.v M.dV)[0 + ((a + (k : Int)) % 4294967296).toNat * 1]? = _; rw [Nat.zero_add, Nat.mul_one]; exact hget]
   conv => whnf
   refine ⟨M.get ((a + k) % 4294967296), by rw [wr32]; omega, ?_⟩
   conv => whnf
   refine ⟨M.load a k (m - k), by rw [wr32, hst]; omega, ?_⟩
   conv => whnf
   refine ⟨_, wr64 (by omega), ?_⟩
   conv => whnf
   exact ⟨⟨k, by omega⟩, ent_same rfl (aI rfl (aI rfl (aI rfl (aI rfl (aI rfl trivial))))) (aI sM (aI sM (aI sM (aI sM (aI sM (aI sM (aI sM (aI sM trivial)))))))), by show k < k + 1; omega⟩
  ·have hi0 : i = 0 := by simp at hc; omega
   subst hi0
   conv => whnf
   refine ⟨_, _, ent_refl, ?_⟩
   conv => whnf
   exact fin_objs rfl rfl memL_sub (memS_ob n p M) fun w' h1 h2 => ⟨by unfold MemP.loadV; rw [hbad]; rfl, h1, h2⟩
end Go.Proofs.YtnhdcclpjildjaaGreat
namespace Go.Proofs.YtnhdcclpjildjaaGreat
open Go.RowKit

theorem store_step (M : MemP) (a x : Int) {i m : Nat} (h : i < m) : MemP.store a i (m - i) x M = MemP.store a (i + 1) (m - (i + 1)) (x / 256) (M.put ((a + i) % 4294967296) (x % 256)) := by
 obtain ⟨k, hk⟩ : ∃ k, m - i = k + 1 := ⟨m - i - 1, by omega⟩
 rw [hk, show m - (i + 1) = k by omega]; rfl
theorem put_ok {M : MemP} {n p : Nat} (hM : M.ok n p) (y : Int) {v : Int} (hv : 0 ≤ v ∧ v < 256) : (M.put y v).ok n p :=
 ⟨by show (M.data.set y.toNat v).length = n; rw [List.length_set]; exact hM.ld, hM.li, hM.lr, hM.lod, hM.loi, hM.np, hM.pmax, fun z hz => by
  rcases List.mem_or_eq_of_mem_set hz with h | h
  ·exact hM.db z h
  ·rw [h]; exact hv, hM.ib, hM.rb⟩
theorem store_ok {n p : Nat} (a : Int) : ∀ (i k : Nat) (x : Int) {M : MemP}, M.ok n p → 0 ≤ x → (MemP.store a i k x M).ok n p
 | _, 0, _, M, h, _ => h
 | i, k + 1, x, M, h, hx => store_ok a (i + 1) k (x / 256) (put_ok h _ (by omega)) (by omega)
theorem storeM_ok {M : MemP} {n p : Nat} (hM : M.ok n p) (a : Int) (m : Nat) {x : Int} (hx : 0 ≤ x) : (M.storeM a m x).ok n p := by
 unfold MemP.storeM
 split
 ·exact store_ok a 0 m x hM hx
 ·exact hM
theorem put_dV (M : MemP) {y : Int} (v : Int) (h : y.toNat < M.data.length) : M.dV.set y.toNat (byteV v) = (M.put y v).dV := tail_set h
set_option maxRecDepth 100000 in
theorem mem_store (M : MemP) (n p : Nat) (a : Int) (m : Nat) (x : Int) (w : World) (g : Nat) (gs : List Nat) (hU : ObjsAt w (g :: gs) (memS 0 n p M)) (hM : M.ok n p) (ha : word a) (hm : 1 ≤ m ∧ m ≤ 4) (hx : word x) :
  Calls Tryz.prog 56 #[.pointer (some ⟨g, 0, none⟩), .int .u32 a, .int .i64 (m : Int), .int .u32 x] w fun e w' => e = .returned (checkV (M.bad a 2 0 m)) ∧ ObjsAt w' (g :: gs) (memS 0 n p (M.storeM a m x)) ∧ GrownBys w w' (g :: gs) := by
 obtain ⟨g0, g1, g2, g3, g4, g5, hg⟩ := six_blocks hU
 injection hg with hg0 hgs
 subst hgs; subst hg0
 refine calls_objs [.p (.c (.ref 0 0)), one (.int .u32 a), one (.int .i64 (m : Int)), one (.int .u32 x)] [.pointer (some ⟨g, 0, none⟩), .int .u32 a, .int .i64 (m : Int), .int .u32 x] Tryz.func56 Tryz.ntmps56 rfl (by simp) hU ⟨_, _, rfl, den_mk_ref rfl, avdenL_of [.int .u32 a, .int .i64 (m : Int), .int .u32 x]⟩ ?_
 conv => whnf
 refine call_memR (pre := []) (suf := [one (.int .u32 a), one (.int .i64 (m : Int)), one (.int .i64 2)]) 0 n p M (checkV (M.bad a 2 0 m)) memL_six rfl rfl (by kernel_rfl) (fun w' g gs hk hU => mem_check M n p a 2 m w' g gs hU hM ha (.inr (.inl rfl)) hm) ?_
 cases hbad : M.bad a 2 0 m with
 | some y =>
  conv => whnf
  refine ⟨fun hc => absurd hc (by decide), fun _ => ?_⟩
  conv => whnf
  exact fin_objs rfl rfl memL_sub (memS_ob n p M) fun w' h1 h2 => ⟨rfl, by unfold MemP.storeM; rw [hbad]; exact h1, h2⟩
 | none =>
  conv => whnf
  refine ⟨fun _ => ?_, fun hc => absurd hc (by decide)⟩
  conv => whnf
  refine ⟨{ y : Nat × Int × MemP // y.1 ≤ m ∧ y.2.2.ok n p ∧ word y.2.1 ∧ MemP.store a 0 m x M = MemP.store a y.1 (m - y.1) y.2.1 y.2.2 }, fun y => [(0, .p (.c (.ref 0 0))), (1, one (.int .u32 a)), (2, one (.int .i64 (m : Int))), (3, one (.int .u32 y.1.2.1)), (8, .p (.c (.ref 6 0))), (9, .p (.c (.ref 7 0))), (10, one (.int .i64 (y.1.1 : Int)))], fun y => memL 0 n p y.1.2.2 [.cells 120 [.v (.int .u32 0), .v (.int .u32 0), .v (.bool false)], .cells 120 [.v (.int .u32 0), .v (.int .u32 0), .v (.bool true)]], fun y => m - y.1.1,
   ⟨⟨(0, x, M), by show 0 ≤ m; omega, hM, hx, rfl⟩, ent_same rfl (aI rfl (aI rfl (aI rfl (aI rfl (aI rfl (aI rfl (aI rfl trivial))))))) (aI sM (aI sM (aI sM (aI sM (aI sM (aI sM (aI sM (aI sM trivial))))))))⟩, fun y => ?_⟩
  obtain ⟨⟨i, z, Q⟩, hi, hQ, hz, heq⟩ := y
  dsimp only at hi hQ hz heq ⊢
  conv => whnf
  refine ⟨fun hc => ?_, fun hc => ?_⟩
  ·have hlt : i < m := by simpa using hc
   have hidx := right_lt (bad_none hbad i (by omega) (by omega))
   rw [hM.ld] at hidx
   have hx0 : 0 ≤ (a + (i : Int)) % 4294967296 := by omega
   have hz' : 0 ≤ z ∧ z < 4294967296 := hz
   have hnp := hM.np
   have hlen : n ≤ (List.map CV.v Q.dV).length := tail_le hQ.ld
   conv => whnf
   refine ⟨(i : Int), by rw [wr32]; omega, ?_⟩
   conv => whnf
   refine ⟨(a + (i : Int)) % 4294967296, wr32 _, ?_⟩
   conv => whnf
   refine ⟨z % 256, rfl, ?_⟩
   conv => whnf
   refine ⟨⟨by omega, by omega⟩, ?_⟩
   conv => whnf
   rw [show Nat.ble (0 + ((a + (i : Int)) % 4294967296).toNat * tsz Tryz.prog 5 + [CV.v (Value.int IntKind.u8 (z % 256))].length) (List.map CV.v Q.dV).length = true from Nat.ble_eq_true_of_le (by refine Nat.le_trans ?_ hlen; show 0 + _ * 1 + 1 ≤ n; omega)]
   conv => whnf
   rw [show Nat.ble (List.map CV.v Q.dV).length 8 = false from ble_no (by omega)]
   conv => whnf
   refine ⟨by decide, z / 256, by rw [Int.tdiv_eq_ediv_of_nonneg hz'.1, wr32]; omega, ?_⟩
   conv => whnf
   refine ⟨_, wr64 (by omega), ?_⟩
   conv => whnf
   have hset : setAll (List.map CV.v Q.dV) (0 + ((a + (i : Int)) % 4294967296).toNat * tsz Tryz.prog 5) [CV.v (Value.int IntKind.u8 (z % 256))] = List.map CV.v (Q.put ((a + (i : Int)) % 4294967296) (z % 256)).dV := by
    rw [set_vals, ← put_dV Q _ (by rw [hQ.ld]; omega)]
    show List.map CV.v (Q.dV.set (0 + ((a + (i : Int)) % 4294967296).toNat * 1) _) = _
    rw [Nat.zero_add, Nat.mul_one]
   exact ⟨⟨(i + 1, z / 256, Q.put ((a + (i : Int)) % 4294967296) (z % 256)), by show i + 1 ≤ m; omega, put_ok hQ _ (by omega), (by show 0 ≤ z / 256 ∧ z / 256 < 4294967296; omega), by rw [heq, store_step Q a z hlt]⟩, ent_same rfl (aI rfl (aI rfl (aI rfl (aI rfl (aI rfl (aI rfl (aI rfl trivial))))))) (aI sM (aI ((aI rfl (Or.inl hset))) (aI sM (aI sM (aI sM (aI sM (aI sM (aI sM trivial)))))))), by show m - (i + 1) < m - i; omega⟩
  ·have hie : i = m := by simp at hc; omega
   subst hie
   rw [Nat.sub_self] at heq
   conv => whnf
   refine ⟨_, _, ent_refl, ?_⟩
   conv => whnf
   exact fin_objs rfl rfl memL_sub (memS_ob n p Q) fun w' h1 h2 => ⟨rfl, by unfold MemP.storeM; rw [hbad]; show ObjsAt w' _ (memS 0 n p (MemP.store a 0 i x M)); rw [heq]; exact h1, h2⟩
end Go.Proofs.YtnhdcclpjildjaaGreat
namespace Go.Proofs.YtnhdcclpjildjaaGreat
open Go.RowKit

def MemP.protect (M : MemP) (q : Nat) (x : Int) : MemP := { M with rights := M.rights.set q x }
theorem protect_ok {M : MemP} {n p : Nat} (hM : M.ok n p) (q : Nat) {x : Int} (hx : 0 ≤ x ∧ x < 8) : (M.protect q x).ok n p :=
 ⟨hM.ld, hM.li, by show (M.rights.set q x).length = p; rw [List.length_set]; exact hM.lr, hM.lod, hM.loi, hM.np, hM.pmax, hM.db, hM.ib, fun z hz => by
  rcases List.mem_or_eq_of_mem_set hz with h | h
  ·exact hM.rb z h
  ·rw [h]; exact hx⟩
set_option maxRecDepth 100000 in
theorem mem_protect (M : MemP) (n p : Nat) (q : Nat) (x : Int) (w : World) (g : Nat) (gs : List Nat) (hU : ObjsAt w (g :: gs) (memS 0 n p M)) (hM : M.ok n p) (hq : q < p) (_hp : p < 8) (hx : 0 ≤ x ∧ x < 8) :
  Calls Tryz.prog 28 #[.pointer (some ⟨g, 0, none⟩), .int .i64 (q : Int), .int .i64 x] w fun e w' => e = .returned (.tuple #[]) ∧ ObjsAt w' (g :: gs) (memS 0 n p (M.protect q x)) ∧ GrownBys w w' (g :: gs) := by
 obtain ⟨g0, g1, g2, g3, g4, g5, hg⟩ := six_blocks hU
 injection hg with hg0 hgs
 subst hgs; subst hg0
 refine calls_objs [.p (.c (.ref 0 0)), one (.int .i64 (q : Int)), one (.int .i64 x)] [.pointer (some ⟨g, 0, none⟩), .int .i64 (q : Int), .int .i64 x] Tryz.func28 Tryz.ntmps28 rfl (by simp) hU ⟨_, _, rfl, den_mk_ref rfl, avdenL_of [.int .i64 (q : Int), .int .i64 x]⟩ ?_
 conv => whnf
 refine ⟨decide ((q : Int) < (p : Int)), fun _ => ?_, ?_⟩
 ·conv => whnf
  exact ⟨rfl, rfl, rfl, rfl, grp_mem _ _ _ _ _ _ _ _ _⟩
 conv => whnf
 refine ⟨fun _ => ?_, fun hc => absurd hc (by simp [cmb]; omega)⟩
 conv => whnf
 have h7 : bits .and .i64 x 7 = x := bits_and7 hx
 refine ⟨x, h7, ?_⟩
 conv => whnf
 refine ⟨⟨by omega, by omega⟩, ?_⟩
 conv => whnf
 have hlen : p ≤ (List.map CV.v M.rV).length := tail_le hM.lr
 rw [show Nat.ble (0 + (q : Int).toNat * tsz Tryz.prog 3 + [CV.v (Value.int IntKind.i64 x)].length) (List.map CV.v M.rV).length = true from Nat.ble_eq_true_of_le (by refine Nat.le_trans ?_ hlen; show 0 + _ * 1 + 1 ≤ p; omega)]
 conv => whnf
 have hset : setAll (List.map CV.v M.rV) (0 + (q : Int).toNat * tsz Tryz.prog 3) [CV.v (Value.int IntKind.i64 x)] = List.map CV.v (M.protect q x).rV := by
  rw [set_vals]
  show List.map CV.v (M.rV.set (0 + (q : Int).toNat * 1) _) = _
  rw [Nat.zero_add, Nat.mul_one, Int.toNat_natCast]
  exact congrArg (List.map CV.v) (tail_set (by rw [hM.lr]; exact hq))
 cases hble : Nat.ble (List.map CV.v M.rV).length 8 with
 | true =>
  refine forceL_iff.2 ?_
  conv => whnf
  rw [hset]
  exact fin_objs rfl rfl (fun i o h => h) (memS_ob n p (M.protect q x)) fun w' h1 h2 => ⟨rfl, h1, h2⟩
 | false =>
  conv => whnf
  rw [hset]
  exact fin_objs rfl rfl (fun i o h => h) (memS_ob n p (M.protect q x)) fun w' h1 h2 => ⟨rfl, h1, h2⟩
end Go.Proofs.YtnhdcclpjildjaaGreat
