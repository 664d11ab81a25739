/- Live agrees with the reference implementation for every valid block: for every input, without any condition. -/
import Derived.Test.YtmjfgnnefcimiaaK1
import Derived.Test.YtmjfgnnefcimiaaK12
import Derived.Test.YtmjfgnnefcimiaaK13
import Derived.Test.YtmjfgnnefcimiaaK14
import Derived.Test.YtmjfgnnefcimiaaK15
import Derived.Test.YtmjfgnnefcimiaaK16
import Derived.Test.YtmjfgnnefcimiaaK17
import Derived.Test.YtmjfgnnefcimiaaK18
import Derived.Test.YtmjfgnnefcimiaaK19
import Derived.Test.YtmjfgnnefcimiaaK20
import Derived.Test.YtmjfgnnefcimiaaK21
import Derived.Test.YtmjfgnnefcimiaaK22
import Derived.Test.YtmjfgnnefcimiaaK23
import Derived.Test.YtmjfgnnefcimiaaK24
import Derived.Test.YtmjfgnnefcimiaaK26
import Derived.Test.YtmjfgnnefcimiaaK27
import Derived.Test.YtmjfgnnefcimiaaK28
import Derived.Test.YtmjfgnnefcimiaaK29
import Derived.Test.YtmjfgnnefcimiaaK3
import Derived.Test.YtmjfgnnefcimiaaK5
import Derived.Test.YtmjfgnnefcimiaaK6
namespace Go.Proofs.Ytmjfgnnefcimiaa
open Go.RowKit

set_option maxHeartbeats 400000 in
theorem observes_ref (o : BOp) (w : World) :
    Calls Try.prog 86 #[opV o] w fun e w' => e = .returned (.bool (observesB o)) ∧ Below w.heap.size w w' := by
  unfold opV
  go_enter Try.func86, Try.ntmps86
  go_wp2_with (go_at_call 82; refine (mayLeave_ref o _).mono ?_; rintro e w1 ⟨rfl, hb1⟩; obtain ⟨hc1, hf1⟩ := bcell hb1; have hz1 := hb1.size; try simp only [World.size_alloc] at hz1; have hy1_0 : w.heap.size < w1.heap.size := (by omega); have hc1_0 := fun o => hc1 (w.heap.size) o (by first | omega | (simp; done) | (simp; omega)); have hf1_0 := fun o => hf1 (w.heap.size) o (by first | omega | (simp; done) | (simp; omega)))
  all_goals go_ret
  all_goals exact ⟨by simp [observesB, *], (by repeat (first | exact Below.refl _ _ | assumption | (with_reducible refine Below.drew ?_) | (with_reducible refine below_drewN ?_ _) | (with_reducible refine Below.alloc ?_ (by first | exact Nat.le_refl _ | assumption | (simp; done) | (simp; omega) | omega) _) | (with_reducible refine Below.setCell ?_ (by first | exact Nat.le_refl _ | assumption | (simp; done) | (simp; omega) | omega) _) | (with_reducible refine below_call ?_ (by assumption) (by first | exact Nat.le_refl _ | assumption | (simp; done) | (simp; omega) | omega)) | (with_reducible refine below_only ?_ (by assumption) (by first | exact Nat.le_refl _ | assumption | (simp; done) | (simp; omega) | omega) (by first | exact Nat.le_refl _ | assumption | (simp; done) | (simp; omega) | omega))))⟩

end Go.Proofs.Ytmjfgnnefcimiaa
namespace Go.Proofs.Ytmjfgnnefcimiaa
open Go.RowKit

/-- Whether a variable is live before the first of these operations. -/
def liveAtL : List BOp → Int → Bool
  | [], _ => false
  | o :: l, v => if memI v (reads o) || (observesB o && decide (v < 19)) then true else if writes o == v then false else liveAtL l v
theorem liveAtL_cons (o : BOp) (l : List BOp) (v : Int) : liveAtL (o :: l) v = (memI v (reads o) || (observesB o && decide (v < 19)) || (liveAtL l v && !(writes o == v))) := by
  show (if _ then _ else _) = _
  split
  · rename_i h; rw [h]; rfl
  · rename_i h
    have h' : (memI v (reads o) || (observesB o && decide (v < 19))) = false := by simpa using h
    rw [h', Bool.false_or]
    split
    · rename_i h2; rw [h2]; simp
    · rename_i h2; rw [show (writes o == v) = false by simpa using h2]; simp
theorem setM_bit (m k j : Nat) : (setM m k).testBit j = (m.testBit j || decide (k = j)) := by unfold setM; rw [Nat.testBit_or, Nat.testBit_two_pow]
theorem readsM_bit : ∀ (l : List Int) (m : Nat) (v : Nat), (∀ x ∈ l, 0 ≤ x) → (readsM m l).testBit v = (m.testBit v || memI (v : Int) l)
  | [], m, v, _ => by simp [readsM, memI]
  | x :: l, m, v, h => by
    have hx := h x (by simp)
    show (readsM (setM m x.toNat) l).testBit v = _
    rw [readsM_bit l _ v (fun y hy => h y (by simp [hy])), setM_bit]
    unfold memI
    rw [List.any_cons, Bool.or_assoc]
    congr 2
    rw [Bool.eq_iff_iff]; simp; omega
theorem clrM_bit {m d v : Nat} (hd : d < 32) (hv : v < 32) : (clrM m d).testBit v = (m.testBit v && !decide (d = v)) := by
  unfold clrM
  rw [Nat.testBit_and]
  have : (4294967295 - 2 ^ d).testBit v = !decide (d = v) := by
    have e : 4294967295 - 2 ^ d = 2 ^ 32 - (2 ^ d + 1) := by omega
    have h2 : 2 ^ d < 2 ^ 32 := Nat.pow_lt_pow_right (by omega) hd
    rw [e, Nat.testBit_two_pow_sub_succ h2, Nat.testBit_two_pow]
    simp [hv]
  rw [this]
theorem low19_bit (v : Nat) : (524287 : Nat).testBit v = decide (v < 19) := by
  rw [show (524287 : Nat) = 2 ^ 19 - 1 from rfl, Nat.testBit_two_pow_sub_one]
theorem writes_lt {o : BOp} (hf : formedB o = true) : writes o < 28 := by
  have := writes_var hf
  exact this
theorem beforeM_bit {o : BOp} (hf : formedB o = true) (m : Nat) {v : Nat} (hv : v < 28) : (beforeM o m).testBit v = (memI (v : Int) (reads o) || (observesB o && decide ((v : Int) < 19)) || (m.testBit v && !(writes o == (v : Int)))) := by
  have hr : ∀ x ∈ reads o, 0 ≤ x := fun x hx => (reads_var hf x hx).1
  have hw := writes_lt hf
  have hc : (if 0 ≤ writes o then clrM m (writes o).toNat else m).testBit v = (m.testBit v && !(writes o == (v : Int))) := by
    split
    · rename_i h0
      rw [clrM_bit (by omega) (by omega)]
      congr 2
      rw [Bool.eq_iff_iff]; simp; omega
    · rename_i h0
      have : (writes o == (v : Int)) = false := by rw [beq_eq_false_iff_ne]; omega
      rw [this]; simp
  have h19 : decide ((v : Int) < 19) = decide (v < 19) := by rw [decide_eq_decide]; omega
  unfold beforeM
  split
  · rename_i ho
    rw [Nat.testBit_or, readsM_bit _ _ _ hr, hc, low19_bit, ho, h19]
    cases memI (v : Int) (reads o) <;> cases decide (v < 19) <;> simp
  · rename_i ho
    have ho' : observesB o = false := by simpa using ho
    rw [readsM_bit _ _ _ hr, hc, ho']
    cases memI (v : Int) (reads o) <;> simp
/-- The mask says what is live. -/
def MaskIs (m : Nat) (l : List BOp) : Prop := ∀ v : Nat, v < 28 → m.testBit v = liveAtL l (v : Int)
theorem mask_nil : MaskIs 0 [] := fun v _ => by simp [liveAtL]
theorem mask_cons {o : BOp} (hf : formedB o = true) {m : Nat} {l : List BOp} (h : MaskIs m l) : MaskIs (beforeM o m) (o :: l) := fun v hv => by rw [beforeM_bit hf m hv, liveAtL_cons, h v hv]
end Go.Proofs.Ytmjfgnnefcimiaa
namespace Go.Proofs.Ytmjfgnnefcimiaa
open Go.RowKit

set_option maxRecDepth 100000 in
theorem reads_has (o : BOp) (v : Int) (w : World) : Calls Try.prog 85 #[opV o, .int .i64 v] w fun e w' => e = .returned (.bool (memI v (reads o))) ∧ Below w.heap.size w w' := by
  unfold opV
  have hrl := reads_len o
  refine calls_val [.agg #[.int .i64 o.code, .int .i64 o.d, .int .i64 o.a, .int .i64 o.b, .int .u32 o.n], .int .i64 v] Try.func85 Try.ntmps85 rfl (by simp) ?_
  conv => whnf
  refine call_row rfl (by kernel_rfl) (fun r w' hR => reads_ref o w') ?_
  conv => whnf
  refine ⟨{ k : Nat // k ≤ (reads o).length ∧ memI v ((reads o).take k) = false }, fun x => [(1, one (.int .i64 v)), (5, .p (.c (.row 1))), (6, one (.int .i64 (x.1 : Int)))], fun x => [.gone, .row 3 1 (reads o).length ((reads o).map (.int .i64))], fun x => (reads o).length - x.1,
    ⟨⟨0, by omega, by simp [memI]⟩, ent_same rfl (aI rfl (aI rfl (aI rfl trivial))) (aI ((by trivial)) (aI ((aI rfl (aI rfl (aI rfl rfl)))) trivial))⟩, fun x => ?_⟩
  obtain ⟨k, hk, hm⟩ := x
  dsimp only
  conv => whnf
  refine ⟨fun hc => ?_, fun hc => ?_⟩
  · have hlt : k < (reads o).length := by simpa using hc
    obtain ⟨x, hx⟩ : ∃ x, (reads o)[k]? = some x := ⟨_, List.getElem?_eq_getElem hlt⟩
    conv => whnf
    refine ⟨⟨by omega, by omega⟩, ?_⟩
    conv => whnf
    rw [show (List.map CV.v (List.map (Value.int IntKind.i64) (reads o)))[(k : Int).toNat * tsz Try.prog 3]? = some (.v (.int .i64 x)) by
      rw [show (k : Int).toNat * tsz Try.prog 3 = k from (Nat.mul_one _).trans (Int.toNat_natCast k), List.getElem?_map, List.getElem?_map, hx]; rfl]
    conv => whnf
    have hs : memI v ((reads o).take (k + 1)) = (x == v) := by
      rw [List.take_add_one, hx]
      unfold memI at hm ⊢
      rw [List.any_append, hm]
      simp
    refine ⟨fun he => ?_, fun he => ?_⟩
    · conv => whnf
      refine ⟨_, _, ent_refl, ?_⟩
      conv => whnf
      have hall : memI v (reads o) = true := by
        unfold memI
        rw [List.any_eq_true]
        exact ⟨x, List.mem_of_getElem? hx, he⟩
      exact fin_val rfl fun w' hB => ⟨by rw [hall], hB⟩
    · conv => whnf
      refine ⟨_, wr64 (by omega), ?_⟩
      conv => whnf
      exact ⟨⟨k + 1, by omega, by rw [hs]; exact he⟩, ent_same rfl (aI rfl (aI rfl (aI rfl trivial))) (aI ((by trivial)) (aI ((aI rfl (aI rfl (aI rfl rfl)))) trivial)), by show (reads o).length - (k + 1) < (reads o).length - k; omega⟩
  · have hke : k = (reads o).length := by simp at hc; omega
    subst hke
    conv => whnf
    refine ⟨_, _, ent_refl, ?_⟩
    conv => whnf
    rw [List.take_length] at hm
    exact fin_val rfl fun w' hB => ⟨by rw [hm], hB⟩
set_option maxRecDepth 100000 in
theorem liveAt_walk (l : List BOp) (A1 A2 A3 : Option Addr) (n1 n2 c1 c2 c3 i : Nat) (v : Int) (w : World) (h3 : OpsAt w w.heap.size A3 l) (hl : l.length ≤ 1000000) (hi : i ≤ l.length) :
    Calls Try.prog 59 #[.agg #[.slice A1 n1 c1, .slice A2 n2 c2, .slice A3 l.length c3], .int .i64 (i : Int), .int .i64 v] w fun e w' => e = .returned (.bool (liveAtL (l.drop i) v)) ∧ Below w.heap.size w w' := by
  refine calls_satq [.agg #[.slice A1 n1 c1, .slice A2 n2 c2, .slice A3 l.length c3], .int .i64 (i : Int), .int .i64 v] Try.func59 Try.ntmps59 rfl (by simp) ?_
  refine satq_seq ?_
  conv => whnf
  refine satq_in ?_
  refine satq_seq ?_
  conv => whnf
  refine satq_block ?_
  refine satq_loop (α := { j : Nat // j ≤ l.length ∧ liveAtL (l.drop i) v = liveAtL (l.drop j) v }) (fun x => [(2, one (.int .i64 v)), (3, .p (.c (.ref 0 0))), (7, one (.int .i64 (x.1 : Int)))]) (fun x => [.cells 32 [.v (.slice A1 n1 c1), .v (.slice A2 n2 c2), .v (.slice A3 l.length c3)]]) (fun x => l.length - x.1)
    ⟨i, hi, rfl⟩ (ent_same rfl (aI rfl (aI rfl (aI rfl trivial))) (aI ((aI rfl (Or.inl rfl))) trivial)) fun x => ?_
  obtain ⟨j, hj, hjl⟩ := x
  dsimp only
  refine satq_seq ?_
  conv => whnf
  refine ⟨fun hc => ?_, fun hc => ?_⟩
  · have hlt : j < l.length := by simpa using hc
    obtain ⟨o, ho⟩ : ∃ o, l[j]? = some o := ⟨_, List.getElem?_eq_getElem hlt⟩
    have hstep : liveAtL (l.drop j) v = (memI v (reads o) || (observesB o && decide (v < 19)) || (liveAtL (l.drop (j + 1)) v && !(writes o == v))) := by
      have e : l[j] = o := by rw [List.getElem?_eq_getElem hlt] at ho; injection ho
      rw [List.drop_eq_getElem_cons hlt, e, liveAtL_cons]
    obtain ⟨bb, off, rfl⟩ := ops_addr h3 (by omega)
    conv => whnf
    refine satq_mid (α := { u : Unit // liveAtL (l.drop j) v = liveAtL (l.drop (j + 1)) v }) (fun _ => [(2, one (.int .i64 v)), (3, .p (.c (.ref 0 0))), (7, one (.int .i64 (j : Int)))]) (fun _ => [.cells 32 [.v (.slice A1 n1 c1), .v (.slice A2 n2 c2), .v (.slice (some ⟨bb, off, none⟩) l.length c3)]]) ?_ fun y => ?_
    · refine satq_block ?_
      refine satq_seq ?_
      conv => whnf
      refine ⟨⟨by omega, by omega⟩, ?_⟩
      conv => whnf
      refine ⟨opC o, cells_op h3 (by simp) ho, rfl, ?_⟩
      conv => whnf
      refine satq_seq ?_
      conv => whnf
      refine call_con rfl (by kernel_rfl) (fun r w' hR => reads_has o v w') ?_
      conv => whnf
      refine satq_seq ?_
      conv => whnf
      refine call_con rfl (by kernel_rfl) (fun r w' hR => observes_ref o w') ?_
      conv => whnf
      refine satq_in ?_
      refine satq_mid (α := Unit) (fun _ => [(2, one (.int .i64 v)), (3, .p (.c (.ref 0 0))), (7, one (.int .i64 (j : Int))), (8, .p (.c (.ref 1 0))), (36, one (.bool (memI v (reads o) || (observesB o && decide (v < 19)))))]) (fun _ => [.cells 32 [.v (.slice A1 n1 c1), .v (.slice A2 n2 c2), .v (.slice (some ⟨bb, off, none⟩) l.length c3)], .cells 53 ((opC o).map .v)]) ?_ fun _ => ?_
      · generalize memI v (reads o) = x
        generalize observesB o = y
        refine satq_regionU ?_
        cases x with
        | true =>
          conv => whnf
          (refine ⟨(fun h => absurd h (by decide)), fun _ => ?_⟩; (conv => whnf))
          (refine ⟨(fun h => absurd h (by decide)), fun _ => ?_⟩; (conv => whnf))
          (refine ⟨(fun h => absurd h (by decide)), fun _ => ?_⟩; (conv => whnf))
          (refine ⟨(fun h => absurd h (by decide)), fun _ => ?_⟩; (conv => whnf))
          (refine ⟨(fun h => absurd h (by decide)), fun _ => ?_⟩; (conv => whnf))
          exact atq_mid () (ent_same rfl (aI rfl (aI rfl (aI rfl (aI rfl (aI rfl trivial))))) (aI ((aI rfl (Or.inl rfl))) (aI ((aI rfl (Or.inl rfl))) trivial)))
        | false =>
          conv => whnf
          (refine ⟨fun _ => ?_, (fun h => absurd h (by decide))⟩; (conv => whnf))
          (refine ⟨fun _ => ?_, (fun h => absurd h (by decide))⟩; (conv => whnf))
          cases y with
          | true =>
            (refine ⟨fun _ => ?_, (fun h => absurd h (by decide))⟩; (conv => whnf))
            (refine ⟨fun _ => ?_, (fun h => absurd h (by decide))⟩; (conv => whnf))
            (refine ⟨fun _ => ?_, (fun h => absurd h (by decide))⟩; (conv => whnf))
            exact atq_mid () (ent_same rfl (aI rfl (aI rfl (aI rfl (aI rfl (aI ((by show one _ = one _; simp)) trivial))))) (aI ((aI rfl (Or.inl rfl))) (aI ((aI rfl (Or.inl rfl))) trivial)))
          | false =>
            (refine ⟨(fun h => absurd h (by decide)), fun _ => ?_⟩; (conv => whnf))
            (refine ⟨(fun h => absurd h (by decide)), fun _ => ?_⟩; (conv => whnf))
            (refine ⟨fun _ => ?_, (fun h => absurd h (by decide))⟩; (conv => whnf))
            exact atq_mid () (ent_same rfl (aI rfl (aI rfl (aI rfl (aI rfl (aI rfl trivial))))) (aI ((aI rfl (Or.inl rfl))) (aI ((aI rfl (Or.inl rfl))) trivial)))
      refine satq_cond rfl (fun h => ?_) (fun h => ?_)
      · refine satq_vc ?_
        conv => whnf
        refine atq_up (atq_ret (R := fun e w' => e = .returned (.bool (liveAtL (l.drop i) v)) ∧ Below w.heap.size w w') ?_) (by exact fun _ _ h => h)
        conv => whnf
        exact fin_val rfl fun w' hB => ⟨by rw [hjl, hstep, h]; rfl, hB⟩
      refine satq_skip ?_
      refine atq_on ?_
      refine satq_vc ?_
      conv => whnf
      refine call_con rfl (by kernel_rfl) (fun r w' hR => writes_ref o w') ?_
      conv => whnf
      refine ⟨fun he => ?_, fun he => ?_⟩
      · conv => whnf
        refine atq_up (atq_ret (R := fun e w' => e = .returned (.bool (liveAtL (l.drop i) v)) ∧ Below w.heap.size w w') ?_) (by exact fun _ _ h => h)
        conv => whnf
        exact fin_val rfl fun w' hB => ⟨by rw [hjl, hstep, h, he]; simp, hB⟩
      · conv => whnf
        refine atq_block ?_
        exact atq_mid ⟨(), by rw [hstep, h, he]; simp⟩ (ent_drop (aI rfl (aI rfl (aI rfl trivial))) (aI ((aI rfl (Or.inl rfl))) trivial) rfl rfl)
    refine satq_vc ?_
    conv => whnf
    refine ⟨_, wr64 (by omega), ?_⟩
    conv => whnf
    exact atq_next ⟨j + 1, by omega, by rw [hjl, y.2]⟩ (ent_same rfl (aI rfl (aI rfl (aI rfl trivial))) (aI ((aI rfl (Or.inl rfl))) trivial)) (by show l.length - (j + 1) < l.length - j; omega)
  · have hje : j = l.length := by simp at hc; omega
    subst hje
    rw [List.drop_length] at hjl
    conv => whnf
    refine atq_out (atq_exit (atq_on ?_))
    refine satq_vc ?_
    conv => whnf
    refine atq_ret ?_
    conv => whnf
    exact fin_val rfl fun w' hB => ⟨by rw [hjl]; rfl, hB⟩
end Go.Proofs.Ytmjfgnnefcimiaa
namespace Go.Proofs.Ytmjfgnnefcimiaa
open Go.RowKit

/-- The variable of which v is a copy behind these operations, the last first; or -1. m: a mark has been passed; sk: what has been passed. -/
def copyF : Bool → List BOp → List BOp → Int → Int
  | _, [], _, _ => -1
  | m, o :: r, sk, v => if writes o = v then (if o.code ≠ 2 ∨ o.a = v then -1 else if m = true ∧ (20 ≤ v ∨ 20 ≤ o.a) then -1 else if (sk.any fun p => writes p == o.a) = true then -1 else o.a) else copyF (m || o.code == 20) r (o :: sk) v
def copyR (r : List BOp) (v : Int) : Int := copyF false r [] v
/-- The map says what is a copy; its values are no copies. -/
structure CopyIs (s : Int → Option Int) (r : List BOp) : Prop where
  fm : ∀ o ∈ r, o.code = 2 → 0 ≤ o.a
  some_ : ∀ v w, 0 ≤ v → v < 28 → s v = some w → copyR r v = w ∧ 0 ≤ w ∧ w < 28
  none_ : ∀ v, 0 ≤ v → v < 28 → s v = none → copyR r v < 0
  flat : ∀ v w, s v = some w → s w = none
end Go.Proofs.Ytmjfgnnefcimiaa
namespace Go.Proofs.Ytmjfgnnefcimiaa
open Go.RowKit

def maskN : Nat → (Nat → Bool) → Nat
  | 0, _ => 0
  | n + 1, p => maskN n p + if p n then 2 ^ n else 0
theorem maskN_lt : ∀ (n : Nat) (p : Nat → Bool), maskN n p < 2 ^ n
  | 0, p => by simp [maskN]
  | n + 1, p => by
    have := maskN_lt n p
    unfold maskN
    rw [Nat.pow_succ]
    split <;> omega
theorem maskN_bit : ∀ (n : Nat) (p : Nat → Bool) (v : Nat), (maskN n p).testBit v = (decide (v < n) && p v)
  | 0, p, v => by simp [maskN]
  | n + 1, p, v => by
    have hlt := maskN_lt n p
    unfold maskN
    by_cases hp : p n = true
    · rw [if_pos hp, Nat.add_comm]
      rcases Nat.lt_trichotomy v n with h | h | h
      · rw [Nat.testBit_two_pow_add_gt h, maskN_bit n p v]
        simp [h]; omega
      · subst h
        rw [Nat.testBit_two_pow_add_eq, maskN_bit, hp]; simp
      · rw [Nat.testBit_lt_two_pow (Nat.lt_of_lt_of_le (m := 2 ^ (n + 1)) (by rw [Nat.pow_succ]; omega) (Nat.pow_le_pow_right (by omega) h)), decide_eq_false (show ¬ v < n + 1 by omega)]
        rfl
    · rw [if_neg hp, Nat.add_zero, maskN_bit n p v]
      have hp' : p n = false := by simpa using hp
      rcases Nat.lt_trichotomy v n with h | h | h
      · rw [decide_eq_true h, decide_eq_true (show v < n + 1 by omega)]
      · subst h; simp [hp']
      · rw [decide_eq_false (show ¬ v < n by omega), decide_eq_false (show ¬ v < n + 1 by omega)]
def maskOf (l : List BOp) : Nat := maskN 28 fun v => liveAtL l (v : Int)
theorem mask_eq {m : Nat} {l : List BOp} (h : MaskIs m l) (hm : m < 2 ^ 28) : m = maskOf l := by
  refine Nat.eq_of_testBit_eq fun v => ?_
  unfold maskOf
  rw [maskN_bit]
  by_cases hv : v < 28
  · rw [h v hv]; simp [hv]
  · rw [Nat.testBit_lt_two_pow (Nat.lt_of_lt_of_le hm (Nat.pow_le_pow_right (by omega) (by omega)))]
    simp [hv]
theorem readsM_lt28 : ∀ (l : List Int) (m : Nat), m < 2 ^ 28 → (∀ x ∈ l, 0 ≤ x ∧ x < 28) → readsM m l < 2 ^ 28
  | [], m, h, _ => h
  | x :: l, m, h, hl => by
    have hx := hl x (by simp)
    refine readsM_lt28 l (setM m x.toNat) ?_ fun y hy => hl y (by simp [hy])
    exact Nat.or_lt_two_pow h (Nat.pow_lt_pow_right (by omega) (by omega))
theorem beforeM_lt28 {o : BOp} (hf : formedB o = true) {m : Nat} (h : m < 2 ^ 28) : beforeM o m < 2 ^ 28 := by
  have h1 : (if 0 ≤ writes o then clrM m (writes o).toNat else m) < 2 ^ 28 := by
    split
    · exact Nat.lt_of_le_of_lt Nat.and_le_left h
    · exact h
  have h2 := readsM_lt28 (reads o) _ h1 (reads_var hf)
  unfold beforeM
  split
  · exact Nat.or_lt_two_pow h2 (by decide)
  · exact h2
def refL : List BOp → List Nat
  | [] => []
  | o :: l => maskOf (o :: l) :: refL l
theorem refL_length : ∀ l : List BOp, (refL l).length = l.length
  | [] => rfl
  | o :: l => by simp [refL, refL_length l]
theorem refL_get : ∀ {l : List BOp} {i : Nat}, i < l.length → (refL l)[i]? = some (maskOf (l.drop i))
  | [], i, h => by simp at h
  | o :: l, 0, h => rfl
  | o :: l, i + 1, h => by simpa [refL] using refL_get (l := l) (i := i) (by simpa using h)
theorem maskOf_nil : maskOf [] = 0 := (mask_eq mask_nil (by decide)).symm
theorem refL_head (l : List BOp) : (refL l).headD 0 = maskOf l := by
  cases l with
  | nil => rw [maskOf_nil]; rfl
  | cons o l => rfl
theorem maskOf_is (l : List BOp) : MaskIs (maskOf l) l := fun v hv => by unfold maskOf; rw [maskN_bit]; simp [hv]
/-- The masks are the reference's. -/
theorem live_eq : ∀ l : List BOp, (∀ o ∈ l, formedB o = true) → liveL l = refL l
  | [], _ => rfl
  | o :: l, h => by
    have hf := h o (by simp)
    have ih := live_eq l fun p hp => h p (by simp [hp])
    show beforeM o ((liveL l).headD 0) :: liveL l = maskOf (o :: l) :: refL l
    rw [ih, refL_head, mask_eq (mask_cons hf (maskOf_is l)) (beforeM_lt28 hf (maskN_lt 28 _))]
end Go.Proofs.Ytmjfgnnefcimiaa
namespace Go.Proofs.Ytmjfgnnefcimiaa
open Go.RowKit

set_option maxRecDepth 100000 in
theorem liveR_walk (l : List BOp) (A1 A2 A3 : Option Addr) (n1 n2 c1 c2 c3 : Nat) (w : World) (h3 : OpsAt w w.heap.size A3 l) (hl : l.length ≤ 1000000) :
    Calls Try.prog 28 #[.agg #[.slice A1 n1 c1, .slice A2 n2 c2, .slice A3 l.length c3]] w fun e w' => ∃ A c, e = .returned (.slice A l.length c) ∧ SlAt w' w'.heap.size A ((refL l).map natV) ∧ l.length ≤ c ∧ c ≤ maxLen ∧ Fresh w.heap.size A ∧ Below w.heap.size w w' := by
  refine calls_satq [.agg #[.slice A1 n1 c1, .slice A2 n2 c2, .slice A3 l.length c3]] Try.func28 Try.ntmps28 rfl (by simp) ?_
  refine satq_seq ?_
  conv => whnf
  refine satq_seq ?_
  conv => whnf
  refine satq_in ?_
  refine satq_seq ?_
  conv => whnf
  refine satq_block ?_
  refine satq_loop (α := { j : Nat // j ≤ l.length }) (fun x => [(1, .p (.c (.ref 0 0))), (3, .p (.c (.row 1))), (4, one (.int .i64 (x.1 : Int)))]) (fun x => [.cells 32 [.v (.slice A1 n1 c1), .v (.slice A2 n2 c2), .v (.slice A3 l.length c3)], .row 24 1 x.1 (((refL l).take x.1).map natV)]) (fun x => l.length - x.1)
    ⟨0, by omega⟩ (ent_trans (ent_row 3 24 1 rfl) (ent_same rfl (aI rfl (aI rfl (aI rfl trivial))) (aI ((aI rfl (Or.inl rfl))) (aI ((aI rfl (aI rfl (aI rfl rfl)))) trivial)))) fun x => ?_
  obtain ⟨j, hj⟩ := x
  dsimp only
  refine satq_seq ?_
  conv => whnf
  refine ⟨fun hc => ?_, fun hc => ?_⟩
  · have hlt : j < l.length := by simpa using hc
    conv => whnf
    refine satq_mid (α := Unit) (fun _ => [(1, .p (.c (.ref 0 0))), (3, .p (.c (.row 1))), (4, one (.int .i64 (j : Int)))]) (fun _ => [.cells 32 [.v (.slice A1 n1 c1), .v (.slice A2 n2 c2), .v (.slice A3 l.length c3)], .row 24 1 (j + 1) (((refL l).take (j + 1)).map natV)]) ?_ fun _ => ?_
    · refine satq_block ?_
      refine satq_seq ?_
      conv => whnf
      refine satq_mid (α := Unit) (fun _ => [(1, .p (.c (.ref 0 0))), (3, .p (.c (.row 1))), (4, one (.int .i64 (j : Int))), (5, one (.int .u32 (maskOf (l.drop j) : Int)))]) (fun _ => [.cells 32 [.v (.slice A1 n1 c1), .v (.slice A2 n2 c2), .v (.slice A3 l.length c3)], .row 24 1 j (((refL l).take j).map natV)]) ?_ fun _ => ?_
      · refine satq_seq ?_
        conv => whnf
        refine satq_block ?_
        refine satq_loop (α := { v : Nat // v ≤ 28 }) (fun x => [(1, .p (.c (.ref 0 0))), (3, .p (.c (.row 1))), (4, one (.int .i64 (j : Int))), (5, one (.int .u32 ((maskN x.1 fun v => liveAtL (l.drop j) (v : Int)) : Int))), (6, one (.int .i64 (x.1 : Int)))]) (fun x => [.cells 32 [.v (.slice A1 n1 c1), .v (.slice A2 n2 c2), .v (.slice A3 l.length c3)], .row 24 1 j (((refL l).take j).map natV)]) (fun x => 28 - x.1)
          ⟨0, by omega⟩ (ent_same rfl (aI rfl (aI rfl (aI rfl (aI rfl (aI rfl trivial))))) (aI ((aI rfl (Or.inl rfl))) (aI ((aI rfl (aI rfl (aI rfl rfl)))) trivial))) fun x => ?_
        obtain ⟨v, hv⟩ := x
        dsimp only
        refine satq_seq ?_
        conv => whnf
        refine ⟨fun hc => ?_, fun hc => ?_⟩
        · have hvlt : v < 28 := by simp at hc; omega
          conv => whnf
          refine satq_mid (α := Unit) (fun _ => [(1, .p (.c (.ref 0 0))), (3, .p (.c (.row 1))), (4, one (.int .i64 (j : Int))), (5, one (.int .u32 ((maskN (v + 1) fun v => liveAtL (l.drop j) (v : Int)) : Int))), (6, one (.int .i64 (v : Int)))]) (fun _ => [.cells 32 [.v (.slice A1 n1 c1), .v (.slice A2 n2 c2), .v (.slice A3 l.length c3)], .row 24 1 j (((refL l).take j).map natV)]) ?_ fun _ => ?_
          · refine satq_block ?_
            refine satq_vc ?_
            conv => whnf
            refine call_con (xs := [.agg #[.slice A1 n1 c1, .slice A2 n2 c2, .slice A3 l.length c3], .int .i64 (j : Int), .int .i64 (v : Int)]) rfl (by kernel_rfl) (fun r w' hR => liveAt_walk l A1 A2 A3 n1 n2 c1 c2 c3 j (v : Int) w' (sl_later h3 hR.toBelow) hl hj) ?_
            conv => whnf
            have hm : maskN (v + 1) (fun v => liveAtL (l.drop j) (v : Int)) = maskN v (fun v => liveAtL (l.drop j) (v : Int)) + if liveAtL (l.drop j) (v : Int) = true then 2 ^ v else 0 := rfl
            have hlt2 := maskN_lt v (fun v => liveAtL (l.drop j) (v : Int))
            have hpow : 2 ^ v ≤ 2 ^ 27 := Nat.pow_le_pow_right (by omega) (by omega)
            rw [hm]
            generalize maskN v (fun v => liveAtL (l.drop j) (v : Int)) = q at hlt2 ⊢
            refine ⟨fun ht => ?_, fun ht => ?_⟩
            · rw [if_pos ht]
              conv => whnf
              refine ⟨(v : Int), by simp [IntKind.wrap, IntKind.bits, IntKind.signed]; omega, ?_⟩
              conv => whnf
              refine ⟨by omega, ((2 ^ v : Nat) : Int), ?_, ?_⟩
              · rw [show min (v : Int).toNat IntKind.u32.bits = v by rw [Int.toNat_natCast]; exact Nat.min_eq_left (by show v ≤ 32; omega), Int.one_mul, wr32, show (2 : Int) ^ v = ((2 ^ v : Nat) : Int) by simp]
                have h27 : (2 : Nat) ^ 27 = 134217728 := rfl
                omega
              conv => whnf
              refine ⟨((q + 2 ^ v : Nat) : Int), ?_, ?_⟩
              · rw [wr32]
                have h27 : (2 : Nat) ^ 27 = 134217728 := rfl
                omega
              conv => whnf
              refine atq_block ?_
              exact atq_mid () (ent_same rfl (aI rfl (aI rfl (aI rfl (aI rfl (aI rfl trivial))))) (aI ((aI rfl (Or.inl rfl))) (aI ((aI rfl (aI rfl (aI rfl rfl)))) trivial)))
            · rw [if_neg (by rw [ht]; decide)]
              conv => whnf
              refine atq_block ?_
              exact atq_mid () (ent_same rfl (aI rfl (aI rfl (aI rfl (aI rfl (aI rfl trivial))))) (aI ((aI rfl (Or.inl rfl))) (aI ((aI rfl (aI rfl (aI rfl rfl)))) trivial)))
          refine satq_vc ?_
          conv => whnf
          refine ⟨_, wr64 (by omega), ?_⟩
          conv => whnf
          exact atq_next ⟨v + 1, by omega⟩ (ent_same rfl (aI rfl (aI rfl (aI rfl (aI rfl (aI rfl trivial))))) (aI ((aI rfl (Or.inl rfl))) (aI ((aI rfl (aI rfl (aI rfl rfl)))) trivial))) (by show 28 - (v + 1) < 28 - v; omega)
        · have hve : v = 28 := by simp at hc; omega
          subst hve
          conv => whnf
          refine atq_out (atq_exit ?_)
          exact atq_mid () (ent_same rfl (aI rfl (aI rfl (aI rfl (aI rfl trivial)))) (aI ((aI rfl (Or.inl rfl))) (aI ((aI rfl (aI rfl (aI rfl rfl)))) trivial)))
      refine satq_vc ?_
      conv => whnf
      refine appK_sound rfl ?_ rfl
      conv => whnf
      refine ⟨by omega, ?_⟩
      conv => whnf
      refine atq_block ?_
      exact atq_mid () (ent_drop (aI rfl (aI rfl (aI rfl trivial))) (aI ((aI rfl (Or.inl rfl))) (aI ((aI rfl (aI rfl (aI rfl (by rw [List.take_add_one, refL_get hlt, List.map_append]; rfl))))) trivial)) rfl rfl)
    refine satq_vc ?_
    conv => whnf
    refine ⟨_, wr64 (by omega), ?_⟩
    conv => whnf
    exact atq_next ⟨j + 1, by omega⟩ (ent_same rfl (aI rfl (aI rfl (aI rfl trivial))) (aI ((aI rfl (Or.inl rfl))) (aI ((aI rfl (aI rfl (aI rfl rfl)))) trivial))) (by show l.length - (j + 1) < l.length - j; omega)
  · have hje : j = l.length := by simp at hc; omega
    subst hje
    conv => whnf
    refine atq_out (atq_exit (atq_on ?_))
    refine satq_vc ?_
    conv => whnf
    refine atq_ret ?_
    conv => whnf
    refine fin_row (i := 1) rfl fun w' A c e1 e2 e3 e4 e5 => ⟨A, c, rfl, ?_, e2, e3, e4, e5⟩
    rwa [← refL_length l, List.take_length] at e1
end Go.Proofs.Ytmjfgnnefcimiaa
namespace Go.Proofs.Ytmjfgnnefcimiaa
open Go.RowKit

/-- A call that hands back a view of something new. -/
theorem call_view {P : Program} {w0 : World} {S : List Ow} {K : AV → List Ow → Prop} {fid : FuncId} {args : List AV} {us : List Value} {n : Nat} {xs : List Value} (hx : avals args = some us) (hok : fnOk P fid = true)
    (h : ∀ r w, Rel w0 Gs.nil S r w → Calls P fid us.toArray w fun e w' => ∃ A c, e = .returned (.slice A n c) ∧ SlAt w' w'.heap.size A xs ∧ n ≤ c ∧ c ≤ maxLen ∧ Fresh w.heap.size A ∧ Below w.heap.size w w')
    (hK : K (.p (.c (.row S.length))) (S ++ [.view viewT n xs])) : CallS P w0 Gs.nil fid args S K := by
  refine ⟨hok, fun r w vs hR hd => ?_⟩
  obtain rfl := avals_den hx hd
  refine (h r w hR).mono fun e w' ⟨A, c, he, hs, k1, k2, hf, hB⟩ => ?_
  refine ⟨.p (.c (.row S.length)), _, _, r.set S.length none (some (.slice A n c)), he, by simp [AV.den, Pc.den, CV.den, Env.set], hR.snoc (o := .view viewT n xs) hB (b := none) nofun (view_holds (w := w) (by simp [Env.set]) (by simp [Env.set]) hs k1 k2 trivial hf (fun k x hk => ?_)), hR.le_new _ _, hK⟩
  simp only [Env.set] at hk
  split at hk
  · cases hk
  · exact (hR.new k x hk).1
theorem slot_row {r : Env} {f : Fr} {a : Act} (hf : FDen r f a) (d : Nat) {i : Nat} {u : Value} (h : f.get d = .p (.c (.row i))) (hb : r.val i = some u) : a.tmps.getD d undef = u := by
  have := hf d
  rw [h] at this
  obtain h := (show r.val i = some (a.tmps.getD d undef) from this)
  rw [hb] at h; injection h with h; exact h.symm
set_option maxRecDepth 100000 in
theorem live_law (A : Option Addr) (n c : Nat) (xs : List Int) (q0 q1 q2 : Int) (w : World) (hs : SlAt w w.heap.size A (xs.map (.int .i64))) (hl : xs.length = n) (hnc : n ≤ c) :
    Calls Try.prog 11 #[.slice A n c, .agg #[.int .i64 q0, .int .i64 q1, .int .i64 q2]] w fun e w' => e = .returned (.bool true) ∧ Below w.heap.size w w' := by
  refine calls_satq [.slice A n c, .agg #[.int .i64 q0, .int .i64 q1, .int .i64 q2]] Try.func11 Try.ntmps11 rfl (by simp) ?_
  refine satq_seq ?_
  conv => whnf
  refine satq_seq ?_
  conv => whnf
  refine call_con rfl (by kernel_rfl) (fun r w' hR => sanity_law w') ?_
  conv => whnf
  refine satq_restart fun r w1 hR => ?_
  obtain ⟨g3, us3, b3, d3, k3⟩ := own_cellsAt hR 0 rfl
  obtain rfl := denL_vals_inv (us := [.int .i64 q0, .int .i64 q1, .int .i64 q2]) d3
  have hB0 := hR.toBelow
  refine ⟨slotFr [(0, .slice A n c), (3, .pointer (some ⟨g3, 0, none⟩)), (5, .bool true)], fun a hf => slots_den ⟨slot_val hf rfl, slot_ref hf 3 rfl b3, slot_val hf rfl, trivial⟩, ?_⟩
  have hs1 := sl_later hs hB0
  clear hR b3 d3
  refine satq_mid (α := { y : Blk // TurnOk y }) (fun y => [(5, one (.bool true)), (6, .p (.c (.ref 3 0)))]) (fun y => blkRows y.1 ++ [.cells 32 [.row 0, .row 1, .row 2]]) ?_ fun y => ?_
  · refine satq_vc ?_
    refine sat_any (.q 0 (.q 2 (.alt 1 (.alt 3 (.alt 4 (.alt 5 .done .no) .no) (.alt 4 (.alt 3 (.alt 5 .done .no) .no) .no)) (.alt 4 (.alt 1 (.alt 3 (.alt 5 .done .no) .no) .no) .no)))) mixed (by kernel_rfl) (by kernel_rfl) ?_
    conv => whnf
    refine ⟨_, k3, rfl, ?_⟩
    conv => whnf
    refine ⟨?_, ?_, trivial⟩
    · conv => whnf
      refine call_blk MadeOk (by kernel_rfl) (fun r w' us hR hd => ?_) fun b hb => ?_
      · obtain rfl := avals_den (xs := [.slice A n c]) rfl hd
        exact made_walk A n c xs w' (sl_later hs1 hR.toBelow) hl hnc
      conv => whnf
      refine ⟨?_, ?_, trivial⟩
      · conv => whnf
        refine call_turned 0 1 2 b q0 q1 q2 rfl rfl rfl hb fun y hy => ?_
        conv => whnf
        refine ⟨?_, trivial⟩
        conv => whnf
        refine ⟨?_, trivial⟩
        conv => whnf
        exact atq_mid ⟨y, hy⟩ (ent_ren [3, 4, 5, 6] (aI rfl (aI rfl trivial)) (aI ((Exists.intro _ (aI rfl (aI rfl (aI rfl (aI rfl rfl)))))) (aI ((Exists.intro _ (aI rfl (aI rfl (aI rfl (aI rfl rfl)))))) (aI ((Exists.intro _ (aI rfl (aI rfl (aI rfl (aI rfl rfl)))))) (aI ((Exists.intro _ (aI rfl (aI rfl (Or.inl rfl))))) trivial)))) rfl rfl rfl rfl rfl)
      · conv => whnf
        refine ⟨?_, trivial⟩
        conv => whnf
        refine call_turned 0 1 2 b q0 q1 q2 rfl rfl rfl hb fun y hy => ?_
        conv => whnf
        refine ⟨?_, trivial⟩
        conv => whnf
        exact atq_mid ⟨y, hy⟩ (ent_ren [4, 5, 6, 3] (aI rfl (aI rfl trivial)) (aI ((Exists.intro _ (aI rfl (aI rfl (aI rfl (aI rfl rfl)))))) (aI ((Exists.intro _ (aI rfl (aI rfl (aI rfl (aI rfl rfl)))))) (aI ((Exists.intro _ (aI rfl (aI rfl (aI rfl (aI rfl rfl)))))) (aI ((Exists.intro _ (aI rfl (aI rfl (Or.inl rfl))))) trivial)))) rfl rfl rfl rfl rfl)
    · conv => whnf
      refine ⟨?_, trivial⟩
      conv => whnf
      refine call_blk MadeOk (by kernel_rfl) (fun r w' us hR hd => ?_) fun b hb => ?_
      · obtain rfl := avals_den (xs := [.slice A n c]) rfl hd
        exact made_walk A n c xs w' (sl_later hs1 hR.toBelow) hl hnc
      conv => whnf
      refine ⟨?_, trivial⟩
      conv => whnf
      refine call_turned 1 2 3 b q0 q1 q2 rfl rfl rfl hb fun y hy => ?_
      conv => whnf
      refine ⟨?_, trivial⟩
      conv => whnf
      exact atq_mid ⟨y, hy⟩ (ent_ren [4, 5, 6, 0] (aI rfl (aI rfl trivial)) (aI ((Exists.intro _ (aI rfl (aI rfl (aI rfl (aI rfl rfl)))))) (aI ((Exists.intro _ (aI rfl (aI rfl (aI rfl (aI rfl rfl)))))) (aI ((Exists.intro _ (aI rfl (aI rfl (aI rfl (aI rfl rfl)))))) (aI ((Exists.intro _ (aI rfl (aI rfl (Or.inl rfl))))) trivial)))) rfl rfl rfl rfl rfl)
  obtain ⟨b, hb⟩ := y
  dsimp only
  refine satq_restart fun r w2 hR => ?_
  obtain ⟨g6, A1, c1, A2, c2, A3, c3, b6, k6, s1, s2, s3, m1, m2⟩ := own_blkRows hR 3 0 1 2 b rfl rfl rfl rfl
  have hB1 : Below w.heap.size w w2 := hB0.trans (hR.toBelow.mono hB0.size)
  refine ⟨slotFr [(5, .bool true), (6, .pointer (some ⟨g6, 0, none⟩))], fun a hf => slots_den ⟨slot_val hf rfl, slot_ref hf 6 rfl b6, trivial⟩, ?_⟩
  clear hR b6 k3 hs1 hs
  refine satq_seq ?_
  conv => whnf
  refine ⟨_, k6, rfl, ?_⟩
  conv => whnf
  refine call_view (n := (liveAll b).length) (xs := (liveAll b).map natV) rfl (by kernel_rfl) (fun r w' hR => live_opt b A1 A2 A3 c1 c2 c3 w' hb.ok (sl_later s2 hR.toBelow) (sl_later s3 hR.toBelow)) ?_
  conv => whnf
  refine satq_seq ?_
  conv => whnf
  refine ⟨_, k6, rfl, ?_⟩
  conv => whnf
  refine call_con rfl (by kernel_rfl) (fun r w' hR => valid_ref A1 A2 A3 c1 c2 c3 b w' hb.ok (sl_later s2 hR.toBelow) (sl_later s3 hR.toBelow)) ?_
  rw [valid_same]
  conv => whnf
  refine ⟨fun hv => ?_, fun hv => ?_⟩
  · have hv : validB b = false := by simpa using hv
    have hF : liveAll b = [] := by unfold liveAll; rw [hv]; rfl
    rw [hF]
    conv => whnf
    refine ⟨true, fun _ => ?_, ?_⟩
    · conv => whnf
      exact ⟨rfl, rfl, rfl, rfl, rfl⟩
    conv => whnf
    refine atq_ret ?_
    conv => whnf
    exact fin_val rfl fun w' hB => ⟨rfl, hB1.trans (hB.mono hB1.size)⟩
  have hv : validB b = true := by simpa using hv
  have hF : liveAll b = refL b.ops := by
    unfold liveAll; rw [hv]; exact live_eq b.ops (valid_formed hv)
  have hlen : (refL b.ops).length = b.ops.length := refL_length _
  have hlo := hb.ok.lops
  rw [hF, hlen]
  refine satq_seq ?_
  conv => whnf
  refine ⟨_, k6, rfl, ?_⟩
  conv => whnf
  refine call_view (n := b.ops.length) (xs := (refL b.ops).map natV) rfl (by kernel_rfl) (fun r w' hR => liveR_walk b.ops A1 A2 A3 b.at_.length b.pages.length c1 c2 c3 w' (sl_later s3 hR.toBelow) hlo) ?_
  conv => whnf
  refine satq_restart fun r w3 hR => ?_
  have hB2 : Below w.heap.size w w3 := hB1.trans (hR.toBelow.mono hB1.size)
  obtain ⟨u7, v7⟩ : ∃ u, r.val 0 = some u := by
    obtain ⟨A, c, h, _⟩ := hR.own 0 _ rfl
    exact ⟨_, h⟩
  obtain ⟨u8, v8⟩ : ∃ u, r.val 1 = some u := by
    obtain ⟨A, c, h, _⟩ := hR.own 1 _ rfl
    exact ⟨_, h⟩
  obtain ⟨A7, c7, rfl, s7, k71, k72, _, _⟩ := viewAt hR rfl v7
  obtain ⟨A8, c8, rfl, s8, k81, k82, _, _⟩ := viewAt hR rfl v8
  refine ⟨slotFr [(5, .bool true), (7, .slice A7 b.ops.length c7), (8, .slice A8 b.ops.length c8)], fun a hf => slots_den ⟨slot_val hf rfl, slot_row hf 7 rfl v7, slot_row hf 8 rfl v8, trivial⟩, ?_⟩
  clear hR v7 v8 k6 s1 s2 s3
  generalize hN : b.ops.length = N at *
  refine satq_seq ?_
  conv => whnf
  refine ⟨fun hc => absurd hc (by simp), fun _ => ?_⟩
  conv => whnf
  refine satq_seq ?_
  conv => whnf
  refine ⟨{ j : Nat // j ≤ N }, fun x => [(5, one (.bool true)), (7, one (.slice A7 N c7)), (8, one (.slice A8 N c8)), (34, one (.int .i64 (N : Int))), (35, one (.int .i64 (x.1 : Int)))], fun _ => [], fun x => N - x.1, ⟨⟨0, by omega⟩, ent_same rfl (aI rfl (aI rfl (aI rfl (aI rfl (aI rfl trivial))))) trivial⟩, fun x => ?_⟩
  obtain ⟨j, hj⟩ := x
  dsimp only
  conv => whnf
  refine ⟨fun hc => ?_, fun hc => ?_⟩
  · have hlt : j < N := by simpa using hc
    obtain ⟨m, hm⟩ : ∃ m, (refL b.ops)[j]? = some m := ⟨_, List.getElem?_eq_getElem (by rw [hlen]; exact hlt)⟩
    have hm' : ((refL b.ops).map natV)[j]? = some (natV m) := by rw [List.getElem?_map, hm]; rfl
    obtain ⟨b7, o7, rfl, z7, y7⟩ := s7 j _ hm'
    obtain ⟨b8, o8, rfl, z8, y8⟩ := s8 j _ hm'
    conv => whnf
    refine sat_any (.q 0 (.q 1 (.q 2 (.q 3 (.q 4 (.q 5 (.q 6 (.q 7 (.q 8 .done))))))))) mixed (by kernel_rfl) (by kernel_rfl) ?_
    conv => whnf
    refine ⟨⟨by omega, by omega⟩, ?_⟩
    conv => whnf
    refine ⟨natV m, cells_one z7 (by simp) (by show w3.cell? ⟨b7, o7 + (j : Int).toNat * 1, none⟩ = _; simpa using y7), ⟨by omega, by omega⟩, ?_⟩
    conv => whnf
    refine ⟨natV m, cells_one z8 (by simp) (by show w3.cell? ⟨b8, o8 + (j : Int).toNat * 1, none⟩ = _; simpa using y8), ?_⟩
    conv => whnf
    refine ⟨fun hc => absurd hc (by simp), fun _ => ?_⟩
    conv => whnf
    refine ⟨_, wr64 (by omega), ?_⟩
    conv => whnf
    exact ⟨⟨j + 1, by omega⟩, ent_drop (aI rfl (aI rfl (aI rfl (aI rfl (aI rfl trivial))))) trivial rfl rfl, by show N - (j + 1) < N - j; omega⟩
  · conv => whnf
    refine ⟨_, _, ent_refl, ?_⟩
    conv => whnf
    refine satq_vc ?_
    conv => whnf
    refine atq_ret ?_
    conv => whnf
    exact fin_val rfl fun w' hB => ⟨rfl, hB2.trans (hB.mono hB2.size)⟩
end Go.Proofs.Ytmjfgnnefcimiaa
namespace Go.Proofs.Ytmjfgnnefcimiaa
open Go.ChangeShapes Go.WideShapes Go.ChangeAt Go.RowKit

set_option maxRecDepth 100000 in
theorem optLive_lifted (os : Os) (started : os.Started) (H : Type) (enc : TypeId × Value → H) :
    ReturnsInHanded {} Try.checked os 11 .any (Rows.optLiveSpec.pre6 enc Try.prog Try.f11 Rows.optLiveRow.domain false) (Rows.optLiveSpec.post enc Try.prog Try.f11 false true false false) := by
  refine returnsInHanded_of_change (C := Try.checked) ownK started (by kernel_rfl) Try.func11
    (ChangeSpec.witness6 (enc := enc) (C := Try.checked) false ⟨#[], #[.slice none 0 0, .agg #[.int .i64 0, .int .i64 0, .int .i64 0]], []⟩ 8 (by kernel_rfl) (by kernel_rfl) (by kernel_rfl) (by kernel_rfl)) ?_
  intro W base args ds gs before hval0 hW hcnd _
  have hval : ∀ (j : Nat) t v, Try.f11.params[j]? = some t → args[j]? = some v → Value.okWide Try.prog W .any base t v := hval0
  have hW' := hW
  obtain ⟨p, q, hA0, hV, rfl, hfz, hnd⟩ := hW
  have hA : DataW.TrodAll enc Try.prog W 0 (fun _ => true) true Try.f11.params.toList args.toList ds p := hA0
  rw [Try.params11] at hA hval
  obtain ⟨v0, vs0, d0, ds0, p0, q0, hargs, rfl, rfl, h0, r0⟩ := trodAll_cons hA
  obtain ⟨v1, vs1, d1, ds1, p1, q1, rfl, rfl, rfl, h1, r1⟩ := trodAll_cons r0
  obtain ⟨rfl, rfl, rfl⟩ := trodAll_nil r1
  obtain rfl : args = #[v0, v1] := by cases args; simp_all
  obtain ⟨rfl, rfl⟩ := trodVars_none hV
  obtain ⟨a0, len0, cap0, rfl⟩ := okWide_slice Try.underlying22 (hval 0 22 v0 rfl rfl)
  have k0 := h0
  have k1 := h1
  have lt0 : ∀ x ∈ p0, x.block < W.heap.size := by obtain ⟨m, hm⟩ := k0; exact DataW.trod_lt m _ _ _ hm
  have lt1 : ∀ x ∈ p1, x.block < W.heap.size := by obtain ⟨m, hm⟩ := k1; exact DataW.trod_lt m _ _ _ hm
  obtain ⟨xs, w0, hl, hnc⟩ := open_sl h0
  obtain ⟨x, y, z, rfl⟩ := open_q (hval 1 23 v1 rfl rfl) h1
  clear hA0 hval0
  refine (live_law a0 len0 cap0 xs x y z W w0 hl hnc).mono fun e W' ⟨he, bel⟩ => ?_
  subst he
  exact ⟨_, rfl, _, _, _, [], _, [], hW', trodAll_mk1 (shut_bool Try.underlying4 _), (trodAll_cons_mk (Below.trod laidOutP (by kernel_rfl) (of_decide_eq_true (by kernel_rfl)) k0 bel lt0) (trodAll_cons_mk (Below.trod laidOutP (by kernel_rfl) (of_decide_eq_true (by kernel_rfl)) k1 bel lt1) trodAll_mk0)), rfl, bel.frame _, fun h => by cases h⟩
theorem optLive_holds : Rows.OptLiveSaid :=
  OpenClaim.holds_of_wide 11 Try.f11 rfl rfl rfl rfl rfl rfl rfl ⟨rfl, rfl, rfl, rfl, rfl⟩ rfl rfl rfl rfl rfl (by kernel_rfl) Try.func11 (by kernel_rfl)
    (of_decide_eq_true (by kernel_rfl)) (by unfold Func.isWrapper; first | (rw [if_pos (by decide +kernel)]; kernel_rfl) | (rw [if_neg (by decide +kernel)]; exact ⟨rfl, rfl⟩))
    (fun os started H enc _ => optLive_lifted os started H enc)
end Go.Proofs.Ytmjfgnnefcimiaa
#print axioms Go.Proofs.Ytmjfgnnefcimiaa.optLive_holds
