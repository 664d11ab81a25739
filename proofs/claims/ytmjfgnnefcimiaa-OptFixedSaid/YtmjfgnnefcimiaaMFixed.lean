/- None of Fold, Copies, Dead and Opt changes the result of Opt for a valid block: for every input, without any condition. -/
import Derived.Test.YtmjfgnnefcimiaaK1
import Derived.Test.YtmjfgnnefcimiaaK12
import Derived.Test.YtmjfgnnefcimiaaK13
import Derived.Test.YtmjfgnnefcimiaaK14
import Derived.Test.YtmjfgnnefcimiaaK15
import Derived.Test.YtmjfgnnefcimiaaK16
import Derived.Test.YtmjfgnnefcimiaaK17
import Derived.Test.YtmjfgnnefcimiaaK18
import Derived.Test.YtmjfgnnefcimiaaK19
import Derived.Test.YtmjfgnnefcimiaaK2
import Derived.Test.YtmjfgnnefcimiaaK20
import Derived.Test.YtmjfgnnefcimiaaK21
import Derived.Test.YtmjfgnnefcimiaaK22
import Derived.Test.YtmjfgnnefcimiaaK23
import Derived.Test.YtmjfgnnefcimiaaK24
import Derived.Test.YtmjfgnnefcimiaaK25
import Derived.Test.YtmjfgnnefcimiaaK26
import Derived.Test.YtmjfgnnefcimiaaK27
import Derived.Test.YtmjfgnnefcimiaaK28
import Derived.Test.YtmjfgnnefcimiaaK29
import Derived.Test.YtmjfgnnefcimiaaK3
import Derived.Test.YtmjfgnnefcimiaaK5
import Derived.Test.YtmjfgnnefcimiaaK6
namespace Go.Proofs.Ytmjfgnnefcimiaa
open Go.RowKit

set_option maxHeartbeats 400000 in
theorem observes_ref (o : BOp) (w : World) :
    Calls Try.prog 86 #[opV o] w fun e w' => e = .returned (.bool (observesB o)) ∧ Below w.heap.size w w' := by
  unfold opV
  go_enter Try.func86, Try.ntmps86
  go_wp2_with (go_at_call 82; refine (mayLeave_ref o _).mono ?_; rintro e w1 ⟨rfl, hb1⟩; obtain ⟨hc1, hf1⟩ := bcell hb1; have hz1 := hb1.size; try simp only [World.size_alloc] at hz1; have hy1_0 : w.heap.size < w1.heap.size := (by omega); have hc1_0 := fun o => hc1 (w.heap.size) o (by first | omega | (simp; done) | (simp; omega)); have hf1_0 := fun o => hf1 (w.heap.size) o (by first | omega | (simp; done) | (simp; omega)))
  all_goals go_ret
  all_goals exact ⟨by simp [observesB, *], (by repeat (first | exact Below.refl _ _ | assumption | (with_reducible refine Below.drew ?_) | (with_reducible refine below_drewN ?_ _) | (with_reducible refine Below.alloc ?_ (by first | exact Nat.le_refl _ | assumption | (simp; done) | (simp; omega) | omega) _) | (with_reducible refine Below.setCell ?_ (by first | exact Nat.le_refl _ | assumption | (simp; done) | (simp; omega) | omega) _) | (with_reducible refine below_call ?_ (by assumption) (by first | exact Nat.le_refl _ | assumption | (simp; done) | (simp; omega) | omega)) | (with_reducible refine below_only ?_ (by assumption) (by first | exact Nat.le_refl _ | assumption | (simp; done) | (simp; omega) | omega) (by first | exact Nat.le_refl _ | assumption | (simp; done) | (simp; omega) | omega))))⟩

end Go.Proofs.Ytmjfgnnefcimiaa
namespace Go.Proofs.Ytmjfgnnefcimiaa
open Go.RowKit

/-- Whether a variable is live before the first of these operations. -/
def liveAtL : List BOp → Int → Bool
  | [], _ => false
  | o :: l, v => if memI v (reads o) || (observesB o && decide (v < 19)) then true else if writes o == v then false else liveAtL l v
def neededL : List BOp → Bool
  | [] => true
  | o :: l => (!pureB o || liveAtL l o.d) && neededL l
theorem liveAtL_cons (o : BOp) (l : List BOp) (v : Int) : liveAtL (o :: l) v = (memI v (reads o) || (observesB o && decide (v < 19)) || (liveAtL l v && !(writes o == v))) := by
  show (if _ then _ else _) = _
  split
  · rename_i h; rw [h]; rfl
  · rename_i h
    have h' : (memI v (reads o) || (observesB o && decide (v < 19))) = false := by simpa using h
    rw [h', Bool.false_or]
    split
    · rename_i h2; rw [h2]; simp
    · rename_i h2; rw [show (writes o == v) = false by simpa using h2]; simp
theorem setM_bit (m k j : Nat) : (setM m k).testBit j = (m.testBit j || decide (k = j)) := by unfold setM; rw [Nat.testBit_or, Nat.testBit_two_pow]
theorem readsM_bit : ∀ (l : List Int) (m : Nat) (v : Nat), (∀ x ∈ l, 0 ≤ x) → (readsM m l).testBit v = (m.testBit v || memI (v : Int) l)
  | [], m, v, _ => by simp [readsM, memI]
  | x :: l, m, v, h => by
    have hx := h x (by simp)
    show (readsM (setM m x.toNat) l).testBit v = _
    rw [readsM_bit l _ v (fun y hy => h y (by simp [hy])), setM_bit]
    unfold memI
    rw [List.any_cons, Bool.or_assoc]
    congr 2
    rw [Bool.eq_iff_iff]; simp; omega
theorem clrM_bit {m d v : Nat} (hd : d < 32) (hv : v < 32) : (clrM m d).testBit v = (m.testBit v && !decide (d = v)) := by
  unfold clrM
  rw [Nat.testBit_and]
  have : (4294967295 - 2 ^ d).testBit v = !decide (d = v) := by
    have e : 4294967295 - 2 ^ d = 2 ^ 32 - (2 ^ d + 1) := by omega
    have h2 : 2 ^ d < 2 ^ 32 := Nat.pow_lt_pow_right (by omega) hd
    rw [e, Nat.testBit_two_pow_sub_succ h2, Nat.testBit_two_pow]
    simp [hv]
  rw [this]
theorem low19_bit (v : Nat) : (524287 : Nat).testBit v = decide (v < 19) := by
  rw [show (524287 : Nat) = 2 ^ 19 - 1 from rfl, Nat.testBit_two_pow_sub_one]
theorem writes_lt {o : BOp} (hf : formedB o = true) : writes o < 28 := by
  have := writes_var hf
  exact this
theorem beforeM_bit {o : BOp} (hf : formedB o = true) (m : Nat) {v : Nat} (hv : v < 28) : (beforeM o m).testBit v = (memI (v : Int) (reads o) || (observesB o && decide ((v : Int) < 19)) || (m.testBit v && !(writes o == (v : Int)))) := by
  have hr : ∀ x ∈ reads o, 0 ≤ x := fun x hx => (reads_var hf x hx).1
  have hw := writes_lt hf
  have hc : (if 0 ≤ writes o then clrM m (writes o).toNat else m).testBit v = (m.testBit v && !(writes o == (v : Int))) := by
    split
    · rename_i h0
      rw [clrM_bit (by omega) (by omega)]
      congr 2
      rw [Bool.eq_iff_iff]; simp; omega
    · rename_i h0
      have : (writes o == (v : Int)) = false := by rw [beq_eq_false_iff_ne]; omega
      rw [this]; simp
  have h19 : decide ((v : Int) < 19) = decide (v < 19) := by rw [decide_eq_decide]; omega
  unfold beforeM
  split
  · rename_i ho
    rw [Nat.testBit_or, readsM_bit _ _ _ hr, hc, low19_bit, ho, h19]
    cases memI (v : Int) (reads o) <;> cases decide (v < 19) <;> simp
  · rename_i ho
    have ho' : observesB o = false := by simpa using ho
    rw [readsM_bit _ _ _ hr, hc, ho']
    cases memI (v : Int) (reads o) <;> simp
/-- The mask says what is live. -/
def MaskIs (m : Nat) (l : List BOp) : Prop := ∀ v : Nat, v < 28 → m.testBit v = liveAtL l (v : Int)
theorem mask_nil : MaskIs 0 [] := fun v _ => by simp [liveAtL]
theorem mask_cons {o : BOp} (hf : formedB o = true) {m : Nat} {l : List BOp} (h : MaskIs m l) : MaskIs (beforeM o m) (o :: l) := fun v hv => by rw [beforeM_bit hf m hv, liveAtL_cons, h v hv]
theorem dead_needed : ∀ (l : List BOp) (s : DeadS), (∀ o ∈ l, formedB o = true) → MaskIs s.live s.out.reverse → neededL s.out.reverse = true → neededL (l.foldl deadStep s).out.reverse = true
  | [], s, _, _, hn => hn
  | o :: l, s, hf, hm, hn => by
    have hfo := hf o (by simp)
    have hfl : ∀ p ∈ l, formedB p = true := fun p hp => hf p (by simp [hp])
    rw [List.foldl_cons]
    by_cases hd : deadB o s.live = true
    · rw [show deadStep s o = s from if_pos hd]
      exact dead_needed l s hfl hm hn
    · rw [show deadStep s o = ⟨beforeM o s.live, s.out ++ [o]⟩ from if_neg hd]
      refine dead_needed l _ hfl ?_ ?_
      · show MaskIs (beforeM o s.live) (s.out ++ [o]).reverse
        rw [List.reverse_append]
        exact mask_cons hfo hm
      · show neededL (s.out ++ [o]).reverse = true
        rw [List.reverse_append]
        show ((!pureB o || liveAtL s.out.reverse o.d) && neededL s.out.reverse) = true
        rw [hn, Bool.and_true]
        cases hp : pureB o
        · rfl
        · obtain ⟨d0, d1⟩ := pure_formed_d hfo hp
          have hm' := hm o.d.toNat (by omega)
          rw [show ((o.d.toNat : Nat) : Int) = o.d by omega] at hm'
          have : s.live.testBit o.d.toNat = true := by
            unfold deadB at hd
            rw [hp] at hd
            simpa using hd
          rw [← hm', this]; rfl
/-- In the result of Dead every operation that only writes a variable is needed. -/
theorem dead_law {b : Blk} (hv : validB b = true) : neededL (deadAll b) = true := by
  unfold deadAll
  rw [if_pos hv]
  exact dead_needed b.ops.reverse ⟨0, []⟩ (fun o ho => valid_formed hv o (List.mem_reverse.1 ho)) mask_nil rfl
end Go.Proofs.Ytmjfgnnefcimiaa
namespace Go.Proofs.Ytmjfgnnefcimiaa
open Go.RowKit

set_option maxRecDepth 100000 in
theorem reads_has (o : BOp) (v : Int) (w : World) : Calls Try.prog 85 #[opV o, .int .i64 v] w fun e w' => e = .returned (.bool (memI v (reads o))) ∧ Below w.heap.size w w' := by
  unfold opV
  have hrl := reads_len o
  refine calls_val [.agg #[.int .i64 o.code, .int .i64 o.d, .int .i64 o.a, .int .i64 o.b, .int .u32 o.n], .int .i64 v] Try.func85 Try.ntmps85 rfl (by simp) ?_
  conv => whnf
  refine call_row rfl (by kernel_rfl) (fun r w' hR => reads_ref o w') ?_
  conv => whnf
  refine ⟨{ k : Nat // k ≤ (reads o).length ∧ memI v ((reads o).take k) = false }, fun x => [(1, one (.int .i64 v)), (5, .p (.c (.row 1))), (6, one (.int .i64 (x.1 : Int)))], fun x => [.gone, .row 3 1 (reads o).length ((reads o).map (.int .i64))], fun x => (reads o).length - x.1,
    ⟨⟨0, by omega, by simp [memI]⟩, ent_same rfl (aI rfl (aI rfl (aI rfl trivial))) (aI ((by trivial)) (aI ((aI rfl (aI rfl (aI rfl rfl)))) trivial))⟩, fun x => ?_⟩
  obtain ⟨k, hk, hm⟩ := x
  dsimp only
  conv => whnf
  refine ⟨fun hc => ?_, fun hc => ?_⟩
  · have hlt : k < (reads o).length := by simpa using hc
    obtain ⟨x, hx⟩ : ∃ x, (reads o)[k]? = some x := ⟨_, List.getElem?_eq_getElem hlt⟩
    conv => whnf
    refine ⟨⟨by omega, by omega⟩, ?_⟩
    conv => whnf
    rw [show (List.map CV.v (List.map (Value.int IntKind.i64) (reads o)))[(k : Int).toNat * tsz Try.prog 3]? = some (.v (.int .i64 x)) by
      rw [show (k : Int).toNat * tsz Try.prog 3 = k from (Nat.mul_one _).trans (Int.toNat_natCast k), List.getElem?_map, List.getElem?_map, hx]; rfl]
    conv => whnf
    have hs : memI v ((reads o).take (k + 1)) = (x == v) := by
      rw [List.take_add_one, hx]
      unfold memI at hm ⊢
      rw [List.any_append, hm]
      simp
    refine ⟨fun he => ?_, fun he => ?_⟩
    · conv => whnf
      refine ⟨_, _, ent_refl, ?_⟩
      conv => whnf
      have hall : memI v (reads o) = true := by
        unfold memI
        rw [List.any_eq_true]
        exact ⟨x, List.mem_of_getElem? hx, he⟩
      exact fin_val rfl fun w' hB => ⟨by rw [hall], hB⟩
    · conv => whnf
      refine ⟨_, wr64 (by omega), ?_⟩
      conv => whnf
      exact ⟨⟨k + 1, by omega, by rw [hs]; exact he⟩, ent_same rfl (aI rfl (aI rfl (aI rfl trivial))) (aI ((by trivial)) (aI ((aI rfl (aI rfl (aI rfl rfl)))) trivial)), by show (reads o).length - (k + 1) < (reads o).length - k; omega⟩
  · have hke : k = (reads o).length := by simp at hc; omega
    subst hke
    conv => whnf
    refine ⟨_, _, ent_refl, ?_⟩
    conv => whnf
    rw [List.take_length] at hm
    exact fin_val rfl fun w' hB => ⟨by rw [hm], hB⟩
set_option maxRecDepth 100000 in
theorem liveAt_walk (l : List BOp) (A1 A2 A3 : Option Addr) (n1 n2 c1 c2 c3 i : Nat) (v : Int) (w : World) (h3 : OpsAt w w.heap.size A3 l) (hl : l.length ≤ 1000000) (hi : i ≤ l.length) :
    Calls Try.prog 59 #[.agg #[.slice A1 n1 c1, .slice A2 n2 c2, .slice A3 l.length c3], .int .i64 (i : Int), .int .i64 v] w fun e w' => e = .returned (.bool (liveAtL (l.drop i) v)) ∧ Below w.heap.size w w' := by
  refine calls_satq [.agg #[.slice A1 n1 c1, .slice A2 n2 c2, .slice A3 l.length c3], .int .i64 (i : Int), .int .i64 v] Try.func59 Try.ntmps59 rfl (by simp) ?_
  refine satq_seq ?_
  conv => whnf
  refine satq_in ?_
  refine satq_seq ?_
  conv => whnf
  refine satq_block ?_
  refine satq_loop (α := { j : Nat // j ≤ l.length ∧ liveAtL (l.drop i) v = liveAtL (l.drop j) v }) (fun x => [(2, one (.int .i64 v)), (3, .p (.c (.ref 0 0))), (7, one (.int .i64 (x.1 : Int)))]) (fun x => [.cells 32 [.v (.slice A1 n1 c1), .v (.slice A2 n2 c2), .v (.slice A3 l.length c3)]]) (fun x => l.length - x.1)
    ⟨i, hi, rfl⟩ (ent_same rfl (aI rfl (aI rfl (aI rfl trivial))) (aI ((aI rfl (Or.inl rfl))) trivial)) fun x => ?_
  obtain ⟨j, hj, hjl⟩ := x
  dsimp only
  refine satq_seq ?_
  conv => whnf
  refine ⟨fun hc => ?_, fun hc => ?_⟩
  · have hlt : j < l.length := by simpa using hc
    obtain ⟨o, ho⟩ : ∃ o, l[j]? = some o := ⟨_, List.getElem?_eq_getElem hlt⟩
    have hstep : liveAtL (l.drop j) v = (memI v (reads o) || (observesB o && decide (v < 19)) || (liveAtL (l.drop (j + 1)) v && !(writes o == v))) := by
      have e : l[j] = o := by rw [List.getElem?_eq_getElem hlt] at ho; injection ho
      rw [List.drop_eq_getElem_cons hlt, e, liveAtL_cons]
    obtain ⟨bb, off, rfl⟩ := ops_addr h3 (by omega)
    conv => whnf
    refine satq_mid (α := { u : Unit // liveAtL (l.drop j) v = liveAtL (l.drop (j + 1)) v }) (fun _ => [(2, one (.int .i64 v)), (3, .p (.c (.ref 0 0))), (7, one (.int .i64 (j : Int)))]) (fun _ => [.cells 32 [.v (.slice A1 n1 c1), .v (.slice A2 n2 c2), .v (.slice (some ⟨bb, off, none⟩) l.length c3)]]) ?_ fun y => ?_
    · refine satq_block ?_
      refine satq_seq ?_
      conv => whnf
      refine ⟨⟨by omega, by omega⟩, ?_⟩
      conv => whnf
      refine ⟨opC o, cells_op h3 (by simp) ho, rfl, ?_⟩
      conv => whnf
      refine satq_seq ?_
      conv => whnf
      refine call_con rfl (by kernel_rfl) (fun r w' hR => reads_has o v w') ?_
      conv => whnf
      refine satq_seq ?_
      conv => whnf
      refine call_con rfl (by kernel_rfl) (fun r w' hR => observes_ref o w') ?_
      conv => whnf
      refine satq_in ?_
      refine satq_mid (α := Unit) (fun _ => [(2, one (.int .i64 v)), (3, .p (.c (.ref 0 0))), (7, one (.int .i64 (j : Int))), (8, .p (.c (.ref 1 0))), (36, one (.bool (memI v (reads o) || (observesB o && decide (v < 19)))))]) (fun _ => [.cells 32 [.v (.slice A1 n1 c1), .v (.slice A2 n2 c2), .v (.slice (some ⟨bb, off, none⟩) l.length c3)], .cells 53 ((opC o).map .v)]) ?_ fun _ => ?_
      · generalize memI v (reads o) = x
        generalize observesB o = y
        refine satq_regionU ?_
        cases x with
        | true =>
          conv => whnf
          (refine ⟨(fun h => absurd h (by decide)), fun _ => ?_⟩; (conv => whnf))
          (refine ⟨(fun h => absurd h (by decide)), fun _ => ?_⟩; (conv => whnf))
          (refine ⟨(fun h => absurd h (by decide)), fun _ => ?_⟩; (conv => whnf))
          (refine ⟨(fun h => absurd h (by decide)), fun _ => ?_⟩; (conv => whnf))
          (refine ⟨(fun h => absurd h (by decide)), fun _ => ?_⟩; (conv => whnf))
          exact atq_mid () (ent_same rfl (aI rfl (aI rfl (aI rfl (aI rfl (aI rfl trivial))))) (aI ((aI rfl (Or.inl rfl))) (aI ((aI rfl (Or.inl rfl))) trivial)))
        | false =>
          conv => whnf
          (refine ⟨fun _ => ?_, (fun h => absurd h (by decide))⟩; (conv => whnf))
          (refine ⟨fun _ => ?_, (fun h => absurd h (by decide))⟩; (conv => whnf))
          cases y with
          | true =>
            (refine ⟨fun _ => ?_, (fun h => absurd h (by decide))⟩; (conv => whnf))
            (refine ⟨fun _ => ?_, (fun h => absurd h (by decide))⟩; (conv => whnf))
            (refine ⟨fun _ => ?_, (fun h => absurd h (by decide))⟩; (conv => whnf))
            exact atq_mid () (ent_same rfl (aI rfl (aI rfl (aI rfl (aI rfl (aI ((by show one _ = one _; simp)) trivial))))) (aI ((aI rfl (Or.inl rfl))) (aI ((aI rfl (Or.inl rfl))) trivial)))
          | false =>
            (refine ⟨(fun h => absurd h (by decide)), fun _ => ?_⟩; (conv => whnf))
            (refine ⟨(fun h => absurd h (by decide)), fun _ => ?_⟩; (conv => whnf))
            (refine ⟨fun _ => ?_, (fun h => absurd h (by decide))⟩; (conv => whnf))
            exact atq_mid () (ent_same rfl (aI rfl (aI rfl (aI rfl (aI rfl (aI rfl trivial))))) (aI ((aI rfl (Or.inl rfl))) (aI ((aI rfl (Or.inl rfl))) trivial)))
      refine satq_cond rfl (fun h => ?_) (fun h => ?_)
      · refine satq_vc ?_
        conv => whnf
        refine atq_up (atq_ret (R := fun e w' => e = .returned (.bool (liveAtL (l.drop i) v)) ∧ Below w.heap.size w w') ?_) (by exact fun _ _ h => h)
        conv => whnf
        exact fin_val rfl fun w' hB => ⟨by rw [hjl, hstep, h]; rfl, hB⟩
      refine satq_skip ?_
      refine atq_on ?_
      refine satq_vc ?_
      conv => whnf
      refine call_con rfl (by kernel_rfl) (fun r w' hR => writes_ref o w') ?_
      conv => whnf
      refine ⟨fun he => ?_, fun he => ?_⟩
      · conv => whnf
        refine atq_up (atq_ret (R := fun e w' => e = .returned (.bool (liveAtL (l.drop i) v)) ∧ Below w.heap.size w w') ?_) (by exact fun _ _ h => h)
        conv => whnf
        exact fin_val rfl fun w' hB => ⟨by rw [hjl, hstep, h, he]; simp, hB⟩
      · conv => whnf
        refine atq_block ?_
        exact atq_mid ⟨(), by rw [hstep, h, he]; simp⟩ (ent_drop (aI rfl (aI rfl (aI rfl trivial))) (aI ((aI rfl (Or.inl rfl))) trivial) rfl rfl)
    refine satq_vc ?_
    conv => whnf
    refine ⟨_, wr64 (by omega), ?_⟩
    conv => whnf
    exact atq_next ⟨j + 1, by omega, by rw [hjl, y.2]⟩ (ent_same rfl (aI rfl (aI rfl (aI rfl trivial))) (aI ((aI rfl (Or.inl rfl))) trivial)) (by show l.length - (j + 1) < l.length - j; omega)
  · have hje : j = l.length := by simp at hc; omega
    subst hje
    rw [List.drop_length] at hjl
    conv => whnf
    refine atq_out (atq_exit (atq_on ?_))
    refine satq_vc ?_
    conv => whnf
    refine atq_ret ?_
    conv => whnf
    exact fin_val rfl fun w' hB => ⟨by rw [hjl]; rfl, hB⟩
theorem neededL_at : ∀ {l : List BOp} {i : Nat} {o : BOp}, l[i]? = some o → neededL (l.drop i) = ((!pureB o || liveAtL (l.drop (i + 1)) o.d) && neededL (l.drop (i + 1)))
  | [], i, o, h => by simp at h
  | x :: l, 0, o, h => by simp at h; subst h; rfl
  | x :: l, i + 1, o, h => by simpa using neededL_at (l := l) (by simpa using h)
set_option maxRecDepth 100000 in
theorem needed_walk (l : List BOp) (A1 A2 A3 : Option Addr) (n1 n2 c1 c2 c3 : Nat) (w : World) (h3 : OpsAt w w.heap.size A3 l) (hl : l.length ≤ 1000000) :
    Calls Try.prog 26 #[.agg #[.slice A1 n1 c1, .slice A2 n2 c2, .slice A3 l.length c3]] w fun e w' => e = .returned (.bool (neededL l)) ∧ Below w.heap.size w w' := by
  refine calls_val [.agg #[.slice A1 n1 c1, .slice A2 n2 c2, .slice A3 l.length c3]] Try.func26 Try.ntmps26 rfl (by simp) ?_
  conv => whnf
  refine ⟨{ j : Nat // j ≤ l.length ∧ neededL l = neededL (l.drop j) }, fun x => [(1, .p (.c (.ref 0 0))), (3, one (.int .i64 (x.1 : Int)))], fun x => [.cells 32 [.v (.slice A1 n1 c1), .v (.slice A2 n2 c2), .v (.slice A3 l.length c3)]], fun x => l.length - x.1,
    ⟨⟨0, by omega, rfl⟩, ent_same rfl (aI rfl (aI rfl trivial)) (aI ((aI rfl (Or.inl rfl))) trivial)⟩, fun x => ?_⟩
  obtain ⟨j, hj, hjl⟩ := x
  dsimp only
  conv => whnf
  refine ⟨fun hc => ?_, fun hc => ?_⟩
  · have hlt : j < l.length := by simpa using hc
    obtain ⟨o, ho⟩ : ∃ o, l[j]? = some o := ⟨_, List.getElem?_eq_getElem hlt⟩
    have hstep := neededL_at ho
    obtain ⟨bb, off, rfl⟩ := ops_addr h3 (by omega)
    conv => whnf
    refine ⟨⟨by omega, by omega⟩, ?_⟩
    conv => whnf
    refine ⟨opC o, cells_op h3 (by simp) ho, rfl, ?_⟩
    conv => whnf
    refine call_con rfl (by kernel_rfl) (fun r w' hR => pure_ref o w') ?_
    conv => whnf
    refine ⟨fun hp => ?_, fun hp => ?_⟩
    · have hp : pureB o = false := by simpa using hp
      conv => whnf
      refine ⟨_, wr64 (by omega), ?_⟩
      conv => whnf
      exact ⟨⟨j + 1, by omega, by rw [hjl, hstep, hp]; rfl⟩, ent_drop (aI rfl (aI rfl trivial)) (aI ((aI rfl (Or.inl rfl))) trivial) rfl rfl, by show l.length - (j + 1) < l.length - j; omega⟩
    have hp : pureB o = true := by simpa using hp
    conv => whnf
    refine ⟨((j + 1 : Nat) : Int), by rw [wr64 (by omega)]; omega, ?_⟩
    conv => whnf
    refine call_con (xs := [.agg #[.slice A1 n1 c1, .slice A2 n2 c2, .slice (some ⟨bb, off, none⟩) l.length c3], .int .i64 ((j + 1 : Nat) : Int), .int .i64 o.d]) rfl (by kernel_rfl) (fun r w' hR => liveAt_walk l A1 A2 (some ⟨bb, off, none⟩) n1 n2 c1 c2 c3 (j + 1) o.d w' (sl_later h3 hR.toBelow) hl (by omega)) ?_
    conv => whnf
    refine ⟨fun hv => ?_, fun hv => ?_⟩
    · have hv : liveAtL (l.drop (j + 1)) o.d = false := by simpa using hv
      conv => whnf
      refine ⟨_, _, ent_refl, ?_⟩
      conv => whnf
      exact fin_val rfl fun w' hB => ⟨by rw [hjl, hstep, hp, hv]; rfl, hB⟩
    · have hv : liveAtL (l.drop (j + 1)) o.d = true := by simpa using hv
      conv => whnf
      refine ⟨_, wr64 (by omega), ?_⟩
      conv => whnf
      exact ⟨⟨j + 1, by omega, by rw [hjl, hstep, hp, hv]; rfl⟩, ent_drop (aI rfl (aI rfl trivial)) (aI ((aI rfl (Or.inl rfl))) trivial) rfl rfl, by show l.length - (j + 1) < l.length - j; omega⟩
  · have hje : j = l.length := by simp at hc; omega
    subst hje
    rw [List.drop_length] at hjl
    conv => whnf
    refine ⟨_, _, ent_refl, ?_⟩
    conv => whnf
    exact fin_val rfl fun w' hB => ⟨by rw [hjl]; rfl, hB⟩
end Go.Proofs.Ytmjfgnnefcimiaa
namespace Go.Proofs.Ytmjfgnnefcimiaa
open Go.RowKit

section
variable {w0 : World} {S : List Ow} {K : AV → List Ow → Prop} {b : Blk} {A1 A2 A3 : Option Addr} {n1 n2 n3 c1 c2 c3 : Nat}
/-- A pass over a block in plain memory. -/
theorem call_pass_pl {P : Program} {fid : FuncId} {F : Blk → List BOp} (hp : Pass P fid F) (hok : fnOk P fid = true) (hb : b.ok) (h0 : b.ops = [] → F b = []) (hn1 : b.at_.length = n1) (hn2 : b.pages.length = n2) (hn3 : b.ops.length = n3)
    (h1 : SlAt w0 w0.heap.size A1 (b.at_.map (.int .u32))) (h2 : SlAt w0 w0.heap.size A2 (b.pages.map (.int .i64))) (h3 : OpsAt w0 w0.heap.size A3 b.ops) (hc3 : n3 ≤ c3) (hm3 : c3 ≤ maxLen)
    (hK : K (.p (.agg [.v (.slice A1 n1 c1), .v (.slice A2 n2 c2), .row S.length])) (S ++ [.view viewT (F b).length ((F b).flatMap opC)])) :
    CallS P w0 Gs.nil fid [.p (.agg [.v (.slice A1 n1 c1), .v (.slice A2 n2 c2), .v (.slice A3 n3 c3)])] S K := by
  subst hn1; subst hn2; subst hn3
  refine ⟨hok, fun r w us hR hd => ?_⟩
  obtain ⟨u1, l1, rfl, d1, d2⟩ := hd
  obtain rfl : l1 = [] := d2
  obtain rfl := AV.val_den (x := .agg #[.slice A1 b.at_.length c1, .slice A2 b.pages.length c2, .slice A3 b.ops.length c3]) rfl d1
  refine (hp b A1 A2 A3 c1 c2 c3 w hb (sl_later h1 hR.toBelow) (sl_later h2 hR.toBelow) (sl_later h3 hR.toBelow) hc3 hm3).mono fun e w' ⟨A', c', he, ho, k1, k2, k3, hB⟩ => ?_
  refine ⟨.p (.agg [.v (.slice A1 b.at_.length c1), .v (.slice A2 b.pages.length c2), .row S.length]), _, _, r.set S.length none (some (.slice A' (F b).length c')), he, ⟨[.slice A1 b.at_.length c1, .slice A2 b.pages.length c2, .slice A' (F b).length c'], rfl, ?_⟩,
    hR.snoc (o := .view viewT (F b).length ((F b).flatMap opC)) hB (b := none) nofun ⟨A', c', by simp [Env.set], k1, ⟨k2, trivial⟩, by simp [Env.set], fun j u hj => ?_⟩, hR.le_new _ _, hK⟩
  · simp only [denL, CV.den]
    exact ⟨_, _, rfl, rfl, _, _, rfl, rfl, _, _, rfl, by simp [Env.set], rfl⟩
  · obtain ⟨b', off, e4, e5, e6⟩ := ho j u hj
    refine ⟨b', off, e4, e5, fun q hq => ?_, e6⟩
    simp only [Env.set] at hq
    split at hq
    · cases hq
    · rcases k3 with k3 | rfl
      · have := k3 b' off none e4
        have := (hR.new q b' hq).1
        omega
      · have hpos : 0 < b.ops.length := by
          rcases Nat.eq_zero_or_pos b.ops.length with h | h
          · rw [h0 (List.eq_nil_of_length_eq_zero h)] at hj; simp at hj
          · exact h
        have h5 := ops_lt (e4 ▸ h3) hpos
        exact absurd ((hR.new q b' hq).2 h5) (by simp)
theorem call_blkV2 {fid : FuncId} (i : Nat) {φ : Option Addr → Prop} {n : Nat} {xs : List Value} {x : Value} {s1 s2 t1 t2 t3 : Value} (hi : S[i]? = some (.view φ n xs)) (hok : fnOk Try.prog fid = true)
    (h : ∀ r w A c, Rel w0 Gs.nil S r w → SlAt w w.heap.size A xs → n ≤ c → c ≤ maxLen → Calls Try.prog fid #[.agg #[t1, t2, t3], .agg #[s1, s2, .slice A n c]] w fun e w' => e = .returned x ∧ Below w.heap.size w w') (hK : K (AV.of x) S) :
    CallS Try.prog w0 Gs.nil fid [.p (.agg [.v t1, .v t2, .v t3]), .p (.agg [.v s1, .v s2, .row i])] S K := by
  refine callS_val x hok (fun r w us hR hd => ?_) hK
  obtain ⟨u1, l1, rfl, d1, u2, l2, rfl, d2, d3⟩ := hd
  obtain rfl : l2 = [] := d3
  obtain rfl := AV.val_den (x := .agg #[t1, t2, t3]) rfl d1
  obtain ⟨us, rfl, hl'⟩ := den_agg d2
  simp only [denL, CV.den] at hl'
  obtain ⟨u1, l1, rfl, rfl, u2, l2, rfl, rfl, u3, l3, rfl, e3, rfl⟩ := hl'
  obtain ⟨A, c, rfl, s, k1, k2, _⟩ := viewAt hR hi e3
  exact h r w A c hR s k1 k2
end
theorem sameB_self (b : Blk) : sameB b b = true := by simp [sameB]
end Go.Proofs.Ytmjfgnnefcimiaa
namespace Go.Proofs.Ytmjfgnnefcimiaa
open Go.RowKit

/-- The known value of a variable behind these operations, the last first. -/
def knownR : List BOp → Int → Option Int
  | [], _ => none
  | o :: r, v => if o.code == 20 && decide (20 ≤ v) then none else if writes o == v then (if o.code == 1 then some o.n else none) else knownR r v
/-- Whether an operation could be evaluated. -/
def evalB (r : List BOp) (o : BOp) : Bool := decide (0 < (reads o).length) && (reads o).all (fun v => (knownR r v).isSome) && (o.code == 2 || (decide (3 ≤ o.code) && decide (o.code ≤ 15)) || o.code == 23 || o.code == 25 || (o.code == 21 && (knownR r o.a).getD 0 != 0))
def foldedR : List BOp → List BOp → Bool
  | _, [] => true
  | r, o :: l => !evalB r o && foldedR (o :: r) l
def foldedL (l : List BOp) : Bool := foldedR [] l
/-- The map says what is known. -/
def KnownIs (f : Int → Option Int) (r : List BOp) : Prop := ∀ v : Int, 0 ≤ v → v < 28 → f v = knownR r v
theorem known_nil : KnownIs noneF [] := fun _ _ _ => rfl
theorem known_upd {f : Int → Option Int} {r : List BOp} (h : KnownIs f r) {p : BOp} (hp : p.code ≠ 20) (hd : p.code = 1 → 0 ≤ p.d) : KnownIs (foldUpd f p) (p :: r) := by
  intro v v0 v1
  have h20 : (p.code == 20) = false := by simp [hp]
  show _ = if _ then _ else _
  rw [h20, Bool.false_and, if_neg (by decide)]
  unfold foldUpd
  by_cases h1 : p.code = 1
  · have e1 : (p.code == 1) = true := by simp [h1]
    have hw : writes p = p.d := by unfold writes; rw [h1]; rfl
    have := hd h1
    rw [if_pos e1, if_pos e1, if_pos (by omega)]
    unfold mput mdel
    by_cases hv : v = writes p
    · rw [if_pos hv, if_pos (by simp [hv])]
    · rw [if_neg hv, if_neg hv, if_neg (by simpa using (fun e => hv e.symm))]
      exact h v v0 v1
  · have e1 : (p.code == 1) = false := by simp [h1]
    have n1 : ¬ (p.code == 1) = true := by simp [h1]
    rw [if_neg n1, if_neg n1]
    by_cases hw : 0 ≤ writes p
    · rw [if_pos hw]
      unfold mdel
      by_cases hv : v = writes p
      · rw [if_pos hv, if_pos (show (writes p == v) = true by simp [hv])]
      · rw [if_neg hv, if_neg (show ¬ (writes p == v) = true by simpa using (fun e => hv e.symm))]
        exact h v v0 v1
    · rw [if_neg hw, if_neg (show ¬ (writes p == v) = true by simp; omega)]
      exact h v v0 v1
theorem known_mark {f : Int → Option Int} {r : List BOp} (h : KnownIs f r) {o : BOp} (ho : o.code = 20) : KnownIs (foldMark f o) (o :: r) := by
  intro v v0 v1
  have h20 : (o.code == 20) = true := by simp [ho]
  have hw : writes o = -1 := by unfold writes; rw [ho]; rfl
  show _ = if _ then _ else _
  unfold foldMark
  rw [if_pos h20, h20, Bool.true_and]
  unfold fdel
  by_cases hv : 20 ≤ v
  · rw [if_pos ⟨hv, by omega⟩, if_pos (by simpa using hv)]
  · rw [if_neg (by omega), if_neg (by simpa using hv), if_neg (by rw [hw]; simp; omega)]
    exact h v v0 v1
theorem foldB_mark (f : Int → Option Int) {o : BOp} (ho : o.code = 20) : foldB f o = (o, true) := by
  unfold foldB
  have hb : isBin o.code = false := by rw [ho]; rfl
  have hm : memI o.code [3, 4, 6, 7, 8, 9, 10] = false := by rw [ho]; rfl
  rw [hb, hm, ho]
  simp
theorem foldMark_not (f : Int → Option Int) {o : BOp} (ho : o.code ≠ 20) : foldMark f o = f := by unfold foldMark; rw [if_neg (by simpa using ho)]
/-- What replaces an operation cannot be evaluated. -/
theorem foldB_not {f : Int → Option Int} {r : List BOp} (h : KnownIs f r) {o : BOp} (hf : formedB o = true) : evalB r (foldB f o).1 = false ∨ (foldB f o).2 = false := by
  have hk : ∀ v ∈ reads o, f v = knownR r v := fun v hv => h v (reads_var hf v hv).1 (reads_var hf v hv).2
  have hA : hasA o.code = true → o.a ∈ reads o := fun hA => by unfold reads; rw [hA]; simp
  have hnil : ∀ p : BOp, reads p = [] → evalB r p = false := fun p hp => by unfold evalB; rw [hp]; simp
  have hone : ∀ p : BOp, ∀ v, v ∈ reads p → (knownR r v).isSome = false → evalB r p = false := fun p v hv hn => by
    unfold evalB
    have : (reads p).all (fun v => (knownR r v).isSome) = false := by
      rw [List.all_eq_false]
      exact ⟨v, hv, by rw [hn]; decide⟩
    rw [this]; simp
  unfold foldB
  by_cases c1 : (o.code == 2 && (f o.a).isSome) = true
  · rw [if_pos c1]; exact .inl (hnil _ rfl)
  rw [if_neg c1]
  by_cases c2 : (isBin o.code && (f o.a).isSome && (f o.b).isSome) = true
  · rw [if_pos c2]; exact .inl (hnil _ rfl)
  rw [if_neg c2]
  by_cases c3 : ((f o.b).isSome && (f o.b).getD 0 == 0 && memI o.code [3, 4, 6, 7, 8, 9, 10]) = true
  · rw [if_pos c3]
    left
    simp only [Bool.and_eq_true] at c3
    have hm := c3.2
    simp only [memI, List.any_cons, List.any_nil, Bool.or_false, Bool.or_eq_true, beq_iff_eq] at hm
    have hbin : isBin o.code = true := by unfold isBin; rw [decide_eq_true_eq]; omega
    have hA' : hasA o.code = true := by unfold hasA; rw [decide_eq_true_eq]; omega
    refine hone ⟨2, o.d, o.a, 0, 0⟩ o.a (by show o.a ∈ [o.a]; simp) ?_
    rw [← hk o.a (hA hA')]
    rw [hbin, c3.1.1] at c2
    simpa using c2
  rw [if_neg c3]
  by_cases c4 : (o.code == 21 && (f o.a).isSome && (f o.a).getD 0 != 0) = true
  · rw [if_pos c4]; exact .inr rfl
  rw [if_neg c4]
  by_cases c5 : (o.code == 23 && (f o.a).isSome) = true
  · rw [if_pos c5]; exact .inl (hnil _ rfl)
  rw [if_neg c5]
  by_cases c6 : (o.code == 25 && (f o.a).isSome) = true
  · rw [if_pos c6]; exact .inl (hnil _ rfl)
  rw [if_neg c6]
  left
  by_cases e2 : o.code = 2
  · refine hone o o.a (hA (by rw [e2]; rfl)) ?_
    rw [← hk o.a (hA (by rw [e2]; rfl))]
    rw [e2] at c1; simpa using c1
  by_cases e3 : 3 ≤ o.code ∧ o.code ≤ 15
  · have hbin : isBin o.code = true := by unfold isBin; rw [decide_eq_true_eq]; omega
    have hA' : hasA o.code = true := by unfold hasA; rw [decide_eq_true_eq]; omega
    have hB' : hasB o.code = true := by unfold hasB; rw [decide_eq_true_eq]; omega
    rw [hbin, Bool.true_and] at c2
    by_cases hfa : (f o.a).isSome = true
    · rw [hfa, Bool.true_and] at c2
      have hb : o.b ∈ reads o := by
        unfold reads
        rw [hA', hB']
        by_cases hba : o.b = o.a
        · rw [hba]; simp
        · have : (o.b == o.a) = false := by simp [hba]
          rw [this]; simp
      refine hone o o.b hb ?_
      rw [← hk o.b hb]; simpa using c2
    · refine hone o o.a (hA hA') ?_
      rw [← hk o.a (hA hA')]; simpa using hfa
  by_cases e23 : o.code = 23
  · refine hone o o.a (hA (by rw [e23]; rfl)) ?_
    rw [← hk o.a (hA (by rw [e23]; rfl))]
    rw [e23] at c5; simpa using c5
  by_cases e25 : o.code = 25
  · refine hone o o.a (hA (by rw [e25]; rfl)) ?_
    rw [← hk o.a (hA (by rw [e25]; rfl))]
    rw [e25] at c6; simpa using c6
  unfold evalB
  have f2 : (o.code == 2) = false := by simp [e2]
  have f3 : (decide (3 ≤ o.code) && decide (o.code ≤ 15)) = false := by
    rw [Bool.and_eq_false_iff, decide_eq_false_iff_not, decide_eq_false_iff_not]; omega
  have f23 : (o.code == 23) = false := by simp [e23]
  have f25 : (o.code == 25) = false := by simp [e25]
  rw [f2, f3, f23, f25]
  simp only [Bool.false_or]
  by_cases e21 : o.code = 21
  · have hA' : hasA o.code = true := by rw [e21]; rfl
    have ha := hA hA'
    by_cases hfa : (f o.a).isSome = true
    · have : ((f o.a).getD 0 != 0) = false := by
        rw [e21, hfa] at c4
        simpa using c4
      rw [← hk o.a ha, this]; simp
    · exact (by
        have hz : (reads o).all (fun v => (knownR r v).isSome) = false := by
          rw [List.all_eq_false]
          exact ⟨o.a, ha, by rw [← hk o.a ha]; exact hfa⟩
        rw [hz]; simp)
  · have : (o.code == 21) = false := by simp [e21]
    rw [this]; simp
theorem foldB_code {f : Int → Option Int} {o : BOp} (hf : formedB o = true) (hk : (foldB f o).2 = true) (ho : o.code ≠ 20) : (foldB f o).1.code ≠ 20 ∧ ((foldB f o).1.code = 1 → 0 ≤ (foldB f o).1.d) := by
  have hd : hasD o.code = true → 0 ≤ o.d := fun hD => by
    unfold formedB at hf
    simp only [Bool.and_eq_true] at hf
    have := hf.1.1.1.2
    rw [hD] at this
    unfold fieldB at this
    rw [if_pos rfl, decide_eq_true_eq] at this
    exact this.1
  unfold foldB at hk ⊢
  by_cases c1 : (o.code == 2 && (f o.a).isSome) = true
  · rw [if_pos c1]
    simp only [Bool.and_eq_true, beq_iff_eq] at c1
    exact ⟨by dsimp only; omega, fun _ => hd (by rw [c1.1]; rfl)⟩
  rw [if_neg c1] at hk ⊢
  by_cases c2 : (isBin o.code && (f o.a).isSome && (f o.b).isSome) = true
  · rw [if_pos c2]
    simp only [Bool.and_eq_true] at c2
    have hb := c2.1.1
    unfold isBin at hb
    rw [decide_eq_true_eq] at hb
    exact ⟨by dsimp only; omega, fun _ => hd (by unfold hasD; rw [decide_eq_true_eq]; omega)⟩
  rw [if_neg c2] at hk ⊢
  split at hk
  · rename_i c3
    rw [if_pos c3]; exact ⟨by dsimp only; omega, fun h => by dsimp only at h; omega⟩
  rename_i c3
  rw [if_neg c3]
  split at hk
  · cases hk
  rename_i c4
  rw [if_neg c4]
  split at hk
  · rename_i c5
    rw [if_pos c5]; exact ⟨by dsimp only; omega, fun h => by dsimp only at h; omega⟩
  rename_i c5
  rw [if_neg c5]
  split at hk
  · rename_i c6
    rw [if_pos c6]; exact ⟨by dsimp only; omega, fun h => by dsimp only at h; omega⟩
  rename_i c6
  rw [if_neg c6]
  exact ⟨ho, fun h => hd (by dsimp only at h; rw [h]; rfl)⟩
theorem foldRun_folded : ∀ (l : List BOp) (f : Int → Option Int) (r : List BOp), (∀ o ∈ l, formedB o = true) → KnownIs f r → foldedR r (foldRun f l) = true
  | [], f, r, _, _ => rfl
  | o :: l, f, r, hl, h => by
    have hf := hl o (by simp)
    have hl' : ∀ p ∈ l, formedB p = true := fun p hp => hl p (by simp [hp])
    unfold foldRun
    by_cases ho : o.code = 20
    · have hkm := known_mark h ho
      rw [foldB_mark _ ho]
      dsimp only
      rw [if_pos rfl, if_neg (by rw [ho]; decide)]
      show (!evalB r o && foldedR (o :: r) _) = true
      have he : evalB r o = false := by unfold evalB reads; rw [ho]; rfl
      rw [he]
      have hu : foldUpd (foldMark f o) o = foldMark f o := by
        unfold foldUpd
        have hw : writes o = -1 := by unfold writes; rw [ho]; rfl
        rw [if_neg (by rw [ho]; decide), if_neg (by omega)]
      rw [hu]
      exact foldRun_folded l _ (o :: r) hl' hkm
    · rw [foldMark_not f ho]
      by_cases hk : (foldB f o).2 = true
      · rw [if_pos hk]
        have hn : evalB r (foldB f o).1 = false := by
          rcases foldB_not h hf with h1 | h1
          · exact h1
          · rw [hk] at h1; cases h1
        obtain ⟨hc1, hc2⟩ := foldB_code (f := f) hf hk ho
        show (!evalB r (foldB f o).1 && foldedR _ _) = true
        rw [hn]
        by_cases hx : ((foldB f o).1.code == 24) = true
        · rw [if_pos hx]; rfl
        · rw [if_neg hx]
          exact foldRun_folded l _ _ hl' (known_upd h hc1 hc2)
      · rw [if_neg hk]
        exact foldRun_folded l f r hl' h
/-- In the result of Fold nothing is left that could be evaluated. -/
theorem fold_law {b : Blk} (hv : validB b = true) : foldedL (foldAll b) = true := by
  unfold foldAll
  rw [if_pos hv]
  exact foldRun_folded b.ops noneF [] (valid_formed hv) known_nil
theorem foldRun_code : ∀ (l : List BOp) (f : Int → Option Int), (∀ o ∈ l, formedB o = true) → ∀ p ∈ foldRun f l, 1 ≤ p.code ∧ p.code ≤ 25
  | [], f, _, p, hp => by cases hp
  | o :: l, f, hl, p, hp => by
    have hf := hl o (by simp)
    have hl' : ∀ p ∈ l, formedB p = true := fun p hp => hl p (by simp [hp])
    have ho : 1 ≤ o.code ∧ o.code ≤ 25 := by
      unfold formedB at hf
      simp only [Bool.and_eq_true] at hf
      have := hf.1.1.1.1
      unfold isOp at this
      rwa [decide_eq_true_eq] at this
    have hc : (foldB (foldMark f o) o).2 = true → 1 ≤ (foldB (foldMark f o) o).1.code ∧ (foldB (foldMark f o) o).1.code ≤ 25 := fun hk => by
      unfold foldB at hk ⊢
      split at hk
      · rename_i c; rw [if_pos c]; dsimp only; omega
      rename_i c; rw [if_neg c]
      split at hk
      · rename_i c; rw [if_pos c]; dsimp only; omega
      rename_i c; rw [if_neg c]
      split at hk
      · rename_i c; rw [if_pos c]; dsimp only; omega
      rename_i c; rw [if_neg c]
      split at hk
      · cases hk
      rename_i c; rw [if_neg c]
      split at hk
      · rename_i c; rw [if_pos c]; dsimp only; omega
      rename_i c; rw [if_neg c]
      split at hk
      · rename_i c; rw [if_pos c]; dsimp only; omega
      rename_i c; rw [if_neg c]
      exact ho
    unfold foldRun at hp
    split at hp
    · rename_i hk
      rcases List.mem_cons.1 hp with rfl | hp
      · exact hc hk
      · split at hp
        · cases hp
        · exact foldRun_code l _ hl' p hp
    · exact foldRun_code l _ hl' p hp
theorem fold_codes {b : Blk} (hv : validB b = true) : ∀ p ∈ foldAll b, 1 ≤ p.code ∧ p.code ≤ 25 := by
  unfold foldAll
  rw [if_pos hv]
  exact foldRun_code b.ops noneF (valid_formed hv)
end Go.Proofs.Ytmjfgnnefcimiaa
namespace Go.Proofs.Ytmjfgnnefcimiaa
open Go.RowKit

theorem temporary_ref (v : Int) (w : World) : Calls Try.prog 84 #[.int .i64 v] w fun e w' => e = .returned (.bool (decide (20 ≤ v))) ∧ Below w.heap.size w w' := by
  refine calls_val [.int .i64 v] Try.func84 Try.ntmps84 rfl (by simp) ?_
  conv => whnf
  exact fin_val rfl fun w' hB => ⟨rfl, hB⟩
theorem take_rev {l : List BOp} {k : Nat} {o : BOp} (h : l[k]? = some o) : (l.take (k + 1)).reverse = o :: (l.take k).reverse := by rw [take_succ_of h, List.reverse_append]; rfl
def knownV (k : Option Int) : Value := .agg #[.int .u32 (k.getD 0), .bool k.isSome]
set_option maxRecDepth 100000 in
theorem knownAt_walk (l : List BOp) (A1 A2 A3 : Option Addr) (n1 n2 c1 c2 c3 i : Nat) (v : Int) (w : World) (h3 : OpsAt w w.heap.size A3 l) (hl : l.length ≤ 1000000) (hi : i ≤ l.length) :
    Calls Try.prog 56 #[.agg #[.slice A1 n1 c1, .slice A2 n2 c2, .slice A3 l.length c3], .int .i64 (i : Int), .int .i64 v] w fun e w' => e = .returned (knownV (knownR (l.take i).reverse v)) ∧ Below w.heap.size w w' := by
  refine calls_val [.agg #[.slice A1 n1 c1, .slice A2 n2 c2, .slice A3 l.length c3], .int .i64 (i : Int), .int .i64 v] Try.func56 Try.ntmps56 rfl (by simp) ?_
  conv => whnf
  refine ⟨_, wr64 (by omega), ?_⟩
  conv => whnf
  refine ⟨{ m : Nat // m ≤ i ∧ knownR (l.take i).reverse v = knownR (l.take m).reverse v }, fun x => [(2, one (.int .i64 v)), (3, .p (.c (.ref 0 0))), (6, .p (.c (.ref 1 0))), (7, one (.int .i64 ((x.1 : Int) - 1)))], fun x => [.cells 32 [.v (.slice A1 n1 c1), .v (.slice A2 n2 c2), .v (.slice A3 l.length c3)], .cells 80 [.v (.int .u32 0), .v (.bool false)]], fun x => x.1,
    ⟨⟨i, Nat.le_refl _, rfl⟩, ent_same rfl (aI rfl (aI rfl (aI rfl (aI rfl trivial)))) (aI ((aI rfl (Or.inl rfl))) (aI ((aI rfl (Or.inl rfl))) trivial))⟩, fun x => ?_⟩
  obtain ⟨m, hm, hml⟩ := x
  dsimp only
  conv => whnf
  refine ⟨fun hc => ?_, fun hc => ?_⟩
  · have hpos : 0 < m := by simp at hc; omega
    obtain ⟨k, rfl⟩ : ∃ k, m = k + 1 := ⟨m - 1, by omega⟩
    rw [show (((k + 1 : Nat) : Int) - 1) = (k : Int) by omega]
    obtain ⟨o, ho⟩ : ∃ o, l[k]? = some o := ⟨_, List.getElem?_eq_getElem (by omega)⟩
    rw [take_rev ho] at hml
    have hstep : knownR (o :: (l.take k).reverse) v = if (o.code == 20 && decide (20 ≤ v)) = true then none else if (writes o == v) = true then (if (o.code == 1) = true then some o.n else none) else knownR (l.take k).reverse v := rfl
    obtain ⟨bb, off, rfl⟩ := ops_addr h3 (by omega)
    conv => whnf
    refine ⟨⟨by omega, by omega⟩, ?_⟩
    conv => whnf
    refine ⟨opC o, cells_op h3 (by simp) ho, rfl, ?_⟩
    conv => whnf
    refine ⟨decide (20 ≤ v), fun _ => ?_, ?_⟩
    · conv => whnf
      refine call_con rfl (by kernel_rfl) (fun r w' hR => temporary_ref v w') ?_
      conv => whnf
      exact ⟨rfl, rfl, rfl, rfl, rfl⟩
    conv => whnf
    refine ⟨fun h1 => ?_, fun h1 => ?_⟩
    · conv => whnf
      refine ⟨_, _, ent_refl, ?_⟩
      conv => whnf
      exact fin_val rfl fun w' hB => ⟨by rw [hml, hstep, if_pos (show (o.code == 20 && decide (20 ≤ v)) = true from h1)]; rfl, hB⟩
    rw [if_neg (show ¬ (o.code == 20 && decide (20 ≤ v)) = true by rw [show (o.code == 20 && decide (20 ≤ v)) = false from h1]; decide)] at hstep
    conv => whnf
    refine call_con rfl (by kernel_rfl) (fun r w' hR => writes_ref o w') ?_
    conv => whnf
    refine ⟨fun h2 => ?_, fun h2 => ?_⟩
    · rw [if_pos h2] at hstep
      conv => whnf
      refine ⟨fun h4 => ?_, fun h4 => ?_⟩
      · conv => whnf
        refine ⟨_, _, ent_refl, ?_⟩
        conv => whnf
        exact fin_val rfl fun w' hB => ⟨by rw [hml, hstep, if_pos h4]; rfl, hB⟩
      · conv => whnf
        refine ⟨_, _, ent_refl, ?_⟩
        conv => whnf
        exact fin_val rfl fun w' hB => ⟨by rw [hml, hstep, if_neg (by rw [h4]; decide)]; rfl, hB⟩
    rw [if_neg (by rw [h2]; decide)] at hstep
    conv => whnf
    refine ⟨_, wr64 (by omega), ?_⟩
    conv => whnf
    exact ⟨⟨k, by omega, by rw [hml, hstep]⟩, ent_drop (aI rfl (aI rfl (aI rfl (aI rfl trivial)))) (aI ((aI rfl (Or.inl rfl))) (aI ((aI rfl (Or.inl rfl))) trivial)) rfl rfl, by show k < k + 1; omega⟩
  · have hm0 : m = 0 := by simp at hc; omega
    subst hm0
    conv => whnf
    refine ⟨_, _, ent_refl, ?_⟩
    conv => whnf
    exact fin_val rfl fun w' hB => ⟨by rw [hml]; rfl, hB⟩
/-- The codes of operations that are evaluated. -/
def evC (c : Int) (n : Int) : Bool := c == 2 || (decide (3 ≤ c) && decide (c ≤ 15)) || c == 23 || c == 25 || (c == 21 && n != 0)
theorem code_cases {c : Int} (h : 1 ≤ c ∧ c ≤ 25) : c = 1 ∨ c = 2 ∨ c = 3 ∨ c = 4 ∨ c = 5 ∨ c = 6 ∨ c = 7 ∨ c = 8 ∨ c = 9 ∨ c = 10 ∨ c = 11 ∨ c = 12 ∨ c = 13 ∨ c = 14 ∨ c = 15 ∨ c = 16 ∨ c = 17 ∨ c = 18 ∨ c = 19 ∨ c = 20 ∨ c = 21 ∨ c = 22 ∨ c = 23 ∨ c = 24 ∨ c = 25 := by omega
theorem foldedR_at : ∀ (l pre : List BOp) (i : Nat) {o : BOp}, l[i]? = some o → foldedR ((l.take i).reverse ++ pre) (l.drop i) = (!evalB ((l.take i).reverse ++ pre) o && foldedR ((l.take (i + 1)).reverse ++ pre) (l.drop (i + 1)))
  | [], pre, i, o, h => by simp at h
  | x :: l, pre, 0, o, h => by simp at h; subst h; rfl
  | x :: l, pre, i + 1, o, h => by
    have := foldedR_at l (x :: pre) i (o := o) (by simpa using h)
    simpa using this
set_option maxRecDepth 100000 in
theorem folded_walk (l : List BOp) (A1 A2 A3 : Option Addr) (n1 n2 c1 c2 c3 : Nat) (w : World) (h3 : OpsAt w w.heap.size A3 l) (hl : l.length ≤ 1000000) (hcode : ∀ o ∈ l, 1 ≤ o.code ∧ o.code ≤ 25) :
    Calls Try.prog 24 #[.agg #[.slice A1 n1 c1, .slice A2 n2 c2, .slice A3 l.length c3]] w fun e w' => e = .returned (.bool (foldedL l)) ∧ Below w.heap.size w w' := by
  refine calls_satq [.agg #[.slice A1 n1 c1, .slice A2 n2 c2, .slice A3 l.length c3]] Try.func24 Try.ntmps24 rfl (by simp) ?_
  refine satq_seq ?_
  conv => whnf
  refine satq_in ?_
  refine satq_seq ?_
  conv => whnf
  refine satq_block ?_
  refine satq_loop (α := { j : Nat // j ≤ l.length ∧ foldedL l = foldedR (l.take j).reverse (l.drop j) }) (fun x => [(1, .p (.c (.ref 0 0))), (3, one (.int .i64 (x.1 : Int)))]) (fun x => [.cells 32 [.v (.slice A1 n1 c1), .v (.slice A2 n2 c2), .v (.slice A3 l.length c3)]]) (fun x => l.length - x.1)
    ⟨0, by omega, rfl⟩ (ent_same rfl (aI rfl (aI rfl trivial)) (aI ((aI rfl (Or.inl rfl))) trivial)) fun x => ?_
  obtain ⟨j, hj, hjl⟩ := x
  dsimp only
  refine satq_seq ?_
  conv => whnf
  refine ⟨fun hc => ?_, fun hc => ?_⟩
  · have hlt : j < l.length := by simpa using hc
    obtain ⟨o, ho⟩ : ∃ o, l[j]? = some o := ⟨_, List.getElem?_eq_getElem hlt⟩
    have hstep := foldedR_at l [] j ho
    rw [List.append_nil, List.append_nil] at hstep
    obtain ⟨bb, off, rfl⟩ := ops_addr h3 (by omega)
    have hrl := reads_len o
    have hoc := hcode o (List.mem_of_getElem? ho)
    conv => whnf
    refine satq_mid (α := { u : Unit // evalB (l.take j).reverse o = false }) (fun _ => [(1, .p (.c (.ref 0 0))), (3, one (.int .i64 (j : Int)))]) (fun _ => [.cells 32 [.v (.slice A1 n1 c1), .v (.slice A2 n2 c2), .v (.slice (some ⟨bb, off, none⟩) l.length c3)]]) ?_ fun y => ?_
    · refine satq_block ?_
      refine satq_seq ?_
      conv => whnf
      refine ⟨⟨by omega, by omega⟩, ?_⟩
      conv => whnf
      refine ⟨opC o, cells_op h3 (by simp) ho, rfl, ?_⟩
      conv => whnf
      refine satq_seq ?_
      conv => whnf
      refine call_row rfl (by kernel_rfl) (fun r w' hR => reads_ref o w') ?_
      conv => whnf
      refine satq_seq ?_
      conv => whnf
      refine satq_mid (α := Unit) (fun _ => [(1, .p (.c (.ref 0 0))), (3, one (.int .i64 (j : Int))), (4, .p (.c (.ref 1 0))), (6, one (.bool (decide (0 < (reads o).length) && (reads o).all fun v => (knownR (l.take j).reverse v).isSome)))])
        (fun _ => [.cells 32 [.v (.slice A1 n1 c1), .v (.slice A2 n2 c2), .v (.slice (some ⟨bb, off, none⟩) l.length c3)], .cells 53 ((opC o).map .v)]) ?_ fun _ => ?_
      · refine satq_seq ?_
        conv => whnf
        refine satq_block ?_
        refine satq_loop (α := { k : Nat // k ≤ (reads o).length }) (fun x => [(1, .p (.c (.ref 0 0))), (3, one (.int .i64 (j : Int))), (4, .p (.c (.ref 1 0))), (5, .p (.c (.row 2))), (6, one (.bool (decide (0 < (reads o).length) && ((reads o).take x.1).all fun v => (knownR (l.take j).reverse v).isSome))), (7, one (.int .i64 (x.1 : Int)))])
          (fun x => [.cells 32 [.v (.slice A1 n1 c1), .v (.slice A2 n2 c2), .v (.slice (some ⟨bb, off, none⟩) l.length c3)], .cells 53 ((opC o).map .v), .row 3 1 (reads o).length ((reads o).map (.int .i64))]) (fun x => (reads o).length - x.1)
          ⟨0, by omega⟩ (ent_same rfl (aI rfl (aI rfl (aI rfl (aI rfl (aI ((by show one _ = one _; simp)) (aI rfl trivial)))))) (aI ((aI rfl (Or.inl rfl))) (aI ((aI rfl (Or.inl rfl))) (aI ((aI rfl (aI rfl (aI rfl rfl)))) trivial)))) fun x => ?_
        obtain ⟨k, hk⟩ := x
        dsimp only
        refine satq_seq ?_
        conv => whnf
        refine ⟨fun hc => ?_, fun hc => ?_⟩
        · have hlt2 : k < (reads o).length := by simpa using hc
          obtain ⟨v, hv⟩ : ∃ v, (reads o)[k]? = some v := ⟨_, List.getElem?_eq_getElem hlt2⟩
          conv => whnf
          refine satq_mid (α := Unit) (fun _ => [(1, .p (.c (.ref 0 0))), (3, one (.int .i64 (j : Int))), (4, .p (.c (.ref 1 0))), (5, .p (.c (.row 2))), (6, one (.bool (decide (0 < (reads o).length) && ((reads o).take (k + 1)).all fun v => (knownR (l.take j).reverse v).isSome))), (7, one (.int .i64 (k : Int)))])
            (fun _ => [.cells 32 [.v (.slice A1 n1 c1), .v (.slice A2 n2 c2), .v (.slice (some ⟨bb, off, none⟩) l.length c3)], .cells 53 ((opC o).map .v), .row 3 1 (reads o).length ((reads o).map (.int .i64))]) ?_ fun _ => ?_
          · refine satq_block ?_
            have hnext : (decide (0 < (reads o).length) && ((reads o).take (k + 1)).all fun v => (knownR (l.take j).reverse v).isSome) = ((decide (0 < (reads o).length) && ((reads o).take k).all fun v => (knownR (l.take j).reverse v).isSome) && (knownR (l.take j).reverse v).isSome) := by
              rw [List.take_add_one, hv, List.all_append, ← Bool.and_assoc]; simp
            rw [hnext]
            generalize (decide (0 < (reads o).length) && ((reads o).take k).all fun v => (knownR (l.take j).reverse v).isSome) = x
            refine satq_vc ?_
            refine sat_quiet mixed (by kernel_rfl) ?_
            cases x with
            | true =>
              conv => whnf
              (refine ⟨fun _ => ?_, (fun h => absurd h (by decide))⟩; (conv => whnf))
              (refine ⟨fun _ => ?_, (fun h => absurd h (by decide))⟩; (conv => whnf))
              (refine ⟨fun _ => ?_, (fun h => absurd h (by decide))⟩; (conv => whnf))
              (refine ⟨fun _ => ?_, (fun h => absurd h (by decide))⟩; (conv => whnf))
              (refine ⟨fun _ => ?_, (fun h => absurd h (by decide))⟩; (conv => whnf))
              refine ⟨⟨by omega, by omega⟩, ?_⟩
              conv => whnf
              (refine ⟨fun _ => ?_, (fun h => absurd h (by decide))⟩; (conv => whnf))
              rw [show (List.map CV.v (List.map (Value.int IntKind.i64) (reads o)))[(k : Int).toNat * tsz Try.prog 3]? = some (.v (.int .i64 v)) by
                rw [show (k : Int).toNat * tsz Try.prog 3 = k from (Nat.mul_one _).trans (Int.toNat_natCast k), List.getElem?_map, List.getElem?_map, hv]; rfl]
              conv => whnf
              (refine ⟨fun _ => ?_, (fun h => absurd h (by decide))⟩; (conv => whnf))
              refine q_con (xs := [.agg #[.slice A1 n1 c1, .slice A2 n2 c2, .slice (some ⟨bb, off, none⟩) l.length c3], .int .i64 (j : Int), .int .i64 v]) rfl (by kernel_rfl) (fun r w' hR => knownAt_walk l A1 A2 (some ⟨bb, off, none⟩) n1 n2 c1 c2 c3 j v w' (sl_later h3 hR.toBelow) hl hj) ?_
              conv => whnf
              (refine ⟨fun _ => ?_, (fun h => absurd h (by decide))⟩; (conv => whnf))
              refine atq_block ?_
              exact atq_mid () (ent_same rfl (aI rfl (aI rfl (aI rfl (aI rfl (aI rfl (aI rfl trivial)))))) (aI ((aI rfl (Or.inl rfl))) (aI ((aI rfl (Or.inl rfl))) (aI ((aI rfl (aI rfl (aI rfl rfl)))) trivial))))
            | false =>
              conv => whnf
              (refine ⟨(fun h => absurd h (by decide)), fun _ => ?_⟩; (conv => whnf))
              (refine ⟨(fun h => absurd h (by decide)), fun _ => ?_⟩; (conv => whnf))
              (refine ⟨(fun h => absurd h (by decide)), fun _ => ?_⟩; (conv => whnf))
              (refine ⟨(fun h => absurd h (by decide)), fun _ => ?_⟩; (conv => whnf))
              (refine ⟨(fun h => absurd h (by decide)), fun _ => ?_⟩; (conv => whnf))
              (refine ⟨(fun h => absurd h (by decide)), fun _ => ?_⟩; (conv => whnf))
              (refine ⟨(fun h => absurd h (by decide)), fun _ => ?_⟩; (conv => whnf))
              (refine ⟨(fun h => absurd h (by decide)), fun _ => ?_⟩; (conv => whnf))
              refine atq_block ?_
              exact atq_mid () (ent_same rfl (aI rfl (aI rfl (aI rfl (aI rfl (aI rfl (aI rfl trivial)))))) (aI ((aI rfl (Or.inl rfl))) (aI ((aI rfl (Or.inl rfl))) (aI ((aI rfl (aI rfl (aI rfl rfl)))) trivial))))
          refine satq_vc ?_
          conv => whnf
          refine ⟨_, wr64 (by omega), ?_⟩
          conv => whnf
          exact atq_next ⟨k + 1, by omega⟩ (ent_same rfl (aI rfl (aI rfl (aI rfl (aI rfl (aI rfl (aI rfl trivial)))))) (aI ((aI rfl (Or.inl rfl))) (aI ((aI rfl (Or.inl rfl))) (aI ((aI rfl (aI rfl (aI rfl rfl)))) trivial)))) (by show (reads o).length - (k + 1) < (reads o).length - k; omega)
        · have hke : k = (reads o).length := by simp at hc; omega
          subst hke
          conv => whnf
          refine atq_out (atq_exit ?_)
          exact atq_mid () (ent_drop (aI rfl (aI rfl (aI rfl (aI ((by show one _ = one _; rw [List.take_length])) trivial)))) (aI ((aI rfl (Or.inl rfl))) (aI ((aI rfl (Or.inl rfl))) trivial)) rfl rfl)
      refine satq_seq ?_
      conv => whnf
      refine call_con (xs := [.agg #[.slice A1 n1 c1, .slice A2 n2 c2, .slice (some ⟨bb, off, none⟩) l.length c3], .int .i64 (j : Int), .int .i64 o.a]) rfl (by kernel_rfl) (fun r w' hR => knownAt_walk l A1 A2 (some ⟨bb, off, none⟩) n1 n2 c1 c2 c3 j o.a w' (sl_later h3 hR.toBelow) hl hj) ?_
      conv => whnf
      have hev : evalB (l.take j).reverse o = ((decide (0 < (reads o).length) && (reads o).all fun v => (knownR (l.take j).reverse v).isSome) && evC o.code ((knownR (l.take j).reverse o.a).getD 0)) := rfl
      rw [hev]
      generalize hx : (decide (0 < (reads o).length) && (reads o).all fun v => (knownR (l.take j).reverse v).isSome) = x
      generalize hna : (knownR (l.take j).reverse o.a).getD 0 = na
      rw [hx, hna] at hev
      refine satq_mid (α := Unit) (fun _ => [(1, .p (.c (.ref 0 0))), (3, one (.int .i64 (j : Int))), (83, one (.bool (x && evC o.code na)))]) (fun _ => [.cells 32 [.v (.slice A1 n1 c1), .v (.slice A2 n2 c2), .v (.slice (some ⟨bb, off, none⟩) l.length c3)]]) ?_ fun _ => ?_
      · refine satq_regionU ?_
        cases x with
        | false =>
          conv => whnf
          repeat (refine ⟨(fun h => absurd h (by decide)), fun _ => ?_⟩; (conv => whnf))
          exact atq_mid () (ent_drop (aI rfl (aI rfl (aI rfl trivial))) (aI ((aI rfl (Or.inl rfl))) trivial) rfl rfl)
        | true =>
          clear hev hstep ho hjl hx hna
          obtain ⟨oc, od, oa, ob, on⟩ := o
          dsimp only at hoc ⊢
          rcases code_cases hoc with rfl | rfl | rfl | rfl | rfl | rfl | rfl | rfl | rfl | rfl | rfl | rfl | rfl | rfl | rfl | rfl | rfl | rfl | rfl | rfl | rfl | rfl | rfl | rfl | rfl
          all_goals ((conv => whnf); repeat (first | (refine ⟨fun _ => ?_, (fun h => Bool.noConfusion (show true = false from h))⟩; (conv => whnf)) | (refine ⟨(fun h => Bool.noConfusion (show false = true from h)), fun _ => ?_⟩; (conv => whnf))))
          all_goals exact atq_mid () (ent_drop (aI rfl (aI rfl (aI rfl trivial))) (aI ((aI rfl (Or.inl rfl))) trivial) rfl rfl)
      refine satq_cond rfl (fun h => ?_) (fun h => ?_)
      · refine satq_vc ?_
        conv => whnf
        refine atq_up (atq_ret (R := fun e w' => e = .returned (.bool (foldedL l)) ∧ Below w.heap.size w w') ?_) (by exact fun _ _ h => h)
        conv => whnf
        exact fin_val rfl fun w' hB => ⟨by rw [hjl, hstep, hev, h]; rfl, hB⟩
      · refine satq_skip ?_
        refine atq_block ?_
        exact atq_mid ⟨(), by rw [h]⟩ (ent_same rfl (aI rfl (aI rfl trivial)) (aI ((aI rfl (Or.inl rfl))) trivial))
    refine satq_vc ?_
    conv => whnf
    refine ⟨_, wr64 (by omega), ?_⟩
    conv => whnf
    exact atq_next ⟨j + 1, by omega, by rw [hjl, hstep, y.2]; rfl⟩ (ent_same rfl (aI rfl (aI rfl trivial)) (aI ((aI rfl (Or.inl rfl))) trivial)) (by show l.length - (j + 1) < l.length - j; omega)
  · have hje : j = l.length := by simp at hc; omega
    subst hje
    rw [List.drop_length] at hjl
    conv => whnf
    refine atq_out (atq_exit (atq_on ?_))
    refine satq_vc ?_
    conv => whnf
    refine atq_ret ?_
    conv => whnf
    exact fin_val rfl fun w' hB => ⟨by rw [hjl]; rfl, hB⟩
end Go.Proofs.Ytmjfgnnefcimiaa
namespace Go.Proofs.Ytmjfgnnefcimiaa
open Go.RowKit

/-- The variable of which v is a copy behind these operations, the last first; or -1. m: a mark has been passed; sk: what has been passed. -/
def copyF : Bool → List BOp → List BOp → Int → Int
  | _, [], _, _ => -1
  | m, o :: r, sk, v => if writes o = v then (if o.code ≠ 2 ∨ o.a = v then -1 else if m = true ∧ (20 ≤ v ∨ 20 ≤ o.a) then -1 else if (sk.any fun p => writes p == o.a) = true then -1 else o.a) else copyF (m || o.code == 20) r (o :: sk) v
def copyR (r : List BOp) (v : Int) : Int := copyF false r [] v
theorem copyF_gen : ∀ (r : List BOp) (m : Bool) (sk : List BOp) (v : Int), (∀ o ∈ r, o.code = 2 → 0 ≤ o.a) → copyF m r sk v = if copyR r v < 0 then -1 else if m = true ∧ (20 ≤ v ∨ 20 ≤ copyR r v) then -1 else if (sk.any fun p => writes p == copyR r v) = true then -1 else copyR r v
  | [], m, sk, v, _ => rfl
  | o :: r, m, sk, v, h => by
    have ho := h o (by simp)
    have hr : ∀ p ∈ r, p.code = 2 → 0 ≤ p.a := fun p hp => h p (by simp [hp])
    have e1 : copyF m (o :: r) sk v = if writes o = v then (if o.code ≠ 2 ∨ o.a = v then -1 else if m = true ∧ (20 ≤ v ∨ 20 ≤ o.a) then -1 else if (sk.any fun p => writes p == o.a) = true then -1 else o.a) else copyF (m || o.code == 20) r (o :: sk) v := rfl
    have e2 : copyR (o :: r) v = if writes o = v then (if o.code ≠ 2 ∨ o.a = v then -1 else o.a) else copyF (o.code == 20) r [o] v := by
      show copyF false (o :: r) [] v = _
      show (if writes o = v then (if o.code ≠ 2 ∨ o.a = v then -1 else if false = true ∧ (20 ≤ v ∨ 20 ≤ o.a) then -1 else if (([] : List BOp).any fun p => writes p == o.a) = true then -1 else o.a) else copyF (false || o.code == 20) r [o] v) = _
      rw [if_neg (show ¬ (false = true ∧ (20 ≤ v ∨ 20 ≤ o.a)) by simp), if_neg (show ¬ (([] : List BOp).any fun p => writes p == o.a) = true by simp), Bool.false_or]
    rw [e1]
    by_cases hw : writes o = v
    · rw [if_pos hw] at e2 ⊢
      by_cases hc : o.code ≠ 2 ∨ o.a = v
      · rw [if_pos hc] at e2 ⊢
        rw [e2]; rfl
      · rw [if_neg hc] at e2 ⊢
        have h0 := ho (by
          rcases Decidable.em (o.code = 2) with h | h
          · exact h
          · exact absurd (.inl h) hc)
        rw [e2, if_neg (show ¬ o.a < 0 by omega)]
    · rw [if_neg hw] at e2 ⊢
      rw [copyF_gen r _ _ v hr] at e2
      rw [copyF_gen r _ _ v hr]
      generalize copyR r v = w0 at e2 ⊢
      by_cases h0 : w0 < 0
      · rw [if_pos h0] at e2 ⊢
        rw [e2]; rfl
      · rw [if_neg h0] at e2 ⊢
        by_cases hk : (o.code == 20) = true
        · rw [hk] at e2 ⊢
          by_cases ht : 20 ≤ v ∨ 20 ≤ w0
          · rw [if_pos ⟨rfl, ht⟩] at e2
            rw [e2, if_pos ⟨by simp, ht⟩]; rfl
          · have n0 : ¬ (true = true ∧ (20 ≤ v ∨ 20 ≤ w0)) := fun h => ht h.2
            have n1 : ¬ ((m || true) = true ∧ (20 ≤ v ∨ 20 ≤ w0)) := fun h => ht h.2
            have n2 : ¬ (m = true ∧ (20 ≤ v ∨ 20 ≤ w0)) := fun h => ht h.2
            rw [if_neg n0] at e2
            rw [if_neg n1]
            by_cases hwo : writes o = w0
            · rw [if_pos (by simp [hwo])] at e2
              rw [e2, if_pos (show ((o :: sk).any fun p => writes p == w0) = true by simp [hwo])]; rfl
            · rw [if_neg (by simp [hwo])] at e2
              have : ((o :: sk).any fun p => writes p == w0) = (sk.any fun p => writes p == w0) := by rw [List.any_cons, show (writes o == w0) = false by simp [hwo], Bool.false_or]
              rw [e2, if_neg (show ¬ w0 < 0 from h0), if_neg n2, this]
        · have hk' : (o.code == 20) = false := by simpa using hk
          rw [hk'] at e2 ⊢
          rw [if_neg (show ¬ (false = true ∧ (20 ≤ v ∨ 20 ≤ w0)) by simp)] at e2
          rw [Bool.or_false]
          by_cases hwo : writes o = w0
          · rw [if_pos (by simp [hwo])] at e2
            rw [e2, if_pos (show ((o :: sk).any fun p => writes p == w0) = true by simp [hwo])]
            by_cases hm : m = true ∧ (20 ≤ v ∨ 20 ≤ w0)
            · rw [if_pos hm]; rfl
            · rw [if_neg hm]; rfl
          · rw [if_neg (by simp [hwo])] at e2
            rw [e2, if_neg (show ¬ w0 < 0 from h0)]
            have : ((o :: sk).any fun p => writes p == w0) = (sk.any fun p => writes p == w0) := by rw [List.any_cons, show (writes o == w0) = false by simp [hwo], Bool.false_or]
            rw [this]
theorem copyR_cons {r : List BOp} (h : ∀ o ∈ r, o.code = 2 → 0 ≤ o.a) (o : BOp) (v : Int) : copyR (o :: r) v = if writes o = v then (if o.code ≠ 2 ∨ o.a = v then -1 else o.a) else if copyR r v < 0 then -1 else if o.code = 20 ∧ (20 ≤ v ∨ 20 ≤ copyR r v) then -1 else if writes o = copyR r v then -1 else copyR r v := by
  show (if writes o = v then (if o.code ≠ 2 ∨ o.a = v then -1 else if false = true ∧ (20 ≤ v ∨ 20 ≤ o.a) then -1 else if (([] : List BOp).any fun p => writes p == o.a) = true then -1 else o.a) else copyF (false || o.code == 20) r [o] v) = _
  rw [if_neg (show ¬ (false = true ∧ (20 ≤ v ∨ 20 ≤ o.a)) by simp), if_neg (show ¬ (([] : List BOp).any fun p => writes p == o.a) = true by simp), Bool.false_or, copyF_gen r _ _ v h]
  simp only [List.any_cons, List.any_nil, Bool.or_false, beq_iff_eq]
/-- Whether no operation reads a copy, and nothing is moved to itself. -/
def copiedR : List BOp → List BOp → Bool
  | _, [] => true
  | r, o :: l => ((reads o).all fun v => decide (copyR r v < 0)) && !(o.code == 2 && o.d == o.a) && copiedR (o :: r) l
def copiedL (l : List BOp) : Bool := copiedR [] l
/-- The map says what is a copy; its values are no copies. -/
structure CopyIs (s : Int → Option Int) (r : List BOp) : Prop where
  fm : ∀ o ∈ r, o.code = 2 → 0 ≤ o.a
  some_ : ∀ v w, 0 ≤ v → v < 28 → s v = some w → copyR r v = w ∧ 0 ≤ w ∧ w < 28
  none_ : ∀ v, 0 ≤ v → v < 28 → s v = none → copyR r v < 0
  flat : ∀ v w, s v = some w → s w = none
theorem copyIs_nil : CopyIs noneF [] := ⟨nofun, nofun, fun v _ _ _ => by show (-1 : Int) < 0; omega, nofun⟩
theorem copyIs_mark {s : Int → Option Int} {r : List BOp} (h : CopyIs s r) {o : BOp} (ho : o.code = 20) : CopyIs (copyMark s o) (o :: r) := by
  have hw : writes o = -1 := by unfold writes; rw [ho]; rfl
  have hm : ∀ v, copyMark s o v = (fdel s 8 v).filter fun w => !decide (20 ≤ w) := fun v => by unfold copyMark; rw [if_pos (by simp [ho])]
  have hc : ∀ v, 0 ≤ v → copyR (o :: r) v = if copyR r v < 0 then -1 else if 20 ≤ v ∨ 20 ≤ copyR r v then -1 else copyR r v := fun v hv => by
    rw [copyR_cons h.fm, if_neg (by omega)]
    by_cases h0 : copyR r v < 0
    · rw [if_pos h0, if_pos h0]
    · rw [if_neg h0, if_neg h0]
      by_cases ht : 20 ≤ v ∨ 20 ≤ copyR r v
      · rw [if_pos ⟨ho, ht⟩, if_pos ht]
      · rw [if_neg (fun h => ht h.2), if_neg ht, if_neg (by omega)]
  refine ⟨fun p hp => ?_, fun v w v0 v1 hv => ?_, fun v v0 v1 hv => ?_, fun v w hv => ?_⟩
  · rcases List.mem_cons.1 hp with rfl | hp
    · intro h2; omega
    · exact h.fm p hp
  · rw [hm] at hv
    obtain ⟨h1, h2⟩ := Option.filter_eq_some_iff.1 hv
    unfold fdel at h1
    split at h1
    · cases h1
    · rename_i hnt
      obtain ⟨e1, e2, e3⟩ := h.some_ v w v0 v1 h1
      have h2 : ¬ 20 ≤ w := by simpa using h2
      refine ⟨?_, e2, e3⟩
      rw [hc v v0, e1, if_neg (by omega), if_neg (by omega)]
  · rw [hc v v0]
    cases hs : s v with
    | none => rw [if_pos (h.none_ v v0 v1 hs)]; omega
    | some w =>
      obtain ⟨e1, e2, e3⟩ := h.some_ v w v0 v1 hs
      rw [e1, if_neg (by omega)]
      have : 20 ≤ v ∨ 20 ≤ w := by
        rcases Decidable.em (20 ≤ v ∨ 20 ≤ w) with h1 | h1
        · exact h1
        · exfalso
          rw [hm] at hv
          unfold fdel at hv
          rw [if_neg (by omega), hs] at hv
          rw [Option.filter_some_pos (by simp; omega)] at hv
          cases hv
      rw [if_pos this]; omega
  · rw [hm] at hv ⊢
    obtain ⟨h1, h2⟩ := Option.filter_eq_some_iff.1 hv
    unfold fdel at h1
    split at h1
    · cases h1
    · have := h.flat v w h1
      unfold fdel
      split
      · rfl
      · rw [this]; rfl
theorem copyMark_not (s : Int → Option Int) {o : BOp} (ho : o.code ≠ 20) : copyMark s o = s := by unfold copyMark; rw [if_neg (by simpa using ho)]
theorem copyIs_upd {s : Int → Option Int} {r : List BOp} (h : CopyIs s r) {p : BOp} (hp : p.code ≠ 20) (hskip : copySkip p = false) (ha : p.code = 2 → 0 ≤ p.a ∧ p.a < 28 ∧ s p.a = none) : CopyIs (copyUpd s p) (p :: r) := by
  have hc : ∀ v, copyR (p :: r) v = if writes p = v then (if p.code ≠ 2 ∨ p.a = v then -1 else p.a) else if copyR r v < 0 then -1 else if writes p = copyR r v then -1 else copyR r v := fun v => by
    rw [copyR_cons h.fm]
    by_cases hw : writes p = v
    · rw [if_pos hw, if_pos hw]
    · rw [if_neg hw, if_neg hw]
      by_cases h0 : copyR r v < 0
      · rw [if_pos h0, if_pos h0]
      · rw [if_neg h0, if_neg h0, if_neg (fun h => hp h.1)]
  have hfm : ∀ o ∈ p :: r, o.code = 2 → 0 ≤ o.a := fun o ho h2 => by
    rcases List.mem_cons.1 ho with rfl | ho
    · exact (ha h2).1
    · exact h.fm o ho h2
  have hw2 : p.code = 2 → writes p = p.d := fun h2 => by unfold writes; rw [h2]; rfl
  by_cases hd : writes p < 0
  · have hu : copyUpd s p = s := by unfold copyUpd; rw [if_pos hd]
    rw [hu]
    refine ⟨hfm, fun v w v0 v1 hv => ?_, fun v v0 v1 hv => ?_, h.flat⟩
    · obtain ⟨e1, e2, e3⟩ := h.some_ v w v0 v1 hv
      rw [hc, if_neg (by omega), e1, if_neg (by omega), if_neg (by omega)]
      exact ⟨rfl, e2, e3⟩
    · rw [hc, if_neg (by omega), if_pos (h.none_ v v0 v1 hv)]; omega
  have hkS : ∀ v w, copyKill s (writes p) v = some w ↔ (v ≠ writes p ∧ s v = some w ∧ w ≠ writes p) := fun v w => by
    unfold copyKill mdel
    constructor
    · intro hv
      obtain ⟨h1, h2⟩ := Option.filter_eq_some_iff.1 hv
      split at h1
      · cases h1
      · exact ⟨by assumption, h1, by simpa using h2⟩
    · rintro ⟨h1, h2, h3⟩
      rw [if_neg h1]
      exact Option.filter_eq_some_iff.2 ⟨h2, by simpa using h3⟩
  have hkN : ∀ v, copyKill s (writes p) v = none → v ≠ writes p → s v = none ∨ s v = some (writes p) := fun v hv hne => by
    cases hs : s v with
    | none => exact .inl rfl
    | some w =>
      right
      by_cases hw : w = writes p
      · rw [hw]
      · have := (hkS v w).2 ⟨hne, hs, hw⟩
        rw [hv] at this; cases this
  have base_some : ∀ v w, 0 ≤ v → v < 28 → copyKill s (writes p) v = some w → copyR (p :: r) v = w ∧ 0 ≤ w ∧ w < 28 := fun v w v0 v1 hv => by
    obtain ⟨h1, h2, h3⟩ := (hkS v w).1 hv
    obtain ⟨e1, e2, e3⟩ := h.some_ v w v0 v1 h2
    rw [hc, if_neg (fun e => h1 e.symm), e1, if_neg (by omega), if_neg (fun e => h3 e.symm)]
    exact ⟨rfl, e2, e3⟩
  have base_none : ∀ v, 0 ≤ v → v < 28 → v ≠ writes p → copyKill s (writes p) v = none → copyR (p :: r) v < 0 := fun v v0 v1 hne hv => by
    rw [hc, if_neg (fun e => hne e.symm)]
    rcases hkN v hv hne with h1 | h1
    · rw [if_pos (h.none_ v v0 v1 h1)]; omega
    · obtain ⟨e1, e2, e3⟩ := h.some_ v _ v0 v1 h1
      rw [e1, if_neg (by omega), if_pos rfl]; omega
  by_cases h2 : p.code = 2
  · have hu : copyUpd s p = mput (copyKill s (writes p)) (writes p) p.a := by unfold copyUpd; rw [if_neg hd, if_pos (by simp [h2])]
    obtain ⟨a0, a1, a2⟩ := ha h2
    have hne : p.a ≠ writes p := fun e => by
      unfold copySkip at hskip
      rw [h2, e, hw2 h2] at hskip
      simp at hskip
    rw [hu]
    refine ⟨hfm, fun v w v0 v1 hv => ?_, fun v v0 v1 hv => ?_, fun v w hv => ?_⟩
    · unfold mput at hv
      split at hv
      · rename_i hvd
        injection hv with hv; subst hv
        rw [hc, if_pos hvd.symm, if_neg (by rw [hvd]; intro h; rcases h with h | h; exact h h2; exact hne h)]
        exact ⟨rfl, a0, a1⟩
      · exact base_some v w v0 v1 hv
    · unfold mput at hv
      split at hv
      · cases hv
      · rename_i hvd
        exact base_none v v0 v1 hvd hv
    · unfold mput at hv ⊢
      split at hv
      · injection hv with hv; subst hv
        rw [if_neg hne]
        cases hk : copyKill s (writes p) p.a with
        | none => rfl
        | some u => have := ((hkS _ u).1 hk).2.1; rw [a2] at this; cases this
      · obtain ⟨k1, k2, k3⟩ := (hkS v w).1 hv
        rw [if_neg k3]
        cases hk : copyKill s (writes p) w with
        | none => rfl
        | some u => have := ((hkS _ u).1 hk).2.1; rw [h.flat v w k2] at this; cases this
  · have hu : copyUpd s p = copyKill s (writes p) := by unfold copyUpd; rw [if_neg hd, if_neg (by simp [h2])]
    rw [hu]
    refine ⟨hfm, fun v w v0 v1 hv => base_some v w v0 v1 hv, fun v v0 v1 hv => ?_, fun v w hv => ?_⟩
    · by_cases hvd : v = writes p
      · rw [hc, if_pos hvd.symm, if_pos (.inl h2)]; omega
      · exact base_none v v0 v1 hvd hv
    · obtain ⟨k1, k2, k3⟩ := (hkS v w).1 hv
      cases hk : copyKill s (writes p) w with
      | none => rfl
      | some u => have := ((hkS _ u).1 hk).2.1; rw [h.flat v w k2] at this; cases this
/-- What an operand is replaced by. -/
theorem orig_ok {s : Int → Option Int} {r : List BOp} (h : CopyIs s r) {v : Int} (v0 : 0 ≤ v) (v1 : v < 28) : copyR r (origS s true v) < 0 ∧ 0 ≤ origS s true v ∧ origS s true v < 28 ∧ s (origS s true v) = none := by
  unfold origS
  cases hs : s v with
  | none => simp; exact ⟨h.none_ v v0 v1 hs, v0, v1, hs⟩
  | some w =>
    simp
    obtain ⟨e1, e2, e3⟩ := h.some_ v w v0 v1 hs
    exact ⟨h.none_ w e2 e3 (h.flat v w hs), e2, e3, h.flat v w hs⟩
theorem two_hasB (c : Int) : twoB c = hasB c := by
  unfold twoB hasB isBin
  rw [Bool.eq_iff_iff]; simp; omega
theorem copyRun_copied : ∀ (l : List BOp) (s : Int → Option Int) (r : List BOp), (∀ o ∈ l, formedB o = true) → CopyIs s r → copiedR r (copyRun s l) = true
  | [], s, r, _, _ => rfl
  | o :: l, s, r, hl, h => by
    have hf := hl o (by simp)
    have hl' : ∀ p ∈ l, formedB p = true := fun p hp => hl p (by simp [hp])
    unfold copyRun
    by_cases ho : o.code = 20
    · have hm := copyIs_mark h ho
      have hA : hasA o.code = false := by rw [ho]; rfl
      have hT : twoB o.code = false := by rw [ho]; rfl
      have he : copyOp (copyMark s o) o = o := by
        unfold copyOp
        rw [hT, show (o.code != 20) = false by simp [ho], Bool.and_false]
        rfl
      have hs : copySkip o = false := by unfold copySkip; rw [ho]; rfl
      have hu : copyUpd (copyMark s o) o = copyMark s o := by
        unfold copyUpd
        have hw : writes o = -1 := by unfold writes; rw [ho]; rfl
        rw [if_pos (by omega)]
      rw [he, if_neg (by rw [hs]; decide), hu]
      show (((reads o).all fun v => decide (copyR r v < 0)) && !(o.code == 2 && o.d == o.a) && copiedR (o :: r) _) = true
      have hr : reads o = [] := by unfold reads; rw [ho]; rfl
      rw [hr, show (o.code == 2) = false by simp [ho], copyRun_copied l _ _ hl' hm]; rfl
    · rw [copyMark_not s ho]
      by_cases hs : copySkip (copyOp s o) = true
      · rw [if_pos hs]
        exact copyRun_copied l s r hl' h
      · rw [if_neg hs]
        have hs' : copySkip (copyOp s o) = false := by simpa using hs
        have hmem : hasA o.code = true → memI o.a (reads o) = true := fun hA => by unfold memI reads; rw [hA]; simp
        have hfa : hasA o.code = true → 0 ≤ o.a ∧ o.a < 28 := fun hA => reads_var hf o.a (by unfold reads; rw [hA]; simp)
        have hfb : hasB o.code = true → 0 ≤ o.b ∧ o.b < 28 := fun hB => by
          have hA : hasA o.code = true := by unfold hasB at hB; unfold hasA; rw [decide_eq_true_eq] at hB ⊢; omega
          by_cases hba : o.b = o.a
          · rw [hba]; exact hfa hA
          · exact reads_var hf o.b (by unfold reads; rw [hA, hB, show (o.b == o.a) = false by simp [hba]]; simp)
        have ea : hasA o.code = true → (copyOp s o).a = origS s true o.a := fun hA => by
          show origS s (memI o.a (reads o) && o.code != 20) o.a = _
          rw [hmem hA, show (o.code != 20) = true by simp [ho]]; rfl
        have eb : hasB o.code = true → (copyOp s o).b = origS s true o.b := fun hB => by
          show origS s (twoB o.code) o.b = _
          rw [two_hasB, hB]
        have hread : ∀ v ∈ reads (copyOp s o), copyR r v < 0 := fun v hv => by
          unfold reads at hv
          rcases List.mem_append.1 hv with hv | hv
          · split at hv
            · rename_i hA
              have hA : hasA o.code = true := hA
              simp at hv
              rw [hv, ea hA]
              exact (orig_ok h (hfa hA).1 (hfa hA).2).1
            · cases hv
          · split at hv
            · rename_i hB
              simp only [Bool.and_eq_true] at hB
              have hB : hasB o.code = true := hB.1
              simp at hv
              rw [hv, eb hB]
              exact (orig_ok h (hfb hB).1 (hfb hB).2).1
            · cases hv
        show (((reads (copyOp s o)).all fun v => decide (copyR r v < 0)) && !((copyOp s o).code == 2 && (copyOp s o).d == (copyOp s o).a) && copiedR (copyOp s o :: r) _) = true
        have h1 : ((reads (copyOp s o)).all fun v => decide (copyR r v < 0)) = true := by
          rw [List.all_eq_true]
          exact fun v hv => decide_eq_true (hread v hv)
        have h2 : ((copyOp s o).code == 2 && (copyOp s o).d == (copyOp s o).a) = false := hs'
        rw [h1, h2]
        exact copyRun_copied l _ _ hl' (copyIs_upd h (p := copyOp s o) ho hs' (fun h2 => by
          have h2 : o.code = 2 := h2
          have hA : hasA o.code = true := by rw [h2]; rfl
          rw [ea hA]
          have := orig_ok h (hfa hA).1 (hfa hA).2
          exact ⟨this.2.1, this.2.2.1, this.2.2.2⟩))
/-- In the result of Copies no operation reads a copy, and nothing is moved to itself. -/
theorem copy_law {b : Blk} (hv : validB b = true) : copiedL (copyAll b) = true := by
  unfold copyAll
  rw [if_pos hv]
  exact copyRun_copied b.ops noneF [] (valid_formed hv) copyIs_nil
end Go.Proofs.Ytmjfgnnefcimiaa
namespace Go.Proofs.Ytmjfgnnefcimiaa
open Go.RowKit

/-- The search for the last writing operation, under way. -/
structure CpAtSt (l : List BOp) (i : Nat) (v : Int) where
  m : Nat
  mq : Bool
  hm : m ≤ i
  h : copyR (l.take i).reverse v = copyF mq (l.take m).reverse ((l.take i).drop m) v
theorem drop_take_cons {l : List BOp} {i k : Nat} {o : BOp} (h : l[k]? = some o) (hk : k < i) : (l.take i).drop k = o :: (l.take i).drop (k + 1) := by
  have hl : k < (l.take i).length := by
    rw [List.length_take]
    rcases Nat.lt_or_ge k l.length with h1 | h1
    · omega
    · rw [List.getElem?_eq_none h1] at h; cases h
  rw [List.drop_eq_getElem_cons hl]
  have : (l.take i)[k] = o := by
    have e := List.getElem?_take_of_lt (l := l) hk
    rw [h, List.getElem?_eq_getElem hl] at e
    injection e
  rw [this]
set_option maxRecDepth 100000 in
theorem copyAt_walk (l : List BOp) (A1 A2 A3 : Option Addr) (n1 n2 c1 c2 c3 i : Nat) (v : Int) (w : World) (h3 : OpsAt w w.heap.size A3 l) (hl : l.length ≤ 1000000) (hi : i ≤ l.length) :
    Calls Try.prog 57 #[.agg #[.slice A1 n1 c1, .slice A2 n2 c2, .slice A3 l.length c3], .int .i64 (i : Int), .int .i64 v] w fun e w' => e = .returned (.int .i64 (copyR (l.take i).reverse v)) ∧ Below w.heap.size w w' := by
  refine calls_satq [.agg #[.slice A1 n1 c1, .slice A2 n2 c2, .slice A3 l.length c3], .int .i64 (i : Int), .int .i64 v] Try.func57 Try.ntmps57 rfl (by simp) ?_
  refine satq_seq ?_
  conv => whnf
  refine satq_seq ?_
  conv => whnf
  refine satq_seq ?_
  conv => whnf
  refine ⟨_, wr64 (by omega), ?_⟩
  conv => whnf
  refine satq_mid (α := { x : CpAtSt l i v // x.m = 0 ∨ ∃ o, l[x.m - 1]? = some o ∧ writes o = v }) (fun x => [(1, one (.int .i64 (i : Int))), (2, one (.int .i64 v)), (3, .p (.c (.ref 0 0))), (7, one (.bool x.1.mq)), (8, one (.int .i64 ((x.1.m : Int) - 1)))]) (fun x => [.cells 32 [.v (.slice A1 n1 c1), .v (.slice A2 n2 c2), .v (.slice A3 l.length c3)]]) ?_ fun x => ?_
  · refine satq_block ?_
    refine satq_loop (α := CpAtSt l i v) (fun x => [(1, one (.int .i64 (i : Int))), (2, one (.int .i64 v)), (3, .p (.c (.ref 0 0))), (7, one (.bool x.mq)), (8, one (.int .i64 ((x.m : Int) - 1)))]) (fun x => [.cells 32 [.v (.slice A1 n1 c1), .v (.slice A2 n2 c2), .v (.slice A3 l.length c3)]]) (fun x => x.m)
      ⟨i, false, Nat.le_refl _, by rw [List.drop_eq_nil_of_le (by rw [List.length_take]; omega)]; rfl⟩ (ent_same rfl (aI rfl (aI rfl (aI rfl (aI rfl (aI rfl trivial))))) (aI ((aI rfl (Or.inl rfl))) trivial)) fun x => ?_
    obtain ⟨m, mq, hm, hx⟩ := x
    dsimp only
    by_cases h0 : m = 0
    · subst h0
      refine satq_seq ?_
      conv => whnf
      refine ⟨false, fun h => absurd h (by simp), ?_⟩
      conv => whnf
      refine ⟨fun h => absurd h (by simp [cmb]), fun _ => ?_⟩
      conv => whnf
      refine atq_out (atq_exit ?_)
      exact atq_mid ⟨⟨0, mq, hm, hx⟩, .inl rfl⟩ (ent_same rfl (aI rfl (aI rfl (aI rfl (aI rfl (aI rfl trivial))))) (aI ((aI rfl (Or.inl rfl))) trivial))
    · obtain ⟨k, rfl⟩ : ∃ k, m = k + 1 := ⟨m - 1, by omega⟩
      rw [show (((k + 1 : Nat) : Int) - 1) = (k : Int) by omega]
      obtain ⟨o, ho⟩ : ∃ o, l[k]? = some o := ⟨_, List.getElem?_eq_getElem (by omega)⟩
      obtain ⟨bb, off, rfl⟩ := ops_addr h3 (by omega)
      refine satq_seq ?_
      conv => whnf
      refine ⟨writes o != v, fun _ => ?_, ?_⟩
      · conv => whnf
        refine ⟨⟨by omega, by omega⟩, ?_⟩
        conv => whnf
        refine ⟨opC o, cells_op h3 (by simp) ho, rfl, ?_⟩
        conv => whnf
        refine call_con rfl (by kernel_rfl) (fun r w' hR => writes_ref o w') ?_
        conv => whnf
        exact ⟨rfl, rfl, rfl, rfl, rfl⟩
      conv => whnf
      refine ⟨fun hc => ?_, fun hc => ?_⟩
      · have hw : writes o ≠ v := by
          have h2 : (decide ((k : Int) ≥ 0) && (writes o != v)) = true := hc
          simp at h2; exact h2
        conv => whnf
        refine satq_vc ?_
        conv => whnf
        refine ⟨o.code == 20, fun _ => ?_, ?_⟩
        · conv => whnf
          refine ⟨⟨by omega, by omega⟩, ?_⟩
          conv => whnf
          refine ⟨.int .i64 o.code, ?_, ?_⟩
          · have := cells_op (G := Gs.nil) h3 (by simp) ho
            exact cells_one this.1 (by simp) (this.2.2 0 _ rfl)
          conv => whnf
          exact ⟨rfl, rfl, rfl, rfl, rfl⟩
        conv => whnf
        refine ⟨_, wr64 (by omega), ?_⟩
        conv => whnf
        refine atq_next ⟨k, mq || o.code == 20, by omega, ?_⟩ (ent_same rfl (aI rfl (aI rfl (aI rfl (aI rfl (aI rfl trivial))))) (aI ((aI rfl (Or.inl rfl))) trivial)) (by show k < k + 1; omega)
        rw [hx, take_rev ho, drop_take_cons ho (by omega)]
        show (if writes o = v then _ else copyF (mq || o.code == 20) (l.take k).reverse (o :: (l.take i).drop (k + 1)) v) = _
        rw [if_neg hw]
      · have hw : writes o = v := by
          have h2 : (decide ((k : Int) ≥ 0) && (writes o != v)) = false := hc
          simp at h2; exact h2
        conv => whnf
        refine atq_out (atq_exit ?_)
        exact atq_mid ⟨⟨k + 1, mq, hm, hx⟩, .inr ⟨o, ho, hw⟩⟩ (ent_same rfl (aI rfl (aI rfl (aI rfl (aI rfl (aI ((by show one _ = one _; rw [show (((k + 1 : Nat) : Int) - 1) = (k : Int) by omega])) trivial))))) (aI ((aI rfl (Or.inl rfl))) trivial))
  obtain ⟨⟨m, mq, hm, hx⟩, hend⟩ := x
  dsimp only at hend ⊢
  by_cases h0 : m = 0
  · subst h0
    have hres : copyR (l.take i).reverse v = -1 := by rw [hx]; rfl
    refine satq_seq ?_
    conv => whnf
    refine ⟨false, fun h => absurd h (by simp), ?_⟩
    conv => whnf
    refine ⟨false, fun h => absurd h (by simp [cmb]), ?_⟩
    conv => whnf
    refine ⟨fun _ => ?_, fun h => absurd h (by simp [cmb])⟩
    conv => whnf
    refine atq_ret ?_
    conv => whnf
    exact fin_val rfl fun w' hB => ⟨by rw [hres], hB⟩
  obtain ⟨k, rfl⟩ : ∃ k, m = k + 1 := ⟨m - 1, by omega⟩
  rw [show (((k + 1 : Nat) : Int) - 1) = (k : Int) by omega]
  obtain ⟨o, ho, hw⟩ : ∃ o, l[k]? = some o ∧ writes o = v := by
    rcases hend with h | h
    · omega
    · exact h
  obtain ⟨bb, off, rfl⟩ := ops_addr h3 (by omega)
  have hopc := cells_op (G := Gs.nil) h3 (by simp) ho
  have hres : copyR (l.take i).reverse v = if o.code ≠ 2 ∨ o.a = v then -1 else if mq = true ∧ (20 ≤ v ∨ 20 ≤ o.a) then -1 else if (((l.take i).drop (k + 1)).any fun p => writes p == o.a) = true then -1 else o.a := by
    rw [hx, take_rev ho]
    show (if writes o = v then _ else _) = _
    rw [if_pos hw]
  refine satq_seq ?_
  conv => whnf
  refine ⟨o.code != 2, fun _ => ?_, ?_⟩
  · conv => whnf
    refine ⟨⟨by omega, by omega⟩, ?_⟩
    conv => whnf
    refine ⟨.int .i64 o.code, cells_one hopc.1 (by simp) (hopc.2.2 0 _ rfl), ?_⟩
    conv => whnf
    exact ⟨rfl, rfl, rfl, rfl, rfl⟩
  conv => whnf
  refine ⟨o.a == v, fun _ => ?_, ?_⟩
  · conv => whnf
    refine ⟨⟨by omega, by omega⟩, ?_⟩
    conv => whnf
    refine ⟨.int .i64 o.a, cells_one hopc.1 (by simp) (hopc.2.2 2 _ rfl), ?_⟩
    conv => whnf
    exact ⟨rfl, rfl, rfl, rfl, rfl⟩
  conv => whnf
  have hcm : cmb false (cmb false (decide ((k : Int) < 0)) (o.code != 2)) (o.a == v) = ((o.code != 2) || (o.a == v)) := by
    show ((decide ((k : Int) < 0) || (o.code != 2)) || (o.a == v)) = _
    rw [show decide ((k : Int) < 0) = false by simp, Bool.false_or]
  rw [hcm]
  refine ⟨fun h => ?_, fun h => ?_⟩
  · have h2 : o.code ≠ 2 ∨ o.a = v := by simpa using h
    conv => whnf
    refine atq_ret ?_
    conv => whnf
    exact fin_val rfl fun w' hB => ⟨by rw [hres, if_pos h2], hB⟩
  have h2 : ¬ (o.code ≠ 2 ∨ o.a = v) := by simpa using h
  rw [if_neg h2] at hres
  conv => whnf
  refine satq_seq ?_
  conv => whnf
  refine ⟨⟨by omega, by omega⟩, ?_⟩
  conv => whnf
  refine ⟨.int .i64 o.a, cells_one hopc.1 (by simp) (hopc.2.2 2 _ rfl), ?_⟩
  conv => whnf
  refine satq_in ?_
  refine satq_mid (α := Unit) (fun _ => [(1, one (.int .i64 (i : Int))), (3, .p (.c (.ref 0 0))), (8, one (.int .i64 (k : Int))), (9, one (.int .i64 o.a)), (72, one (.bool (mq && (decide (20 ≤ v) || decide (20 ≤ o.a)))))]) (fun _ => [.cells 32 [.v (.slice A1 n1 c1), .v (.slice A2 n2 c2), .v (.slice (some ⟨bb, off, none⟩) l.length c3)]]) ?_ fun _ => ?_
  · clear hres hx
    refine satq_regionU ?_
    cases mq with
    | false =>
      conv => whnf
      repeat (refine ⟨(fun h => Bool.noConfusion (show false = true from h)), fun _ => ?_⟩; (conv => whnf))
      exact atq_mid () (ent_same rfl (aI rfl (aI rfl (aI rfl (aI rfl (aI rfl trivial))))) (aI ((aI rfl (Or.inl rfl))) trivial))
    | true =>
      conv => whnf
      (refine ⟨fun _ => ?_, (fun h => Bool.noConfusion (show true = false from h))⟩; (conv => whnf))
      (refine ⟨fun _ => ?_, (fun h => Bool.noConfusion (show true = false from h))⟩; (conv => whnf))
      refine call_con rfl (by kernel_rfl) (fun r w' hR => temporary_ref v w') ?_
      conv => whnf
      (refine ⟨fun _ => ?_, (fun h => Bool.noConfusion (show true = false from h))⟩; (conv => whnf))
      generalize decide (20 ≤ v) = t
      cases t with
      | true =>
        (refine ⟨(fun h => Bool.noConfusion (show false = true from h)), fun _ => ?_⟩; (conv => whnf))
        (refine ⟨(fun h => Bool.noConfusion (show false = true from h)), fun _ => ?_⟩; (conv => whnf))
        (refine ⟨fun _ => ?_, (fun h => Bool.noConfusion (show true = false from h))⟩; (conv => whnf))
        exact atq_mid () (ent_same rfl (aI rfl (aI rfl (aI rfl (aI rfl (aI rfl trivial))))) (aI ((aI rfl (Or.inl rfl))) trivial))
      | false =>
        (refine ⟨fun _ => ?_, (fun h => Bool.noConfusion (show true = false from h))⟩; (conv => whnf))
        (refine ⟨fun _ => ?_, (fun h => Bool.noConfusion (show true = false from h))⟩; (conv => whnf))
        refine call_con rfl (by kernel_rfl) (fun r w' hR => temporary_ref o.a w') ?_
        conv => whnf
        (refine ⟨fun _ => ?_, (fun h => Bool.noConfusion (show true = false from h))⟩; (conv => whnf))
        exact atq_mid () (ent_same rfl (aI rfl (aI rfl (aI rfl (aI rfl (aI rfl trivial))))) (aI ((aI rfl (Or.inl rfl))) trivial))
  refine satq_cond rfl (fun h => ?_) (fun h => ?_)
  · have h4 : mq = true ∧ (20 ≤ v ∨ 20 ≤ o.a) := by simpa using h
    refine satq_vc ?_
    conv => whnf
    refine atq_up (atq_ret (R := fun e w' => e = .returned (.int .i64 (copyR (l.take i).reverse v)) ∧ Below w.heap.size w w') ?_) (by exact fun _ _ h => h)
    conv => whnf
    exact fin_val rfl fun w' hB => ⟨by rw [hres, if_pos h4], hB⟩
  have h4 : ¬ (mq = true ∧ (20 ≤ v ∨ 20 ≤ o.a)) := by
    intro h5
    have : (mq && (decide (20 ≤ v) || decide (20 ≤ o.a))) = true := by simpa using h5
    rw [h] at this; cases this
  rw [if_neg h4] at hres
  refine satq_skip ?_
  refine atq_on ?_
  refine satq_in ?_
  refine satq_seq ?_
  conv => whnf
  refine ⟨((k + 1 : Nat) : Int), by rw [wr64 (by omega)]; omega, ?_⟩
  conv => whnf
  refine satq_block ?_
  refine satq_loop (α := { z : Nat // k + 1 ≤ z ∧ z ≤ i ∧ (((l.take z).drop (k + 1)).any fun p => writes p == o.a) = false }) (fun x => [(1, one (.int .i64 (i : Int))), (3, .p (.c (.ref 0 0))), (9, one (.int .i64 o.a)), (10, one (.int .i64 (x.1 : Int)))]) (fun x => [.cells 32 [.v (.slice A1 n1 c1), .v (.slice A2 n2 c2), .v (.slice (some ⟨bb, off, none⟩) l.length c3)]]) (fun x => i - x.1)
    ⟨k + 1, Nat.le_refl _, hm, by rw [List.drop_eq_nil_of_le (by rw [List.length_take]; omega)]; rfl⟩ (ent_same rfl (aI rfl (aI rfl (aI rfl (aI rfl trivial)))) (aI ((aI rfl (Or.inl rfl))) trivial)) fun x => ?_
  obtain ⟨z, z1, z2, hz⟩ := x
  dsimp only
  refine satq_seq ?_
  conv => whnf
  refine ⟨fun hc => ?_, fun hc => ?_⟩
  · have hlt : z < i := by simpa using hc
    obtain ⟨p, hp⟩ : ∃ p, l[z]? = some p := ⟨_, List.getElem?_eq_getElem (by omega)⟩
    have hzn : (((l.take (z + 1)).drop (k + 1)).any fun p => writes p == o.a) = (writes p == o.a) := by
      rw [take_succ_of hp, List.drop_append_of_le_length (by rw [List.length_take]; omega), List.any_append, hz]; simp
    conv => whnf
    refine satq_mid (α := { u : Unit // (writes p == o.a) = false }) (fun _ => [(1, one (.int .i64 (i : Int))), (3, .p (.c (.ref 0 0))), (9, one (.int .i64 o.a)), (10, one (.int .i64 (z : Int)))]) (fun _ => [.cells 32 [.v (.slice A1 n1 c1), .v (.slice A2 n2 c2), .v (.slice (some ⟨bb, off, none⟩) l.length c3)]]) ?_ fun y => ?_
    · refine satq_block ?_
      refine satq_vc ?_
      conv => whnf
      refine ⟨⟨by omega, by omega⟩, ?_⟩
      conv => whnf
      refine ⟨opC p, cells_op h3 (by simp) hp, rfl, ?_⟩
      conv => whnf
      refine call_con rfl (by kernel_rfl) (fun r w' hR => writes_ref p w') ?_
      conv => whnf
      refine ⟨fun he => ?_, fun he => ?_⟩
      · conv => whnf
        refine atq_up (atq_ret (R := fun e w' => e = .returned (.int .i64 (copyR (l.take i).reverse v)) ∧ Below w.heap.size w w') ?_) (by exact fun _ _ h => h)
        conv => whnf
        have hany : (((l.take i).drop (k + 1)).any fun p => writes p == o.a) = true := by
          rw [List.any_eq_true]
          refine ⟨p, ?_, he⟩
          refine List.mem_of_getElem? (i := z - (k + 1)) ?_
          rw [List.getElem?_drop, show k + 1 + (z - (k + 1)) = z by omega, List.getElem?_take_of_lt hlt, hp]
        exact fin_val rfl fun w' hB => ⟨by rw [hres, if_pos hany], hB⟩
      · conv => whnf
        refine atq_block ?_
        exact atq_mid ⟨(), he⟩ (ent_same rfl (aI rfl (aI rfl (aI rfl (aI rfl trivial)))) (aI ((aI rfl (Or.inl rfl))) trivial))
    refine satq_vc ?_
    conv => whnf
    refine ⟨_, wr64 (by omega), ?_⟩
    conv => whnf
    exact atq_next ⟨z + 1, by omega, by omega, by rw [hzn]; exact y.2⟩ (ent_same rfl (aI rfl (aI rfl (aI rfl (aI rfl trivial)))) (aI ((aI rfl (Or.inl rfl))) trivial)) (by show i - (z + 1) < i - z; omega)
  · have hze : z = i := by simp at hc; omega
    subst hze
    conv => whnf
    refine atq_out (atq_exit (atq_on ?_))
    refine satq_vc ?_
    conv => whnf
    refine atq_ret ?_
    conv => whnf
    exact fin_val rfl fun w' hB => ⟨by rw [hres, if_neg (by rw [hz]; decide)], hB⟩
theorem copiedR_at : ∀ (l pre : List BOp) (i : Nat) {o : BOp}, l[i]? = some o → copiedR ((l.take i).reverse ++ pre) (l.drop i) = (((reads o).all fun v => decide (copyR ((l.take i).reverse ++ pre) v < 0)) && !(o.code == 2 && o.d == o.a) && copiedR ((l.take (i + 1)).reverse ++ pre) (l.drop (i + 1)))
  | [], pre, i, o, h => by simp at h
  | x :: l, pre, 0, o, h => by simp at h; subst h; rfl
  | x :: l, pre, i + 1, o, h => by
    have := copiedR_at l (x :: pre) i (o := o) (by simpa using h)
    simpa using this
set_option maxRecDepth 100000 in
theorem copied_walk (l : List BOp) (A1 A2 A3 : Option Addr) (n1 n2 c1 c2 c3 : Nat) (w : World) (h3 : OpsAt w w.heap.size A3 l) (hl : l.length ≤ 1000000) :
    Calls Try.prog 25 #[.agg #[.slice A1 n1 c1, .slice A2 n2 c2, .slice A3 l.length c3]] w fun e w' => e = .returned (.bool (copiedL l)) ∧ Below w.heap.size w w' := by
  refine calls_satq [.agg #[.slice A1 n1 c1, .slice A2 n2 c2, .slice A3 l.length c3]] Try.func25 Try.ntmps25 rfl (by simp) ?_
  refine satq_seq ?_
  conv => whnf
  refine satq_in ?_
  refine satq_seq ?_
  conv => whnf
  refine satq_block ?_
  refine satq_loop (α := { j : Nat // j ≤ l.length ∧ copiedL l = copiedR (l.take j).reverse (l.drop j) }) (fun x => [(1, .p (.c (.ref 0 0))), (3, one (.int .i64 (x.1 : Int)))]) (fun x => [.cells 32 [.v (.slice A1 n1 c1), .v (.slice A2 n2 c2), .v (.slice A3 l.length c3)]]) (fun x => l.length - x.1)
    ⟨0, by omega, rfl⟩ (ent_same rfl (aI rfl (aI rfl trivial)) (aI ((aI rfl (Or.inl rfl))) trivial)) fun x => ?_
  obtain ⟨j, hj, hjl⟩ := x
  dsimp only
  refine satq_seq ?_
  conv => whnf
  refine ⟨fun hc => ?_, fun hc => ?_⟩
  · have hlt : j < l.length := by simpa using hc
    obtain ⟨o, ho⟩ : ∃ o, l[j]? = some o := ⟨_, List.getElem?_eq_getElem hlt⟩
    have hstep := copiedR_at l [] j ho
    rw [List.append_nil, List.append_nil] at hstep
    obtain ⟨bb, off, rfl⟩ := ops_addr h3 (by omega)
    have hrl := reads_len o
    conv => whnf
    refine satq_mid (α := { u : Unit // ((reads o).all fun v => decide (copyR (l.take j).reverse v < 0)) = true ∧ (o.code == 2 && o.d == o.a) = false }) (fun _ => [(1, .p (.c (.ref 0 0))), (3, one (.int .i64 (j : Int)))]) (fun _ => [.cells 32 [.v (.slice A1 n1 c1), .v (.slice A2 n2 c2), .v (.slice (some ⟨bb, off, none⟩) l.length c3)]]) ?_ fun y => ?_
    · refine satq_block ?_
      refine satq_seq ?_
      conv => whnf
      refine ⟨⟨by omega, by omega⟩, ?_⟩
      conv => whnf
      refine ⟨opC o, cells_op h3 (by simp) ho, rfl, ?_⟩
      conv => whnf
      refine satq_seq ?_
      conv => whnf
      refine call_row rfl (by kernel_rfl) (fun r w' hR => reads_ref o w') ?_
      conv => whnf
      refine satq_mid (α := { u : Unit // ((reads o).all fun v => decide (copyR (l.take j).reverse v < 0)) = true }) (fun _ => [(1, .p (.c (.ref 0 0))), (3, one (.int .i64 (j : Int))), (4, .p (.c (.ref 1 0)))])
        (fun _ => [.cells 32 [.v (.slice A1 n1 c1), .v (.slice A2 n2 c2), .v (.slice (some ⟨bb, off, none⟩) l.length c3)], .cells 53 ((opC o).map .v)]) ?_ fun y => ?_
      · refine satq_seq ?_
        conv => whnf
        refine satq_block ?_
        refine satq_loop (α := { k : Nat // k ≤ (reads o).length ∧ (((reads o).take k).all fun v => decide (copyR (l.take j).reverse v < 0)) = true }) (fun x => [(1, .p (.c (.ref 0 0))), (3, one (.int .i64 (j : Int))), (4, .p (.c (.ref 1 0))), (5, .p (.c (.row 2))), (6, one (.int .i64 (x.1 : Int)))])
          (fun x => [.cells 32 [.v (.slice A1 n1 c1), .v (.slice A2 n2 c2), .v (.slice (some ⟨bb, off, none⟩) l.length c3)], .cells 53 ((opC o).map .v), .row 3 1 (reads o).length ((reads o).map (.int .i64))]) (fun x => (reads o).length - x.1)
          ⟨0, by omega, rfl⟩ (ent_same rfl (aI rfl (aI rfl (aI rfl (aI rfl (aI rfl trivial))))) (aI ((aI rfl (Or.inl rfl))) (aI ((aI rfl (Or.inl rfl))) (aI ((aI rfl (aI rfl (aI rfl rfl)))) trivial)))) fun x => ?_
        obtain ⟨k, hk, hka⟩ := x
        dsimp only
        refine satq_seq ?_
        conv => whnf
        refine ⟨fun hc => ?_, fun hc => ?_⟩
        · have hlt2 : k < (reads o).length := by simpa using hc
          obtain ⟨v, hv⟩ : ∃ v, (reads o)[k]? = some v := ⟨_, List.getElem?_eq_getElem hlt2⟩
          have hnext : (((reads o).take (k + 1)).all fun v => decide (copyR (l.take j).reverse v < 0)) = decide (copyR (l.take j).reverse v < 0) := by
            rw [List.take_add_one, hv, List.all_append, hka]; simp
          conv => whnf
          refine satq_mid (α := { u : Unit // copyR (l.take j).reverse v < 0 }) (fun _ => [(1, .p (.c (.ref 0 0))), (3, one (.int .i64 (j : Int))), (4, .p (.c (.ref 1 0))), (5, .p (.c (.row 2))), (6, one (.int .i64 (k : Int)))])
            (fun _ => [.cells 32 [.v (.slice A1 n1 c1), .v (.slice A2 n2 c2), .v (.slice (some ⟨bb, off, none⟩) l.length c3)], .cells 53 ((opC o).map .v), .row 3 1 (reads o).length ((reads o).map (.int .i64))]) ?_ fun y => ?_
          · refine satq_block ?_
            refine satq_vc ?_
            refine sat_quiet mixed (by kernel_rfl) ?_
            conv => whnf
            refine ⟨⟨by omega, by omega⟩, ?_⟩
            conv => whnf
            rw [show (List.map CV.v (List.map (Value.int IntKind.i64) (reads o)))[(k : Int).toNat * tsz Try.prog 3]? = some (.v (.int .i64 v)) by
              rw [show (k : Int).toNat * tsz Try.prog 3 = k from (Nat.mul_one _).trans (Int.toNat_natCast k), List.getElem?_map, List.getElem?_map, hv]; rfl]
            conv => whnf
            refine q_con (xs := [.agg #[.slice A1 n1 c1, .slice A2 n2 c2, .slice (some ⟨bb, off, none⟩) l.length c3], .int .i64 (j : Int), .int .i64 v]) rfl (by kernel_rfl) (fun r w' hR => copyAt_walk l A1 A2 (some ⟨bb, off, none⟩) n1 n2 c1 c2 c3 j v w' (sl_later h3 hR.toBelow) hl hj) ?_
            conv => whnf
            refine ⟨fun he => ?_, fun he => ?_⟩
            · have he : 0 ≤ copyR (l.take j).reverse v := by simpa using he
              have hall : ((reads o).all fun v => decide (copyR (l.take j).reverse v < 0)) = false := by
                rw [List.all_eq_false]
                exact ⟨v, List.mem_of_getElem? hv, by simp; omega⟩
              conv => whnf
              refine atq_up (atq_ret (R := fun e w' => e = .returned (.bool (copiedL l)) ∧ Below w.heap.size w w') ?_) (by exact fun _ _ h => h)
              conv => whnf
              exact fin_val rfl fun w' hB => ⟨by rw [hjl, hstep, hall]; rfl, hB⟩
            · have he : copyR (l.take j).reverse v < 0 := by simpa using he
              conv => whnf
              refine atq_block ?_
              exact atq_mid ⟨(), he⟩ (ent_same rfl (aI rfl (aI rfl (aI rfl (aI rfl (aI rfl trivial))))) (aI ((aI rfl (Or.inl rfl))) (aI ((aI rfl (Or.inl rfl))) (aI ((aI rfl (aI rfl (aI rfl rfl)))) trivial))))
          refine satq_vc ?_
          conv => whnf
          refine ⟨_, wr64 (by omega), ?_⟩
          conv => whnf
          exact atq_next ⟨k + 1, by omega, by rw [hnext]; simpa using y.2⟩ (ent_same rfl (aI rfl (aI rfl (aI rfl (aI rfl (aI rfl trivial))))) (aI ((aI rfl (Or.inl rfl))) (aI ((aI rfl (Or.inl rfl))) (aI ((aI rfl (aI rfl (aI rfl rfl)))) trivial)))) (by show (reads o).length - (k + 1) < (reads o).length - k; omega)
        · have hke : k = (reads o).length := by simp at hc; omega
          subst hke
          conv => whnf
          refine atq_out (atq_exit ?_)
          exact atq_mid ⟨(), by rw [List.take_length] at hka; exact hka⟩ (ent_drop (aI rfl (aI rfl (aI rfl trivial))) (aI ((aI rfl (Or.inl rfl))) (aI ((aI rfl (Or.inl rfl))) trivial)) rfl rfl)
      refine satq_vc ?_
      conv => whnf
      refine ⟨o.d == o.a, fun _ => ?_, ?_⟩
      · conv => whnf
        exact ⟨rfl, rfl, rfl, rfl, rfl⟩
      conv => whnf
      refine ⟨fun he => ?_, fun he => ?_⟩
      · have he : (o.code == 2 && o.d == o.a) = true := he
        conv => whnf
        refine atq_up (atq_ret (R := fun e w' => e = .returned (.bool (copiedL l)) ∧ Below w.heap.size w w') ?_) (by exact fun _ _ h => h)
        conv => whnf
        exact fin_val rfl fun w' hB => ⟨by rw [hjl, hstep, he]; simp, hB⟩
      · have he : (o.code == 2 && o.d == o.a) = false := he
        conv => whnf
        refine atq_block ?_
        exact atq_mid ⟨(), y.2, he⟩ (ent_drop (aI rfl (aI rfl trivial)) (aI ((aI rfl (Or.inl rfl))) trivial) rfl rfl)
    refine satq_vc ?_
    conv => whnf
    refine ⟨_, wr64 (by omega), ?_⟩
    conv => whnf
    exact atq_next ⟨j + 1, by omega, by rw [hjl, hstep, y.2.1, y.2.2]; rfl⟩ (ent_same rfl (aI rfl (aI rfl trivial)) (aI ((aI rfl (Or.inl rfl))) trivial)) (by show l.length - (j + 1) < l.length - j; omega)
  · have hje : j = l.length := by simp at hc; omega
    subst hje
    rw [List.drop_length] at hjl
    conv => whnf
    refine atq_out (atq_exit (atq_on ?_))
    refine satq_vc ?_
    conv => whnf
    refine atq_ret ?_
    conv => whnf
    exact fin_val rfl fun w' hB => ⟨by rw [hjl]; rfl, hB⟩
end Go.Proofs.Ytmjfgnnefcimiaa
namespace Go.Proofs.Ytmjfgnnefcimiaa
open Go.RowKit

/-- A step of the check, taken apart. -/
theorem ck_step {s s1 : Ck} {o : BOp} {x y : Bool} (h : ckNext s o x y = some s1) : formedB o = true ∧ placedB s o x y = true ∧ (o.code = 20 → o.n = (s.marks : Int) ∧ s1 = ⟨s.marks + 1, 0, false⟩) ∧
    (o.code ≠ 20 → (∀ v ∈ reads o, readB s v = true) ∧ s1 = ⟨s.marks, if 20 ≤ writes o then s.written ||| 2 ^ (writes o).toNat else s.written, s.changed || (stores o.code || decide (0 ≤ writes o ∧ writes o < 20))⟩) := by
  unfold ckNext at h
  by_cases hf : (formedB o && placedB s o x y) = true
  · rw [if_pos hf] at h
    simp only [Bool.and_eq_true] at hf
    refine ⟨hf.1, hf.2, fun hc => ?_, fun hc => ?_⟩
    · rw [if_pos (by simp [hc])] at h
      by_cases hn : (o.n == (s.marks : Int)) = true
      · rw [if_pos hn] at h; injection h with h; exact ⟨by simpa using hn, h.symm⟩
      · rw [if_neg hn] at h; cases h
    · rw [if_neg (by simpa using hc)] at h
      by_cases hr : (reads o).all (readB s) = true
      · rw [if_pos hr] at h; injection h with h; exact ⟨fun v hv => List.all_eq_true.1 hr v hv, h.symm⟩
      · rw [if_neg hr] at h; cases h
  · rw [if_neg hf] at h; cases h
theorem ck_mark {s : Ck} {o : BOp} {x y : Bool} (hf : formedB o = true) (hp : placedB s o x y = true) (hc : o.code = 20) (hn : o.n = (s.marks : Int)) : ckNext s o x y = some ⟨s.marks + 1, 0, false⟩ := by
  unfold ckNext
  rw [if_pos (by rw [hf, hp]; rfl), if_pos (by simp [hc]), if_pos (by simp [hn])]
theorem ck_op {s : Ck} {o : BOp} {x y : Bool} (hf : formedB o = true) (hp : placedB s o x y = true) (hc : o.code ≠ 20) (hr : ∀ v ∈ reads o, readB s v = true) :
    ckNext s o x y = some ⟨s.marks, if 20 ≤ writes o then s.written ||| 2 ^ (writes o).toNat else s.written, s.changed || (stores o.code || decide (0 ≤ writes o ∧ writes o < 20))⟩ := by
  unfold ckNext
  rw [if_pos (by rw [hf, hp]; rfl), if_neg (by simpa using hc), if_pos (List.all_eq_true.2 hr)]
theorem ck_cons {s s1 : Ck} {o : BOp} {l : List BOp} (h : ckNext s o l.isEmpty (exitNext l) = some s1) : ckRun s (o :: l) = ckRun s1 l := by
  show (match ckNext s o l.isEmpty (exitNext l) with | some s' => ckRun s' l | none => none) = _
  rw [h]
theorem ck_uncons {s s2 : Ck} {o : BOp} {l : List BOp} (h : ckRun s (o :: l) = some s2) : ∃ s1, ckNext s o l.isEmpty (exitNext l) = some s1 ∧ ckRun s1 l = some s2 := by
  change (match ckNext s o l.isEmpty (exitNext l) with | some s' => ckRun s' l | none => none) = _ at h
  cases h1 : ckNext s o l.isEmpty (exitNext l) with
  | none => rw [h1] at h; cases h
  | some s1 => rw [h1] at h; exact ⟨s1, rfl, h⟩
theorem placed_parts {s : Ck} {o : BOp} {x y : Bool} : placedB s o x y = true ↔ endsB o.code = x ∧ (o.code = 23 → y = true) ∧ (leaves o.code = true → s.changed = false) := by
  unfold placedB
  simp only [Bool.and_eq_true, Bool.not_eq_true', Bool.and_eq_false_iff, beq_iff_eq, Bool.not_eq_false', beq_eq_false_iff_ne]
  constructor
  · rintro ⟨⟨h1, h2⟩, h3⟩
    refine ⟨h1, fun e => ?_, fun e => ?_⟩
    · rcases h2 with h2 | h2
      · exact absurd e h2
      · exact h2
    · rcases h3 with h3 | h3
      · rw [e] at h3; cases h3
      · exact h3
  · rintro ⟨h1, h2, h3⟩
    refine ⟨⟨h1, ?_⟩, ?_⟩
    · by_cases e : o.code = 23
      · exact .inr (h2 e)
      · exact .inl e
    · by_cases e : leaves o.code = true
      · exact .inr (h3 e)
      · exact .inl (by simpa using e)
/-- What the check asks of what follows an operation. -/
structure Follows (l m : List BOp) : Prop where
  empty : m.isEmpty = l.isEmpty
  exit : exitNext l = true → exitNext m = true
theorem header_of {b : Blk} {l : List BOp} (h : headerB b = true) (h1 : 1 ≤ l.length) (h2 : l.length ≤ b.ops.length) (h3 : ∀ o, b.ops.head? = some o → o.code = 20 → ∃ p, l.head? = some p ∧ p.code = 20) : headerB ⟨b.at_, b.pages, l⟩ = true := by
  unfold headerB at h ⊢
  simp only [Bool.and_eq_true, decide_eq_true_eq] at h ⊢
  obtain ⟨⟨⟨k1, k2⟩, k3⟩, k4⟩ := h
  refine ⟨⟨⟨k1, k2⟩, by show 1 ≤ l.length ∧ l.length ≤ 2000; omega⟩, ?_⟩
  cases hb : b.ops with
  | nil => rw [hb] at k4; cases k4
  | cons o r =>
    rw [hb] at k4
    obtain ⟨p, hp, hc⟩ := h3 o (by rw [hb]; rfl) (by simpa using k4)
    cases l with
    | nil => cases hp
    | cons q m => injection hp with hp; subst hp; simp [hc]

/-! Fold. -/
theorem fold_nonempty : ∀ (l : List BOp) (f : Int → Option Int) {s s1 : Ck}, ckRun s l = some s1 → l ≠ [] → foldRun f l ≠ []
  | [], _, _, _, _, hl => absurd rfl hl
  | o :: l, f, s, s1, h, _ => by
    obtain ⟨s2, h1, h2⟩ := ck_uncons h
    unfold foldRun
    split
    · simp
    · rename_i hk
      refine fold_nonempty l _ h2 fun hl => ?_
      subst hl
      obtain ⟨hf, hp, _, _⟩ := ck_step h1
      have he := (placed_parts.1 hp).1
      unfold foldB at hk
      split at hk
      · simp at hk
      split at hk
      · simp at hk
      split at hk
      · simp at hk
      split at hk
      · rename_i hc
        simp only [Bool.and_eq_true, beq_iff_eq] at hc
        rw [hc.1.1] at he; cases he
      split at hk
      · rename_i hc
        simp only [Bool.and_eq_true, beq_iff_eq] at hc
        rw [hc.1] at he; cases he
      split at hk
      · simp at hk
      · simp at hk
theorem foldB_exit (f : Int → Option Int) {o : BOp} (h : o.code = 24) : foldB f o = (o, true) := by
  unfold foldB
  have hb : isBin o.code = false := by rw [h]; rfl
  have hm : memI o.code [3, 4, 6, 7, 8, 9, 10] = false := by rw [h]; rfl
  rw [hb, hm, h]
  simp
theorem fold_exit {l : List BOp} (f : Int → Option Int) (h : exitNext l = true) : exitNext (foldRun f l) = true := by
  cases l with
  | nil => cases h
  | cons o l =>
    have hc : o.code = 24 := by simpa [exitNext] using h
    unfold foldRun
    rw [foldB_exit _ hc]
    simp [exitNext, hc]
theorem placed_keep {s s1 : Ck} {o : BOp} {x y x' y' : Bool} (h : ckNext s o x y = some s1) (hx : x' = x) (hy : y = true → y' = true) : ckNext s o x' y' = some s1 := by
  subst hx
  obtain ⟨hf, hp, h1, h2⟩ := ck_step h
  obtain ⟨p1, p2, p3⟩ := placed_parts.1 hp
  have hp' : placedB s o x' y' = true := placed_parts.2 ⟨p1, fun e => hy (p2 e), p3⟩
  by_cases hc : o.code = 20
  · obtain ⟨e1, e2⟩ := h1 hc
    rw [e2]; exact ck_mark hf hp' hc e1
  · obtain ⟨e1, e2⟩ := h2 hc
    rw [e2]; exact ck_op hf hp' hc e1
/-- An operation that writes the same variable and no memory, in the place of another one. -/
theorem ck_put {s s1 : Ck} {o p : BOp} {x y y' : Bool} (h : ckNext s o x y = some s1) (hD : 2 ≤ o.code ∧ o.code ≤ 15) (hc : p.code = 1 ∨ p.code = 2) (hd : p.d = o.d) (hb : p.b = 0) (hn : p.code = 2 → p.n = 0) (ha : p.code = 1 → p.a = 0) (ha2 : p.code = 2 → p.a = o.a) : x = false ∧ ckNext s p x y' = some s1 := by
  obtain ⟨hf, hp, _, h2⟩ := ck_step h
  obtain ⟨p1, p2, p3⟩ := placed_parts.1 hp
  have hx : x = false := by
    rw [← p1]; unfold endsB; rw [decide_eq_false_iff_not]; omega
  refine ⟨hx, ?_⟩
  obtain ⟨hr, hs⟩ := h2 (by omega)
  have hDo : hasD o.code = true := by unfold hasD; rw [decide_eq_true_eq]; omega
  have hDp : hasD p.code = true := by unfold hasD; rw [decide_eq_true_eq]; omega
  have hAo : hasA o.code = true := by unfold hasA; rw [decide_eq_true_eq]; omega
  have hBp : hasB p.code = false := by unfold hasB; rw [decide_eq_false_iff_not]; omega
  have hwo : writes o = o.d := by unfold writes; rw [hDo]; rfl
  have hwp : writes p = o.d := by unfold writes; rw [hDp, if_pos rfl, hd]
  have hf' := hf
  unfold formedB at hf
  simp only [Bool.and_eq_true] at hf
  obtain ⟨⟨⟨⟨f1, f2⟩, f3⟩, f4⟩, f5⟩ := hf
  have hfp : formedB p = true := by
    unfold formedB
    simp only [Bool.and_eq_true]
    refine ⟨⟨⟨⟨by unfold isOp; rw [decide_eq_true_eq]; omega, by rw [hDp, hd]; rw [hDo] at f2; exact f2⟩, ?_⟩, by rw [hBp, hb]; rfl⟩, ?_⟩
    · rcases hc with hc | hc
      · rw [ha hc, hc]; rfl
      · rw [ha2 hc, show hasA p.code = hasA o.code by rw [hAo, hc]; rfl]; exact f3
    · rcases hc with hc | hc
      · rw [hc]; rfl
      · rw [hn hc]; simp
  have hrp : ∀ v ∈ reads p, readB s v = true := fun v hv => by
    unfold reads at hv
    rw [hBp] at hv
    rcases hc with hc | hc
    · rw [hc] at hv; simp [hasA] at hv
    · rw [hc, ha2 hc] at hv
      simp [hasA] at hv
      subst hv
      exact hr _ (by unfold reads; rw [hAo]; simp)
  have hst : stores o.code = false := by unfold stores; rw [decide_eq_false_iff_not]; omega
  have hsp : stores p.code = false := by unfold stores; rw [decide_eq_false_iff_not]; omega
  have hpl : placedB s p x y' = true := placed_parts.2 ⟨by rw [hx]; unfold endsB; rw [decide_eq_false_iff_not]; omega, fun e => by omega, fun e => by unfold leaves at e; rw [decide_eq_true_eq] at e; omega⟩
  rw [ck_op hfp hpl (by omega) hrp, hs, hwo, hwp, hst, hsp]
theorem ck_leave {s s1 : Ck} {o : BOp} {x y y' : Bool} {n : Int} (h : ckNext s o x y = some s1) (hc : o.code = 23 ∨ o.code = 25) : ckNext s ⟨24, 0, 0, 0, n⟩ true y' = some s1 := by
  obtain ⟨hf, hp, _, h2⟩ := ck_step h
  obtain ⟨hr, hs⟩ := h2 (by omega)
  have hwo : writes o = -1 := by unfold writes; rcases hc with hc | hc <;> rw [hc] <;> rfl
  have hst : stores o.code = false := by rcases hc with hc | hc <;> rw [hc] <;> rfl
  have hk := ck_op (s := s) (o := ⟨24, 0, 0, 0, n⟩) (x := true) (y := y') rfl (placed_parts.2 ⟨rfl, fun e => absurd (show (24 : Int) = 23 from e) (by decide), fun e => by cases e⟩) (show (24 : Int) ≠ 20 by decide) (fun v hv => by simp [reads, hasA, hasB] at hv)
  rw [hk, hs, hwo, hst]
  rfl
/-- What replaces an operation, for the check. -/
theorem foldB_step (f : Int → Option Int) {o : BOp} {s s1 : Ck} {x y : Bool} (h : ckNext s o x y = some s1) :
    foldB f o = (o, true) ∨ ((foldB f o).2 = true ∧ (foldB f o).1.code ≠ 24 ∧ x = false ∧ ∀ y', ckNext s (foldB f o).1 x y' = some s1) ∨ ((foldB f o).2 = true ∧ (foldB f o).1.code = 24 ∧ (o.code = 23 ∨ o.code = 25) ∧ ∀ y', ckNext s (foldB f o).1 true y' = some s1) ∨ ((foldB f o).2 = false ∧ s1 = s ∧ x = false) := by
  have hgone : o.code = 21 ∨ o.code = 23 → s1 = s ∧ x = false := fun hc => by
    obtain ⟨hf, hp, _, h2⟩ := ck_step h
    obtain ⟨p1, p2, p3⟩ := placed_parts.1 hp
    obtain ⟨hr, hs⟩ := h2 (by omega)
    have hwo : writes o = -1 := by unfold writes; rcases hc with hc | hc <;> rw [hc] <;> rfl
    have hst : stores o.code = false := by rcases hc with hc | hc <;> rw [hc] <;> rfl
    refine ⟨?_, by rw [← p1]; rcases hc with hc | hc <;> rw [hc] <;> rfl⟩
    rw [hs, hwo, hst]
    rw [if_neg (by decide), show (false || decide ((0 : Int) ≤ -1 ∧ (-1 : Int) < 20)) = false from rfl, Bool.or_false]
  unfold foldB
  by_cases c1 : (o.code == 2 && (f o.a).isSome) = true
  · rw [if_pos c1]
    simp only [Bool.and_eq_true, beq_iff_eq] at c1
    have := fun y' => ck_put (p := ⟨1, o.d, 0, 0, (f o.a).getD 0⟩) (y' := y') h (by omega) (.inl rfl) rfl rfl nofun (fun _ => rfl) nofun
    exact .inr (.inl ⟨rfl, (fun e => by cases e), (this false).1, fun y' => (this y').2⟩)
  rw [if_neg c1]
  by_cases c2 : (isBin o.code && (f o.a).isSome && (f o.b).isSome) = true
  · rw [if_pos c2]
    simp only [Bool.and_eq_true, isBin, decide_eq_true_eq] at c2
    have := fun y' => ck_put (p := ⟨1, o.d, 0, 0, wordOp o.code ((f o.a).getD 0) ((f o.b).getD 0)⟩) (y' := y') h (by omega) (.inl rfl) rfl rfl nofun (fun _ => rfl) nofun
    exact .inr (.inl ⟨rfl, (fun e => by cases e), (this false).1, fun y' => (this y').2⟩)
  rw [if_neg c2]
  by_cases c3 : ((f o.b).isSome && (f o.b).getD 0 == 0 && memI o.code [3, 4, 6, 7, 8, 9, 10]) = true
  · rw [if_pos c3]
    simp only [Bool.and_eq_true] at c3
    have hm := c3.2
    simp only [memI, List.any_cons, List.any_nil, Bool.or_false, Bool.or_eq_true, beq_iff_eq] at hm
    have := fun y' => ck_put (p := ⟨2, o.d, o.a, 0, 0⟩) (y' := y') h (by omega) (.inr rfl) rfl rfl (fun _ => rfl) nofun (fun _ => rfl)
    exact .inr (.inl ⟨rfl, (fun e => by cases e), (this false).1, fun y' => (this y').2⟩)
  rw [if_neg c3]
  by_cases c4 : (o.code == 21 && (f o.a).isSome && (f o.a).getD 0 != 0) = true
  · rw [if_pos c4]
    simp only [Bool.and_eq_true, beq_iff_eq] at c4
    exact .inr (.inr (.inr ⟨rfl, hgone (.inl c4.1.1)⟩))
  rw [if_neg c4]
  by_cases c5 : (o.code == 23 && (f o.a).isSome) = true
  · rw [if_pos c5]
    simp only [Bool.and_eq_true, beq_iff_eq] at c5
    cases hz : (f o.a).getD 0 != 0
    · exact .inr (.inr (.inr ⟨rfl, hgone (.inr c5.1)⟩))
    · exact .inr (.inr (.inl ⟨rfl, rfl, .inl c5.1, fun y' => ck_leave h (.inl c5.1)⟩))
  rw [if_neg c5]
  by_cases c6 : (o.code == 25 && (f o.a).isSome) = true
  · rw [if_pos c6]
    simp only [Bool.and_eq_true, beq_iff_eq] at c6
    exact .inr (.inr (.inl ⟨rfl, rfl, .inr c6.1, fun y' => ck_leave h (.inr c6.1)⟩))
  rw [if_neg c6]
  exact .inl rfl
theorem ck_empty {l : List BOp} (h : l.isEmpty = true) : l = [] := List.isEmpty_iff.1 h
theorem fold_follows {l : List BOp} (f : Int → Option Int) {s s1 : Ck} (h : ckRun s l = some s1) : (foldRun f l).isEmpty = l.isEmpty := by
  cases l with
  | nil => rfl
  | cons o l =>
    have := fold_nonempty (o :: l) f h (by simp)
    cases hr : foldRun f (o :: l) with
    | nil => exact absurd hr this
    | cons _ _ => rfl
theorem fold_ck : ∀ (l : List BOp) (f : Int → Option Int) {s s1 : Ck}, ckRun s l = some s1 → ∃ s2, ckRun s (foldRun f l) = some s2 ∧ s2.marks = s1.marks
  | [], f, s, s1, h => ⟨s1, h, rfl⟩
  | o :: l, f, s, s1, h => by
    obtain ⟨s2, h1, h2⟩ := ck_uncons h
    unfold foldRun
    rcases foldB_step (foldMark f o) h1 with e | ⟨e1, e2, e3, e4⟩ | ⟨e1, e2, e3, e4⟩ | ⟨e1, e2, e3⟩
    · rw [e, if_pos rfl]
      by_cases hc : (o.code == 24) = true
      · rw [if_pos hc]
        have hl : l = [] := ck_empty (by rw [← (placed_parts.1 (ck_step h1).2.1).1, show o.code = 24 by simpa using hc]; rfl)
        subst hl
        exact ⟨s1, h, rfl⟩
      · rw [if_neg hc]
        obtain ⟨s3, k1, k2⟩ := fold_ck l (foldUpd (foldMark f o) o) h2
        exact ⟨s3, by rw [ck_cons (placed_keep h1 (fold_follows _ h2) (fold_exit _))]; exact k1, k2⟩
    · rw [if_pos e1, if_neg (by simpa using e2)]
      obtain ⟨s3, k1, k2⟩ := fold_ck l (foldUpd (foldMark f o) (foldB (foldMark f o) o).1) h2
      refine ⟨s3, ?_, k2⟩
      rw [ck_cons (by rw [fold_follows _ h2]; exact e4 _)]; exact k1
    · rw [if_pos e1, if_pos (by simp [e2])]
      refine ⟨s2, by rw [ck_cons (e4 _)]; rfl, ?_⟩
      obtain ⟨_, hp, _, _⟩ := ck_step h1
      obtain ⟨p1, p2, _⟩ := placed_parts.1 hp
      rcases e3 with hc | hc
      · have hx := p2 hc
        cases l with
        | nil => cases hx
        | cons q r =>
          have hq : q.code = 24 := by simpa [exitNext] using hx
          obtain ⟨s3, h3, h4⟩ := ck_uncons h2
          obtain ⟨_, hp3, _, h5⟩ := ck_step h3
          have hr : r = [] := ck_empty (by rw [← (placed_parts.1 hp3).1, hq]; rfl)
          subst hr
          injection h4 with h4
          subst h4
          rw [(h5 (by omega)).2]
      · have hl : l = [] := ck_empty (by rw [← p1, hc]; rfl)
        subst hl
        injection h2 with h2
        rw [h2]
    · rw [if_neg (by rw [e1]; decide)]
      subst e2
      exact fold_ck l (foldMark f o) h2
theorem valid_parts {b : Blk} : validB b = true ↔ headerB b = true ∧ ∃ s, ckRun ⟨0, 0, false⟩ b.ops = some s ∧ s.marks = b.at_.length := by
  unfold validB
  rw [Bool.and_eq_true]
  constructor
  · rintro ⟨h1, h2⟩
    split at h2
    · rename_i s hs; exact ⟨h1, s, hs, by simpa using h2⟩
    · cases h2
  · rintro ⟨h1, s, h2, h3⟩
    rw [h2]
    exact ⟨h1, by simp [h3]⟩
theorem valid_of {b : Blk} {l : List BOp} (hv : validB b = true) (hne : b.ops ≠ [] → l ≠ []) (hlen : l.length ≤ b.ops.length) (hhead : ∀ o r, b.ops = o :: r → o.code = 20 → ∃ p, l.head? = some p ∧ p.code = 20) (hck : ∀ s1, ckRun ⟨0, 0, false⟩ b.ops = some s1 → ∃ s2, ckRun ⟨0, 0, false⟩ l = some s2 ∧ s2.marks = s1.marks) : validB ⟨b.at_, b.pages, l⟩ = true := by
  obtain ⟨h1, s, h2, h3⟩ := valid_parts.1 hv
  obtain ⟨s2, k1, k2⟩ := hck s h2
  have hpos := (valid_pos hv).1
  have hb : b.ops ≠ [] := fun e => by rw [e] at hpos; simp at hpos
  refine valid_parts.2 ⟨header_of h1 ?_ hlen (fun o ho hc => ?_), s2, k1, by rw [k2, h3]⟩
  · have := hne hb
    cases l with
    | nil => exact absurd rfl this
    | cons _ _ => simp
  · cases hbo : b.ops with
    | nil => exact absurd hbo hb
    | cons q r => rw [hbo] at ho; injection ho with ho; subst ho; exact hhead _ r hbo hc
theorem fold_valid {b : Blk} (hv : validB b = true) : validB (foldP b) = true := by
  unfold foldP foldAll
  rw [if_pos hv]
  obtain ⟨_, s, h2, _⟩ := valid_parts.1 hv
  refine valid_of hv (fun hb => fold_nonempty b.ops noneF h2 hb) (foldRun_length _ _) (fun o r hb hc => ?_) (fun s1 h => fold_ck b.ops noneF h)
  rw [hb]
  unfold foldRun
  rw [foldB_mark _ hc, if_pos rfl]
  exact ⟨o, rfl, hc⟩
end Go.Proofs.Ytmjfgnnefcimiaa
namespace Go.Proofs.Ytmjfgnnefcimiaa
open Go.RowKit

def ckAfter (s : Ck) (o : BOp) : Ck := ⟨s.marks, if 20 ≤ writes o then s.written ||| 2 ^ (writes o).toNat else s.written, s.changed || (stores o.code || decide (0 ≤ writes o ∧ writes o < 20))⟩
theorem readB_after (s : Ck) (o : BOp) (v : Int) : readB (ckAfter s o) v = (readB s v || decide (20 ≤ v ∧ writes o = v)) := by
  unfold readB ckAfter
  rw [Bool.eq_iff_iff]
  simp only [Bool.or_eq_true, decide_eq_true_eq]
  by_cases h : v < 20
  · simp [h]
  · split
    · rename_i hw
      rw [Nat.testBit_or, Nat.testBit_two_pow]
      simp only [Bool.or_eq_true, decide_eq_true_eq]
      constructor
      · rintro (h1 | h1 | h1)
        · exact .inl (.inl h1)
        · exact .inl (.inr h1)
        · right; omega
      · rintro ((h1 | h1) | h1)
        · exact .inl h1
        · exact .inr (.inl h1)
        · right; right; rw [h1.2]
    · rename_i hw
      constructor
      · intro h1; exact .inl h1
      · rintro (h1 | h1)
        · exact h1
        · omega
/-- What the check of the result knows, next to that of the block. -/
structure CkSim (s s' : Ck) : Prop where
  marks : s'.marks = s.marks
  known : ∀ v, readB s v = true → readB s' v = true
  ch : s'.changed = true → s.changed = true
theorem ckSim_refl (s : Ck) : CkSim s s := ⟨rfl, fun _ h => h, fun h => h⟩
def CopyInv (f : Int → Option Int) (s : Ck) : Prop := ∀ v w, f v = some w → (0 ≤ w ∧ w < 28 ∧ w ≠ 19) ∧ readB s w = true
theorem mem_reads {o : BOp} {v : Int} : v ∈ reads o ↔ (hasA o.code = true ∧ v = o.a) ∨ (hasB o.code = true ∧ v = o.b ∧ o.b ≠ o.a) := by
  unfold reads
  rw [List.mem_append]
  constructor
  · rintro (h | h)
    · split at h
      · rename_i hA; exact .inl ⟨hA, by simpa using h⟩
      · cases h
    · split at h
      · rename_i hB; simp at hB; exact .inr ⟨hB.1, by simpa using h, hB.2⟩
      · cases h
  · rintro (⟨h1, h2⟩ | ⟨h1, h2, h3⟩)
    · left; rw [h1, h2]; simp
    · right; rw [if_pos (by rw [h1]; simp [h3]), h2]; simp
theorem hasA_of_B {c : Int} (h : hasB c = true) : hasA c = true := by
  unfold hasB at h; unfold hasA; rw [decide_eq_true_eq] at h ⊢; omega
theorem twoB_hasB (c : Int) : twoB c = hasB c := by
  unfold twoB hasB isBin; rw [Bool.eq_iff_iff]; simp; omega
theorem reads_b {o : BOp} (h : hasB o.code = true) : o.b ∈ reads o := by
  by_cases e : o.b = o.a
  · exact mem_reads.2 (.inl ⟨hasA_of_B h, e⟩)
  · exact mem_reads.2 (.inr ⟨h, rfl, e⟩)
theorem origS_cases (f : Int → Option Int) (x : Bool) (v : Int) : origS f x v = v ∨ (x = true ∧ f v = some (origS f x v)) := by
  unfold origS
  by_cases h : (x && (f v).isSome) = true
  · rw [if_pos h]
    simp only [Bool.and_eq_true] at h
    obtain ⟨w, hw⟩ := Option.isSome_iff_exists.1 h.2
    right; rw [hw]; exact ⟨h.1, rfl⟩
  · rw [if_neg h]; exact .inl rfl
theorem formed_split {o : BOp} : formedB o = true ↔ isOp o.code = true ∧ fieldB (hasD o.code) o.d = true ∧ fieldB (hasA o.code) o.a = true ∧ fieldB (hasB o.code) o.b = true ∧ (hasN o.code || o.n == 0) = true := by
  unfold formedB
  simp only [Bool.and_eq_true]
  constructor
  · rintro ⟨⟨⟨⟨h1, h2⟩, h3⟩, h4⟩, h5⟩; exact ⟨h1, h2, h3, h4, h5⟩
  · rintro ⟨h1, h2, h3, h4, h5⟩; exact ⟨⟨⟨⟨h1, h2⟩, h3⟩, h4⟩, h5⟩
theorem copyOp_formed {f : Int → Option Int} {s : Ck} (hI : CopyInv f s) {o : BOp} (hf : formedB o = true) : formedB (copyOp f o) = true := by
  obtain ⟨h1, h2, h3, h4, h5⟩ := formed_split.1 hf
  refine formed_split.2 ⟨h1, h2, ?_, ?_, h5⟩
  · show fieldB (hasA o.code) (origS f (memI o.a (reads o) && o.code != 20) o.a) = true
    rcases origS_cases f (memI o.a (reads o) && o.code != 20) o.a with e | ⟨e1, e2⟩
    · rw [e]; exact h3
    · cases hA : hasA o.code
      · exfalso
        simp only [Bool.and_eq_true] at e1
        have hB : hasB o.code = false := by
          cases hB : hasB o.code
          · rfl
          · rw [hasA_of_B hB] at hA; cases hA
        have hr : reads o = [] := by unfold reads; rw [hA, hB]; rfl
        rw [hr] at e1; simp [memI] at e1
      · unfold fieldB; rw [if_pos rfl, decide_eq_true_eq]; exact (hI _ _ e2).1
  · show fieldB (hasB o.code) (origS f (twoB o.code) o.b) = true
    rcases origS_cases f (twoB o.code) o.b with e | ⟨e1, e2⟩
    · rw [e]; exact h4
    · rw [twoB_hasB] at e1
      rw [e1]
      unfold fieldB; rw [if_pos rfl, decide_eq_true_eq]; exact (hI _ _ e2).1
theorem copyOp_reads {f : Int → Option Int} {s : Ck} (hI : CopyInv f s) {o : BOp} (hr : ∀ v ∈ reads o, readB s v = true) : ∀ v ∈ reads (copyOp f o), readB s v = true := by
  intro v hv
  rcases mem_reads.1 hv with ⟨h1, h2⟩ | ⟨h1, h2, _⟩
  · have h1 : hasA o.code = true := h1
    rw [h2]
    rcases origS_cases f (memI o.a (reads o) && o.code != 20) o.a with e | ⟨_, e2⟩
    · show readB s (origS f (memI o.a (reads o) && o.code != 20) o.a) = true
      rw [e]; exact hr _ (mem_reads.2 (.inl ⟨h1, rfl⟩))
    · exact (hI _ _ e2).2
  · have h1 : hasB o.code = true := h1
    rw [h2]
    rcases origS_cases f (twoB o.code) o.b with e | ⟨_, e2⟩
    · show readB s (origS f (twoB o.code) o.b) = true
      rw [e]; exact hr _ (reads_b h1)
    · exact (hI _ _ e2).2
theorem copyOp_mark (f : Int → Option Int) {o : BOp} (h : o.code = 20) : copyOp f o = o := by
  have h1 : (memI o.a (reads o) && o.code != 20) = false := by rw [h]; simp
  have h2 : twoB o.code = false := by rw [h]; rfl
  unfold copyOp
  rw [h1, h2]
  unfold origS
  rfl
theorem copy_follows : ∀ (l : List BOp) (f : Int → Option Int) {s s1 : Ck}, ckRun s l = some s1 → (copyRun f l).isEmpty = l.isEmpty
  | [], _, _, _, _ => rfl
  | o :: l, f, s, s1, h => by
    obtain ⟨s2, h1, h2⟩ := ck_uncons h
    unfold copyRun
    split
    · rename_i hk
      rw [copy_follows l _ h2]
      cases l with
      | nil =>
        have he := (placed_parts.1 (ck_step h1).2.1).1
        unfold copySkip at hk
        simp only [Bool.and_eq_true, beq_iff_eq] at hk
        have : o.code = 2 := hk.1
        rw [this] at he; cases he
      | cons _ _ => rfl
    · rfl
theorem copy_exit {l : List BOp} (f : Int → Option Int) (h : exitNext l = true) : exitNext (copyRun f l) = true := by
  cases l with
  | nil => cases h
  | cons o l =>
    have hc : o.code = 24 := by simpa [exitNext] using h
    unfold copyRun
    rw [if_neg (by unfold copySkip; show ¬ (o.code == 2 && _) = true; rw [hc]; simp)]
    show (o.code == 24) = true
    rw [hc]; rfl
theorem copyUpd_inv {f : Int → Option Int} {s : Ck} (hI : CopyInv f s) {p : BOp} (hf : formedB p = true) (hr : ∀ v ∈ reads p, readB s v = true) : CopyInv (copyUpd f p) (ckAfter s p) := by
  have hup : ∀ w, readB s w = true → readB (ckAfter s p) w = true := fun w hw => by rw [readB_after, hw]; rfl
  have hkill : ∀ v w, copyKill f (writes p) v = some w → (0 ≤ w ∧ w < 28 ∧ w ≠ 19) ∧ readB (ckAfter s p) w = true := fun v w hv => by
    obtain ⟨h1, _⟩ := Option.filter_eq_some_iff.1 hv
    unfold mdel at h1
    split at h1
    · cases h1
    · exact ⟨(hI _ _ h1).1, hup _ (hI _ _ h1).2⟩
  intro v w hv
  unfold copyUpd at hv
  split at hv
  · exact ⟨(hI _ _ hv).1, hup _ (hI _ _ hv).2⟩
  split at hv
  · rename_i hc
    have hc : p.code = 2 := by simpa using hc
    unfold mput at hv
    split at hv
    · injection hv with hv; subst hv
      refine ⟨?_, hup _ (hr _ (mem_reads.2 (.inl ⟨by rw [hc]; rfl, rfl⟩)))⟩
      have h3 := (formed_split.1 hf).2.2.1
      rw [hc] at h3
      unfold fieldB at h3
      rw [if_pos (show hasA 2 = true from rfl), decide_eq_true_eq] at h3
      exact h3
    · exact hkill v w hv
  · exact hkill v w hv
theorem copy_ck : ∀ (l : List BOp) (f : Int → Option Int) {s s' s1 : Ck}, CkSim s s' → CopyInv f s' → ckRun s l = some s1 → ∃ s2, ckRun s' (copyRun f l) = some s2 ∧ s2.marks = s1.marks
  | [], f, s, s', s1, hS, hI, h => by
    injection h with h; subst h; exact ⟨s', rfl, hS.marks⟩
  | o :: l, f, s, s', s1, hS, hI, h => by
    obtain ⟨s2, h1, h2⟩ := ck_uncons h
    obtain ⟨hf, hp, hm, ho⟩ := ck_step h1
    obtain ⟨p1, p2, p3⟩ := placed_parts.1 hp
    have hpl : ∀ (p : BOp) (g : Int → Option Int), p.code = o.code → placedB s' p (copyRun g l).isEmpty (exitNext (copyRun g l)) = true := fun p g hc =>
      placed_parts.2 ⟨by rw [hc, copy_follows l g h2]; exact p1, fun e => copy_exit g (p2 (hc ▸ e)), fun e => by
        have := p3 (hc ▸ e)
        cases hc' : s'.changed
        · rfl
        · rw [hS.ch hc'] at this; cases this⟩
    unfold copyRun
    by_cases hc : o.code = 20
    · obtain ⟨e1, e2⟩ := hm hc
      have hw : writes o = -1 := by unfold writes; rw [hc]; rfl
      rw [copyOp_mark _ hc, if_neg (by unfold copySkip; rw [hc]; simp)]
      have hu : copyUpd (copyMark f o) o = copyMark f o := by unfold copyUpd; rw [if_pos (by rw [hw]; decide)]
      rw [hu]
      have hI' : CopyInv (copyMark f o) s2 := fun v w hv => by
        unfold copyMark at hv
        rw [if_pos (by simp [hc])] at hv
        obtain ⟨k1, k2⟩ := Option.filter_eq_some_iff.1 hv
        unfold fdel at k1
        split at k1
        · cases k1
        · refine ⟨(hI _ _ k1).1, ?_⟩
          unfold readB
          have : w < 20 := by simpa using k2
          simp [this]
      obtain ⟨s3, k1, k2⟩ := copy_ck l (copyMark f o) (ckSim_refl s2) hI' h2
      refine ⟨s3, ?_, k2⟩
      rw [ck_cons (ck_mark hf (hpl o _ rfl) hc (by rw [hS.marks]; exact e1)), hS.marks, ← e2]
      exact k1
    · obtain ⟨hr, e2⟩ := ho hc
      have e2 : s2 = ckAfter s o := e2
      have hr' : ∀ v ∈ reads o, readB s' v = true := fun v hv => hS.known v (hr v hv)
      rw [copyMark_not f hc]
      have hfp := copyOp_formed hI hf
      have hrp := copyOp_reads hI hr'
      have hwp : writes (copyOp f o) = writes o := rfl
      by_cases hk : copySkip (copyOp f o) = true
      · rw [if_pos hk]
        refine copy_ck l f (s' := s') ⟨by rw [e2]; exact hS.marks, fun v hv => ?_, fun hc' => by rw [e2]; show (s.changed || _) = true; rw [hS.ch hc']; rfl⟩ hI h2
        rw [e2, readB_after, Bool.or_eq_true, decide_eq_true_eq] at hv
        rcases hv with hv | ⟨_, hv⟩
        · exact hS.known v hv
        · unfold copySkip at hk
          simp only [Bool.and_eq_true, beq_iff_eq] at hk
          have hc2 : o.code = 2 := hk.1
          have hwd : writes o = o.d := by unfold writes; rw [hc2]; rfl
          have : v = (copyOp f o).a := by rw [← hk.2, ← hv, hwd]; rfl
          rw [this]
          exact hrp _ (mem_reads.2 (.inl ⟨by show hasA o.code = true; rw [hc2]; rfl, rfl⟩))
      · rw [if_neg hk]
        have hst : ckNext s' (copyOp f o) (copyRun (copyUpd f (copyOp f o)) l).isEmpty (exitNext (copyRun (copyUpd f (copyOp f o)) l)) = some (ckAfter s' (copyOp f o)) := ck_op hfp (hpl _ _ rfl) hc hrp
        rw [ck_cons hst]
        refine copy_ck l _ ⟨by rw [e2]; exact hS.marks, fun v hv => ?_, fun hc' => ?_⟩ (copyUpd_inv hI hfp hrp) h2
        · rw [e2, readB_after] at hv
          rw [readB_after, hwp]
          rw [Bool.or_eq_true] at hv ⊢
          rcases hv with hv | hv
          · exact .inl (hS.known v hv)
          · exact .inr hv
        · rw [e2]
          have hc' : (s'.changed || (stores o.code || decide (0 ≤ writes o ∧ writes o < 20))) = true := hc'
          show (s.changed || (stores o.code || decide (0 ≤ writes o ∧ writes o < 20))) = true
          rw [Bool.or_eq_true] at hc' ⊢
          rcases hc' with h | h
          · exact .inl (hS.ch h)
          · exact .inr h
theorem copy_valid {b : Blk} (hv : validB b = true) : validB (copyP b) = true := by
  unfold copyP copyAll
  rw [if_pos hv]
  obtain ⟨_, s, h2, _⟩ := valid_parts.1 hv
  refine valid_of hv (fun hb => ?_) (copyRun_length _ _) (fun o r hb hc => ?_) (fun s1 h => copy_ck b.ops noneF (ckSim_refl _) (fun v w h => by cases h) h)
  · intro he
    have := copy_follows b.ops noneF h2
    rw [he] at this
    exact hb (ck_empty this.symm)
  · rw [hb]
    unfold copyRun
    rw [copyOp_mark _ hc, if_neg (by unfold copySkip; rw [hc]; simp)]
    exact ⟨o, rfl, hc⟩

/-! Dead. -/
def rD (l : List BOp) : List BOp := (deadRun l.reverse).out.reverse
def mD (l : List BOp) : Nat := (deadRun l.reverse).live
theorem rD_cons (o : BOp) (l : List BOp) : rD (o :: l) = if deadB o (mD l) = true then rD l else o :: rD l := by
  unfold rD mD
  rw [List.reverse_cons, deadRun_snoc]
  unfold deadStep
  split <;> simp
theorem mD_cons (o : BOp) (l : List BOp) : mD (o :: l) = if deadB o (mD l) = true then mD l else beforeM o (mD l) := by
  unfold mD
  rw [List.reverse_cons, deadRun_snoc]
  unfold deadStep
  split <;> simp
theorem mD_is : ∀ (l : List BOp), (∀ o ∈ l, formedB o = true) → MaskIs (mD l) (rD l)
  | [], _ => mask_nil
  | o :: l, h => by
    have ih := mD_is l fun p hp => h p (by simp [hp])
    rw [mD_cons, rD_cons]
    split
    · exact ih
    · exact mask_cons (h o (by simp)) ih
theorem dead_not {o : BOp} (hf : formedB o = true) {l : List BOp} (hl : ∀ p ∈ l, formedB p = true) (hd : deadB o (mD l) = true) : pureB o = true ∧ writes o = o.d ∧ liveAtL (rD l) o.d = false := by
  unfold deadB at hd
  simp only [Bool.and_eq_true, Bool.not_eq_true'] at hd
  obtain ⟨d0, d1⟩ := pure_formed_d hf hd.1
  refine ⟨hd.1, ?_, ?_⟩
  · have := hd.1
    unfold pureB writes at this
    unfold writes
    split at this
    · rename_i h; rw [if_pos h]
    · simp at this
  · have := mD_is l hl o.d.toNat (by omega)
    rw [hd.2, show ((o.d.toNat : Nat) : Int) = o.d by omega] at this
    exact this.symm
theorem dead_follows : ∀ (l : List BOp) {s s1 : Ck}, ckRun s l = some s1 → (rD l).isEmpty = l.isEmpty
  | [], _, _, _ => rfl
  | o :: l, s, s1, h => by
    obtain ⟨s2, h1, h2⟩ := ck_uncons h
    rw [rD_cons]
    split
    · rename_i hk
      rw [dead_follows l h2]
      cases l with
      | nil =>
        have he := (placed_parts.1 (ck_step h1).2.1).1
        unfold deadB at hk
        simp only [Bool.and_eq_true] at hk
        have := pure_code hk.1
        unfold endsB at he
        change decide _ = true at he
        rw [decide_eq_true_eq] at he
        omega
      | cons _ _ => rfl
    · rfl
theorem dead_exit {l : List BOp} (h : exitNext l = true) : exitNext (rD l) = true := by
  cases l with
  | nil => cases h
  | cons o l =>
    have hc : o.code = 24 := by simpa [exitNext] using h
    rw [rD_cons, if_neg (fun hk => by
      unfold deadB at hk
      simp only [Bool.and_eq_true] at hk
      have := pure_code hk.1
      omega)]
    show (o.code == 24) = true
    rw [hc]; rfl
structure DeadSim (s s' : Ck) (r : List BOp) : Prop where
  marks : s'.marks = s.marks
  known : ∀ v, liveAtL r v = true → readB s v = true → readB s' v = true
  ch : s'.changed = true → s.changed = true
theorem dead_ck : ∀ (l : List BOp) {s s' s1 : Ck}, DeadSim s s' (rD l) → ckRun s l = some s1 → ∃ s2, ckRun s' (rD l) = some s2 ∧ s2.marks = s1.marks
  | [], s, s', s1, hS, h => by
    injection h with h; subst h; exact ⟨s', rfl, hS.marks⟩
  | o :: l, s, s', s1, hS, h => by
    obtain ⟨s2, h1, h2⟩ := ck_uncons h
    obtain ⟨hf, hp, hm, ho⟩ := ck_step h1
    have hfl := run_formed h2
    obtain ⟨p1, p2, p3⟩ := placed_parts.1 hp
    rw [rD_cons] at hS ⊢
    by_cases hd : deadB o (mD l) = true
    · rw [if_pos hd] at hS ⊢
      obtain ⟨d1, d2, d3⟩ := dead_not hf hfl hd
      have hc := pure_code d1
      obtain ⟨hr, e2⟩ := ho (by omega)
      have e2 : s2 = ckAfter s o := e2
      refine dead_ck l (s' := s') ⟨by rw [e2]; exact hS.marks, fun v hl hv => ?_, fun hc' => by rw [e2]; show (s.changed || _) = true; rw [hS.ch hc']; rfl⟩ h2
      rw [e2, readB_after, Bool.or_eq_true, decide_eq_true_eq] at hv
      rcases hv with hv | ⟨_, hv⟩
      · exact hS.known v hl hv
      · rw [← hv, d2, d3] at hl; cases hl
    · rw [if_neg hd] at hS ⊢
      have hpl : placedB s' o (rD l).isEmpty (exitNext (rD l)) = true :=
        placed_parts.2 ⟨by rw [dead_follows l h2]; exact p1, fun e => dead_exit (p2 e), fun e => by
          have := p3 e
          cases hc' : s'.changed
          · rfl
          · rw [hS.ch hc'] at this; cases this⟩
      by_cases hc : o.code = 20
      · obtain ⟨e1, e2⟩ := hm hc
        rw [ck_cons (ck_mark hf hpl hc (by rw [hS.marks]; exact e1)), hS.marks, ← e2]
        exact dead_ck l ⟨rfl, fun _ _ h => h, fun h => h⟩ h2
      · obtain ⟨hr, e2⟩ := ho hc
        have e2 : s2 = ckAfter s o := e2
        have hrp : ∀ v ∈ reads o, readB s' v = true := fun v hv => hS.known v (by
          rw [liveAtL_cons]
          have : memI v (reads o) = true := by unfold memI; rw [List.any_eq_true]; exact ⟨v, hv, by simp⟩
          rw [this]; rfl) (hr v hv)
        have hst : ckNext s' o (rD l).isEmpty (exitNext (rD l)) = some (ckAfter s' o) := ck_op hf hpl hc hrp
        rw [ck_cons hst]
        refine dead_ck l ⟨by rw [e2]; exact hS.marks, fun v hl hv => ?_, fun hc' => ?_⟩ h2
        · rw [e2, readB_after] at hv
          rw [readB_after]
          rw [Bool.or_eq_true, decide_eq_true_eq] at hv ⊢
          by_cases hw : 20 ≤ v ∧ writes o = v
          · exact .inr hw
          · rcases hv with hv | hv
            · left
              by_cases h20 : v < 20
              · unfold readB; simp [h20]
              · refine hS.known v ?_ hv
                rw [liveAtL_cons, hl]
                have : (writes o == v) = false := by rw [beq_eq_false_iff_ne]; intro e; exact hw ⟨by omega, e⟩
                rw [this]; simp
            · exact absurd hv hw
        · rw [e2]
          have hc' : (s'.changed || (stores o.code || decide (0 ≤ writes o ∧ writes o < 20))) = true := hc'
          show (s.changed || (stores o.code || decide (0 ≤ writes o ∧ writes o < 20))) = true
          rw [Bool.or_eq_true] at hc' ⊢
          rcases hc' with h | h
          · exact .inl (hS.ch h)
          · exact .inr h
theorem dead_valid {b : Blk} (hv : validB b = true) : validB (deadP b) = true := by
  unfold deadP deadAll
  rw [if_pos hv]
  obtain ⟨_, s, h2, _⟩ := valid_parts.1 hv
  show validB ⟨b.at_, b.pages, rD b.ops⟩ = true
  refine valid_of hv (fun hb => ?_) ?_ (fun o r hb hc => ?_) (fun s1 h => dead_ck b.ops ⟨rfl, fun _ _ h => h, fun h => h⟩ h)
  · intro he
    have := dead_follows b.ops h2
    rw [he] at this
    exact hb (ck_empty this.symm)
  · have := deadAll_length b
    unfold deadAll at this
    rw [if_pos hv] at this
    exact this
  · rw [hb, rD_cons, if_neg (fun hk => by
      unfold deadB at hk
      simp only [Bool.and_eq_true] at hk
      have := pure_code hk.1
      omega)]
    exact ⟨o, rfl, hc⟩

/-! The result of Opt. -/
theorem once_valid {b : Blk} (hv : validB b = true) : validB (onceP b) = true := dead_valid (copy_valid (fold_valid hv))
theorem optN_keeps {mu : Blk → Nat} (hmu : ∀ b, b.ok → (onceP b).ops ≠ b.ops → mu (onceP b) < mu b) : ∀ (n : Nat) {b : Blk}, b.ok → validB b = true → mu b ≤ n → validB (optN n b) = true ∧ (optN n b).ok ∧ (optN n b).at_ = b.at_ ∧ (optN n b).pages = b.pages ∧ (onceP (optN n b)).ops = (optN n b).ops ∧ (optN n b).ops.length ≤ b.ops.length
  | 0, b, hb, hv, hn => by
    have e : optN 0 b = b := rfl
    rw [e]
    refine ⟨hv, hb, rfl, rfl, ?_, Nat.le_refl _⟩
    by_cases h : (onceP b).ops = b.ops
    · exact h
    · have := hmu b hb h; omega
  | n + 1, b, hb, hv, hn => by
    by_cases h : (onceP b).ops = b.ops
    · have e : optN (n + 1) b = b := optN_same h _
      rw [e]; exact ⟨hv, hb, rfl, rfl, h, Nat.le_refl _⟩
    · have hm := hmu b hb h
      have e : optN (n + 1) b = optN n (onceP b) := if_neg h
      rw [e]
      obtain ⟨h1, h2, h3, h4, h5, h6⟩ := optN_keeps hmu n (onceP_ok hb) (once_valid hv) (by omega)
      refine ⟨h1, h2, h3, h4, h5, Nat.le_trans h6 ?_⟩
      exact Nat.le_trans (deadAll_length _) (Nat.le_trans (copyAll_length _) (foldAll_length b))
theorem once_parts {b : Blk} (hb : b.ok) (h : (onceP b).ops = b.ops) : foldAll b = b.ops ∧ copyAll b = b.ops ∧ deadAll b = b.ops := by
  have h1 := fold_mu hb
  have h2 := copy_mu (foldP_ok hb)
  have h3 := dead_mu (copyP_ok (foldP_ok hb))
  have e2 : (foldP b).ops = foldAll b := rfl
  have e3 : (copyP (foldP b)).ops = copyAll (foldP b) := rfl
  have e4 : (onceP b).ops = deadAll (copyP (foldP b)) := rfl
  rw [e2] at h2
  rw [e3] at h3
  rw [e4] at h
  rw [h] at h3
  have k1 : muO b.ops ≤ muO (copyAll (foldP b)) := by
    rcases h3 with h3 | h3
    · rw [h3]; exact Nat.le_refl _
    · omega
  have k2 : muO (copyAll (foldP b)) ≤ muO (foldAll b) := by
    rcases h2 with h2 | h2
    · rw [h2]; exact Nat.le_refl _
    · omega
  have f1 : foldAll b = b.ops := by
    rcases h1 with h1 | h1
    · exact h1
    · omega
  have f0 : foldP b = b := by unfold foldP; rw [f1]
  rw [f0] at h2 h3 k1
  have f2 : copyAll b = b.ops := by
    rcases h2 with h2 | h2
    · rw [h2, f1]
    · rw [f1] at h2; omega
  have f3 : copyP b = b := by unfold copyP; rw [f2]
  rw [f0, f3] at h
  exact ⟨f1, f2, h⟩
def optB (mu : Blk → Nat) (b : Blk) : Blk := ⟨b.at_, b.pages, optAll mu b⟩
/-- What Opt leaves: valid, and none of the passes changes it. -/
theorem opt_fixed {mu : Blk → Nat} (hmu : ∀ b, b.ok → (onceP b).ops ≠ b.ops → mu (onceP b) < mu b) {b : Blk} (hb : b.ok) (hv : validB b = true) : validB (optB mu b) = true ∧ (optB mu b).ok ∧ foldAll (optB mu b) = optAll mu b ∧ copyAll (optB mu b) = optAll mu b ∧ deadAll (optB mu b) = optAll mu b ∧ optAll mu (optB mu b) = optAll mu b ∧ (optAll mu b).length ≤ b.ops.length := by
  obtain ⟨h1, h2, h3, h4, h5, h6⟩ := optN_keeps hmu (mu b) hb hv (Nat.le_refl _)
  have e : optB mu b = optN (mu b) b := by
    unfold optB optAll
    rw [if_pos hv, ← h3, ← h4]
  have eo : optAll mu b = (optN (mu b) b).ops := by unfold optAll; rw [if_pos hv]
  rw [e, eo]
  obtain ⟨k1, k2, k3⟩ := once_parts h2 h5
  refine ⟨h1, h2, k1, k2, k3, ?_, h6⟩
  unfold optAll
  rw [if_pos h1, optN_same h5]
end Go.Proofs.Ytmjfgnnefcimiaa
namespace Go.Proofs.Ytmjfgnnefcimiaa
open Go.RowKit

theorem opt_none {mu : Blk → Nat} {b : Blk} (h : b.ops = []) : optAll mu b = [] := by
  have hv : validB b = false := by
    cases hv : validB b
    · rfl
    · have := (valid_pos hv).1; rw [h] at this; simp at this
  unfold optAll; rw [hv]; exact h
section
variable {w0 : World} {S : List Ow} {K : AV → List Ow → Prop} {b : Blk} {A1 A2 A3 : Option Addr} {n1 n2 n3 c1 c2 c3 : Nat}
/-- A block is the same as one with the same operations in a view. -/
theorem call_same_self (i : Nat) (hb : b.ok) (hn1 : b.at_.length = n1) (hn2 : b.pages.length = n2) (hn3 : b.ops.length = n3)
    (h1 : SlAt w0 w0.heap.size A1 (b.at_.map (.int .u32))) (h2 : SlAt w0 w0.heap.size A2 (b.pages.map (.int .i64))) (h3 : OpsAt w0 w0.heap.size A3 b.ops) (hi : S[i]? = some (.view viewT n3 (b.ops.flatMap opC)))
    (hK : K (one (.bool true)) S) : CallS Try.prog w0 Gs.nil 23 [.p (.agg [.v (.slice A1 n1 c1), .v (.slice A2 n2 c2), .v (.slice A3 n3 c3)]), .p (.agg [.v (.slice A1 n1 c1), .v (.slice A2 n2 c2), .row i])] S K := by
  subst hn1; subst hn2; subst hn3
  refine call_blkV2 (x := .bool true) i hi (by kernel_rfl) (fun r w' A4 c4 hR h4 e1 e2 => ?_) hK
  refine (same_ref A1 A2 A3 A1 A2 A4 c1 c2 c3 c1 c2 c4 b b w' hb.lat hb.lpages hb.lops (sl_later h1 hR.toBelow) (sl_later h2 hR.toBelow) (sl_later h3 hR.toBelow) (sl_later h1 hR.toBelow) (sl_later h2 hR.toBelow) h4).mono fun e w'' ⟨h, hB⟩ => ⟨?_, hB⟩
  rw [h, sameB_self]
end
set_option maxRecDepth 100000 in
/-- Live gives nothing for a block that is not valid. -/
theorem live_bad (b : Blk) (hv : validB b = false) (A1 A2 A3 : Option Addr) (c1 c2 c3 : Nat) (w : World) (hb : b.ok) (h2 : SlAt w w.heap.size A2 (b.pages.map (.int .i64))) (h3 : OpsAt w w.heap.size A3 b.ops) :
    Calls Try.prog 27 #[.agg #[.slice A1 b.at_.length c1, .slice A2 b.pages.length c2, .slice A3 b.ops.length c3]] w fun e w' => e = .returned (.slice none 0 0) ∧ Below w.heap.size w w' := by
  refine calls_satq [.agg #[.slice A1 b.at_.length c1, .slice A2 b.pages.length c2, .slice A3 b.ops.length c3]] Try.func27 Try.ntmps27 rfl (by simp) ?_
  refine satq_seq ?_
  conv => whnf
  refine satq_seq ?_
  conv => whnf
  refine call_con rfl (by kernel_rfl) (fun r w' hR => valid_ir A1 A2 A3 c1 c2 c3 b w' hb (sl_later h2 hR.toBelow) (sl_later h3 hR.toBelow)) ?_
  conv => whnf
  refine ⟨fun hn => ?_, fun hn => absurd hn (by rw [hv]; decide)⟩
  conv => whnf
  refine atq_ret ?_
  conv => whnf
  exact fin_val rfl fun w' hB => ⟨rfl, hB⟩
/-- A block of plain slices and a view that a cell holds, seen as plain memory. -/
theorem own_blkView {w0 : World} {G : Gs} {S : List Ow} {r : Env} {w : World} (hR : Rel w0 G S r w) (i io : Nat) {t : TypeId} {s1 s2 : Value} {l : List BOp} (hi : S[i]? = some (.cells t [.v s1, .v s2, .row io])) (ho : S[io]? = some (.view viewT l.length (l.flatMap opC))) :
    ∃ g A3 c3, r.blk i = some g ∧ CellsAt w Gs.nil g 0 [s1, s2, .slice A3 l.length c3] ∧ OpsAt w w.heap.size A3 l ∧ l.length ≤ c3 ∧ c3 ≤ maxLen := by
  obtain ⟨g, us, h1, h2, h3⟩ := own_cellsAt hR i hi
  simp only [denL, CV.den] at h2
  obtain ⟨u1, l1, rfl, rfl, u2, l2, rfl, rfl, u3, l3, rfl, e3, rfl⟩ := h2
  obtain ⟨A3, c3, rfl, s3, k1, k2, _⟩ := viewAt hR ho e3
  exact ⟨g, A3, c3, h1, h3, s3, k1, k2⟩
theorem cells_later {w w' : World} {g o : Nat} {xs : List Value} (h : CellsAt w Gs.nil g o xs) (hB : Below w.heap.size w w') : CellsAt w' Gs.nil g o xs := ⟨Nat.lt_of_lt_of_le h.1 hB.size, h.2.1, fun j u hj => (hB.cell h.1).trans (h.2.2 j u hj)⟩
set_option maxRecDepth 100000 in
theorem fixed_law {mu : Blk → Nat} (hmu : ∀ b, b.ok → (onceP b).ops ≠ b.ops → mu (onceP b) < mu b) (A : Option Addr) (n c : Nat) (xs : List Int) (q0 q1 q2 : Int) (w : World) (hs : SlAt w w.heap.size A (xs.map (.int .i64))) (hl : xs.length = n) (hnc : n ≤ c) :
    Calls Try.prog 10 #[.slice A n c, .agg #[.int .i64 q0, .int .i64 q1, .int .i64 q2]] w fun e w' => e = .returned (.bool true) ∧ Below w.heap.size w w' := by
  refine calls_satq [.slice A n c, .agg #[.int .i64 q0, .int .i64 q1, .int .i64 q2]] Try.func10 Try.ntmps10 rfl (by simp) ?_
  refine satq_seq ?_
  conv => whnf
  refine satq_seq ?_
  conv => whnf
  refine call_con rfl (by kernel_rfl) (fun r w' hR => sanity_law w') ?_
  conv => whnf
  refine satq_restart fun r w1 hR => ?_
  obtain ⟨g3, us3, b3, d3, k3⟩ := own_cellsAt hR 0 rfl
  obtain rfl := denL_vals_inv (us := [.int .i64 q0, .int .i64 q1, .int .i64 q2]) d3
  have hB0 := hR.toBelow
  refine ⟨slotFr [(0, .slice A n c), (3, .pointer (some ⟨g3, 0, none⟩)), (5, .bool true)], fun a hf => slots_den ⟨slot_val hf rfl, slot_ref hf 3 rfl b3, slot_val hf rfl, trivial⟩, ?_⟩
  have hs1 := sl_later hs hB0
  clear hR b3 d3
  refine satq_mid (α := { y : Blk // TurnOk y }) (fun y => [(5, one (.bool true)), (6, .p (.c (.ref 3 0)))]) (fun y => blkRows y.1 ++ [.cells 32 [.row 0, .row 1, .row 2]]) ?_ fun y => ?_
  · refine satq_vc ?_
    refine sat_any (.q 0 (.q 2 (.alt 1 (.alt 3 (.alt 4 (.alt 5 .done .no) .no) (.alt 4 (.alt 3 (.alt 5 .done .no) .no) .no)) (.alt 4 (.alt 1 (.alt 3 (.alt 5 .done .no) .no) .no) .no)))) mixed (by kernel_rfl) (by kernel_rfl) ?_
    conv => whnf
    refine ⟨_, k3, rfl, ?_⟩
    conv => whnf
    refine ⟨?_, ?_, trivial⟩
    · conv => whnf
      refine call_blk MadeOk (by kernel_rfl) (fun r w' us hR hd => ?_) fun b hb => ?_
      · obtain rfl := avals_den (xs := [.slice A n c]) rfl hd
        exact made_walk A n c xs w' (sl_later hs1 hR.toBelow) hl hnc
      conv => whnf
      refine ⟨?_, ?_, trivial⟩
      · conv => whnf
        refine call_turned 0 1 2 b q0 q1 q2 rfl rfl rfl hb fun y hy => ?_
        conv => whnf
        refine ⟨?_, trivial⟩
        conv => whnf
        refine ⟨?_, trivial⟩
        conv => whnf
        exact atq_mid ⟨y, hy⟩ (ent_ren [3, 4, 5, 6] (aI rfl (aI rfl trivial)) (aI ((Exists.intro _ (aI rfl (aI rfl (aI rfl (aI rfl rfl)))))) (aI ((Exists.intro _ (aI rfl (aI rfl (aI rfl (aI rfl rfl)))))) (aI ((Exists.intro _ (aI rfl (aI rfl (aI rfl (aI rfl rfl)))))) (aI ((Exists.intro _ (aI rfl (aI rfl (Or.inl rfl))))) trivial)))) rfl rfl rfl rfl rfl)
      · conv => whnf
        refine ⟨?_, trivial⟩
        conv => whnf
        refine call_turned 0 1 2 b q0 q1 q2 rfl rfl rfl hb fun y hy => ?_
        conv => whnf
        refine ⟨?_, trivial⟩
        conv => whnf
        exact atq_mid ⟨y, hy⟩ (ent_ren [4, 5, 6, 3] (aI rfl (aI rfl trivial)) (aI ((Exists.intro _ (aI rfl (aI rfl (aI rfl (aI rfl rfl)))))) (aI ((Exists.intro _ (aI rfl (aI rfl (aI rfl (aI rfl rfl)))))) (aI ((Exists.intro _ (aI rfl (aI rfl (aI rfl (aI rfl rfl)))))) (aI ((Exists.intro _ (aI rfl (aI rfl (Or.inl rfl))))) trivial)))) rfl rfl rfl rfl rfl)
    · conv => whnf
      refine ⟨?_, trivial⟩
      conv => whnf
      refine call_blk MadeOk (by kernel_rfl) (fun r w' us hR hd => ?_) fun b hb => ?_
      · obtain rfl := avals_den (xs := [.slice A n c]) rfl hd
        exact made_walk A n c xs w' (sl_later hs1 hR.toBelow) hl hnc
      conv => whnf
      refine ⟨?_, trivial⟩
      conv => whnf
      refine call_turned 1 2 3 b q0 q1 q2 rfl rfl rfl hb fun y hy => ?_
      conv => whnf
      refine ⟨?_, trivial⟩
      conv => whnf
      exact atq_mid ⟨y, hy⟩ (ent_ren [4, 5, 6, 0] (aI rfl (aI rfl trivial)) (aI ((Exists.intro _ (aI rfl (aI rfl (aI rfl (aI rfl rfl)))))) (aI ((Exists.intro _ (aI rfl (aI rfl (aI rfl (aI rfl rfl)))))) (aI ((Exists.intro _ (aI rfl (aI rfl (aI rfl (aI rfl rfl)))))) (aI ((Exists.intro _ (aI rfl (aI rfl (Or.inl rfl))))) trivial)))) rfl rfl rfl rfl rfl)
  obtain ⟨b, hb⟩ := y
  dsimp only
  refine satq_restart fun r w2 hR => ?_
  obtain ⟨g6, A1, c1, A2, c2, A3, c3, b6, k6, s1, s2, s3, m1, m2⟩ := own_blkRows hR 3 0 1 2 b rfl rfl rfl rfl
  have hB1 : Below w.heap.size w w2 := hB0.trans (hR.toBelow.mono hB0.size)
  refine ⟨slotFr [(5, .bool true), (6, .pointer (some ⟨g6, 0, none⟩))], fun a hf => slots_den ⟨slot_val hf rfl, slot_ref hf 6 rfl b6, trivial⟩, ?_⟩
  clear hR b6 k3 hs1 hs
  have hfix := fun hv => opt_fixed (b := b) hmu hb.ok hv
  have hpass := opt_pass hmu
  have hnone : b.ops = [] → optAll mu b = [] := opt_none
  have hbad : validB b = false → optAll mu b = b.ops := fun hv => by unfold optAll; rw [hv]; rfl
  unfold optB at hfix
  generalize optAll mu = F at hfix hpass hnone hbad
  clear hmu
  refine satq_seq ?_
  conv => whnf
  refine ⟨_, k6, rfl, ?_⟩
  conv => whnf
  refine call_pass_pl hpass (by kernel_rfl) hb.ok hnone rfl rfl rfl s1 s2 s3 m1 m2 ?_
  generalize F b = L at hfix hbad
  conv => whnf
  refine satq_restart fun r w3 hR => ?_
  obtain ⟨g7, A7, c7, b7, k7, s7, m71, m72⟩ := own_blkView hR 1 0 (l := L) rfl rfl
  have hB2 : Below w.heap.size w w3 := hB1.trans (hR.toBelow.mono hB1.size)
  have k6' := cells_later k6 hR.toBelow
  refine ⟨slotFr [(5, .bool true), (6, .pointer (some ⟨g6, 0, none⟩)), (7, .pointer (some ⟨g7, 0, none⟩))], fun a hf => slots_den ⟨slot_val hf rfl, slot_val hf rfl, slot_ref hf 7 rfl b7, trivial⟩, ?_⟩
  have t1 := sl_later s1 hR.toBelow
  have t2 := sl_later s2 hR.toBelow
  have t3 := sl_later s3 hR.toBelow
  clear hR b7 k6 s1 s2 s3
  refine satq_seq ?_
  conv => whnf
  refine ⟨_, k6', rfl, ?_⟩
  conv => whnf
  refine call_con rfl (by kernel_rfl) (fun r w' hR => valid_ref A1 A2 A3 c1 c2 c3 b w' hb.ok (sl_later t2 hR.toBelow) (sl_later t3 hR.toBelow)) ?_
  rw [valid_same]
  conv => whnf
  refine ⟨fun hv => ?_, fun hv => ?_⟩
  · have hv : validB b = false := by simpa using hv
    have hF : liveAll b = [] := by unfold liveAll; rw [hv]; rfl
    have hL := hbad hv
    subst hL
    conv => whnf
    refine ⟨true, fun _ => ?_, ?_⟩
    · conv => whnf
      refine ⟨_, k6', rfl, ?_⟩
      conv => whnf
      refine ⟨_, k7, rfl, ?_⟩
      conv => whnf
      refine call_con rfl (by kernel_rfl) (fun r w' hR => same_ref A1 A2 A3 A1 A2 A7 c1 c2 c3 c1 c2 c7 b b w' hb.ok.lat hb.ok.lpages hb.ok.lops (sl_later t1 hR.toBelow) (sl_later t2 hR.toBelow) (sl_later t3 hR.toBelow) (sl_later t1 hR.toBelow) (sl_later t2 hR.toBelow) (sl_later s7 hR.toBelow)) ?_
      rw [sameB_self]
      conv => whnf
      exact ⟨rfl, rfl, rfl, rfl, rfl⟩
    conv => whnf
    refine ⟨true, fun _ => ?_, ?_⟩
    · conv => whnf
      refine ⟨_, k6', rfl, ?_⟩
      conv => whnf
      refine call_con rfl (by kernel_rfl) (fun r w' hR => live_bad b hv A1 A2 A3 c1 c2 c3 w' hb.ok (sl_later t2 hR.toBelow) (sl_later t3 hR.toBelow)) ?_
      conv => whnf
      exact ⟨rfl, rfl, rfl, rfl, rfl⟩
    conv => whnf
    refine atq_ret ?_
    conv => whnf
    exact fin_val rfl fun w' hB => ⟨rfl, hB2.trans (hB.mono hB2.size)⟩
  have hv : validB b = true := by simpa using hv
  obtain ⟨v1, ok, f1, f2, f3, f4, hlen⟩ := hfix hv
  have hfo := fold_law v1
  have hco := copy_law v1
  have hne := dead_law v1
  rw [f1] at hfo
  rw [f2] at hco
  rw [f3] at hne
  have hcodes : ∀ o ∈ L, 1 ≤ o.code ∧ o.code ≤ 25 := by rw [← f1]; exact fold_codes v1
  have hnil : (⟨b.at_, b.pages, L⟩ : Blk).ops = [] → F ⟨b.at_, b.pages, L⟩ = [] := fun h => by rw [f4]; exact h
  have hLl : L.length ≤ 1000000 := ok.lops
  refine satq_seq ?_
  refine sat_any (.q 0 (.q 1 (.alt 2 (.alt 3 (.q 4 (.q 5 (.q 6 (.alt 7 (.alt 8 (.q 9 (.q 10 (.q 11 (.q 12 (.alt 13 (.alt 14 (.q 15 (.q 16 (.q 17 (.q 18 (.alt 19 (.alt 20 (.q 21 (.q 22 .done)) .no) .no))))) .no) .no))))) .no) .no)))) .no) .no))) mixed (by kernel_rfl) (by kernel_rfl) ?_
  conv => whnf
  refine ⟨_, k7, rfl, ?_⟩
  conv => whnf
  refine ⟨_, k7, rfl, ?_⟩
  conv => whnf
  refine ⟨?_, trivial⟩
  conv => whnf
  refine call_pass_pl (b := ⟨b.at_, b.pages, L⟩) fold_pass (by kernel_rfl) ok fold_nil rfl rfl rfl t1 t2 s7 m71 m72 ?_
  rw [f1]
  conv => whnf
  refine ⟨?_, trivial⟩
  conv => whnf
  refine call_same_self (b := ⟨b.at_, b.pages, L⟩) 0 ok rfl rfl rfl t1 t2 s7 rfl ?_
  conv => whnf
  refine ⟨_, k7, rfl, ?_⟩
  conv => whnf
  refine ⟨_, k7, rfl, ?_⟩
  conv => whnf
  refine ⟨?_, trivial⟩
  conv => whnf
  refine call_pass_pl (b := ⟨b.at_, b.pages, L⟩) copies_pass (by kernel_rfl) ok copy_nil rfl rfl rfl t1 t2 s7 m71 m72 ?_
  rw [f2]
  conv => whnf
  refine ⟨?_, trivial⟩
  conv => whnf
  refine call_same_self (b := ⟨b.at_, b.pages, L⟩) 1 ok rfl rfl rfl t1 t2 s7 rfl ?_
  conv => whnf
  refine ⟨_, k7, rfl, ?_⟩
  conv => whnf
  refine ⟨_, k7, rfl, ?_⟩
  conv => whnf
  refine ⟨?_, trivial⟩
  conv => whnf
  refine call_pass_pl (b := ⟨b.at_, b.pages, L⟩) dead_pass (by kernel_rfl) ok dead_nil rfl rfl rfl t1 t2 s7 m71 m72 ?_
  rw [f3]
  conv => whnf
  refine ⟨?_, trivial⟩
  conv => whnf
  refine call_same_self (b := ⟨b.at_, b.pages, L⟩) 2 ok rfl rfl rfl t1 t2 s7 rfl ?_
  conv => whnf
  refine ⟨_, k7, rfl, ?_⟩
  conv => whnf
  refine ⟨_, k7, rfl, ?_⟩
  conv => whnf
  refine ⟨?_, trivial⟩
  conv => whnf
  refine call_pass_pl (b := ⟨b.at_, b.pages, L⟩) hpass (by kernel_rfl) ok hnil rfl rfl rfl t1 t2 s7 m71 m72 ?_
  rw [f4]
  conv => whnf
  refine ⟨?_, trivial⟩
  conv => whnf
  refine call_same_self (b := ⟨b.at_, b.pages, L⟩) 3 ok rfl rfl rfl t1 t2 s7 rfl ?_
  conv => whnf
  refine satq_vc ?_
  conv => whnf
  refine ⟨true, fun _ => ?_, ?_⟩
  · conv => whnf
    exact ⟨rfl, rfl, rfl, rfl, rfl⟩
  conv => whnf
  refine ⟨true, fun _ => ?_, ?_⟩
  · conv => whnf
    refine ⟨_, k7, rfl, ?_⟩
    conv => whnf
    refine call_con rfl (by kernel_rfl) (fun r w' hR => folded_walk L A1 A2 A7 b.at_.length b.pages.length c1 c2 c7 w' (sl_later s7 hR.toBelow) hLl hcodes) ?_
    rw [hfo]
    conv => whnf
    exact ⟨rfl, rfl, rfl, rfl, rfl⟩
  conv => whnf
  refine ⟨true, fun _ => ?_, ?_⟩
  · conv => whnf
    refine ⟨_, k7, rfl, ?_⟩
    conv => whnf
    refine call_con rfl (by kernel_rfl) (fun r w' hR => copied_walk L A1 A2 A7 b.at_.length b.pages.length c1 c2 c7 w' (sl_later s7 hR.toBelow) hLl) ?_
    rw [hco]
    conv => whnf
    exact ⟨rfl, rfl, rfl, rfl, rfl⟩
  conv => whnf
  refine ⟨true, fun _ => ?_, ?_⟩
  · conv => whnf
    refine ⟨_, k7, rfl, ?_⟩
    conv => whnf
    refine call_con rfl (by kernel_rfl) (fun r w' hR => needed_walk L A1 A2 A7 b.at_.length b.pages.length c1 c2 c7 w' (sl_later s7 hR.toBelow) hLl) ?_
    rw [hne]
    conv => whnf
    exact ⟨rfl, rfl, rfl, rfl, rfl⟩
  conv => whnf
  refine atq_ret ?_
  conv => whnf
  exact fin_val rfl fun w' hB => ⟨rfl, hB2.trans (hB.mono hB2.size)⟩
end Go.Proofs.Ytmjfgnnefcimiaa
namespace Go.Proofs.Ytmjfgnnefcimiaa
open Go.ChangeShapes Go.WideShapes Go.ChangeAt Go.RowKit

set_option maxRecDepth 100000 in
theorem optFixed_lifted (os : Os) (started : os.Started) (H : Type) (enc : TypeId × Value → H) :
    ReturnsInHanded {} Try.checked os 10 .any (Rows.optFixedSpec.pre6 enc Try.prog Try.f10 Rows.optFixedRow.domain false) (Rows.optFixedSpec.post enc Try.prog Try.f10 false true false false) := by
  refine returnsInHanded_of_change (C := Try.checked) ownK started (by kernel_rfl) Try.func10
    (ChangeSpec.witness6 (enc := enc) (C := Try.checked) false ⟨#[], #[.slice none 0 0, .agg #[.int .i64 0, .int .i64 0, .int .i64 0]], []⟩ 8 (by kernel_rfl) (by kernel_rfl) (by kernel_rfl) (by kernel_rfl)) ?_
  intro W base args ds gs before hval0 hW hcnd _
  have hval : ∀ (j : Nat) t v, Try.f10.params[j]? = some t → args[j]? = some v → Value.okWide Try.prog W .any base t v := hval0
  have hW' := hW
  obtain ⟨p, q, hA0, hV, rfl, hfz, hnd⟩ := hW
  have hA : DataW.TrodAll enc Try.prog W 0 (fun _ => true) true Try.f10.params.toList args.toList ds p := hA0
  rw [Try.params10] at hA hval
  obtain ⟨v0, vs0, d0, ds0, p0, q0, hargs, rfl, rfl, h0, r0⟩ := trodAll_cons hA
  obtain ⟨v1, vs1, d1, ds1, p1, q1, rfl, rfl, rfl, h1, r1⟩ := trodAll_cons r0
  obtain ⟨rfl, rfl, rfl⟩ := trodAll_nil r1
  obtain rfl : args = #[v0, v1] := by cases args; simp_all
  obtain ⟨rfl, rfl⟩ := trodVars_none hV
  obtain ⟨a0, len0, cap0, rfl⟩ := okWide_slice Try.underlying22 (hval 0 22 v0 rfl rfl)
  have k0 := h0
  have k1 := h1
  have lt0 : ∀ x ∈ p0, x.block < W.heap.size := by obtain ⟨m, hm⟩ := k0; exact DataW.trod_lt m _ _ _ hm
  have lt1 : ∀ x ∈ p1, x.block < W.heap.size := by obtain ⟨m, hm⟩ := k1; exact DataW.trod_lt m _ _ _ hm
  obtain ⟨xs, w0, hl, hnc⟩ := open_sl h0
  obtain ⟨x, y, z, rfl⟩ := open_q (hval 1 23 v1 rfl rfl) h1
  clear hA0 hval0
  refine (fixed_law once_mu a0 len0 cap0 xs x y z W w0 hl hnc).mono fun e W' ⟨he, bel⟩ => ?_
  subst he
  exact ⟨_, rfl, _, _, _, [], _, [], hW', trodAll_mk1 (shut_bool Try.underlying4 _), (trodAll_cons_mk (Below.trod laidOutP (by kernel_rfl) (of_decide_eq_true (by kernel_rfl)) k0 bel lt0) (trodAll_cons_mk (Below.trod laidOutP (by kernel_rfl) (of_decide_eq_true (by kernel_rfl)) k1 bel lt1) trodAll_mk0)), rfl, bel.frame _, fun h => by cases h⟩
theorem optFixed_holds : Rows.OptFixedSaid :=
  OpenClaim.holds_of_wide 10 Try.f10 rfl rfl rfl rfl rfl rfl rfl ⟨rfl, rfl, rfl, rfl, rfl⟩ rfl rfl rfl rfl rfl (by kernel_rfl) Try.func10 (by kernel_rfl)
    (of_decide_eq_true (by kernel_rfl)) (by unfold Func.isWrapper; first | (rw [if_pos (by decide +kernel)]; kernel_rfl) | (rw [if_neg (by decide +kernel)]; exact ⟨rfl, rfl⟩))
    (fun os started H enc _ => optFixed_lifted os started H enc)
end Go.Proofs.Ytmjfgnnefcimiaa
#print axioms Go.Proofs.Ytmjfgnnefcimiaa.optFixed_holds
