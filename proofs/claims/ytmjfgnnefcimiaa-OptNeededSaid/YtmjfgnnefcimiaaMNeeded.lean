/- In the result of Dead every pure operation writes a variable that is live after it: for every input, without any condition. -/
import Derived.Test.YtmjfgnnefcimiaaK1
import Derived.Test.YtmjfgnnefcimiaaK12
import Derived.Test.YtmjfgnnefcimiaaK13
import Derived.Test.YtmjfgnnefcimiaaK14
import Derived.Test.YtmjfgnnefcimiaaK15
import Derived.Test.YtmjfgnnefcimiaaK16
import Derived.Test.YtmjfgnnefcimiaaK17
import Derived.Test.YtmjfgnnefcimiaaK18
import Derived.Test.YtmjfgnnefcimiaaK19
import Derived.Test.YtmjfgnnefcimiaaK2
import Derived.Test.YtmjfgnnefcimiaaK20
import Derived.Test.YtmjfgnnefcimiaaK21
import Derived.Test.YtmjfgnnefcimiaaK22
import Derived.Test.YtmjfgnnefcimiaaK23
import Derived.Test.YtmjfgnnefcimiaaK24
import Derived.Test.YtmjfgnnefcimiaaK26
import Derived.Test.YtmjfgnnefcimiaaK27
import Derived.Test.YtmjfgnnefcimiaaK28
import Derived.Test.YtmjfgnnefcimiaaK29
import Derived.Test.YtmjfgnnefcimiaaK3
import Derived.Test.YtmjfgnnefcimiaaK5
import Derived.Test.YtmjfgnnefcimiaaK6
namespace Go.Proofs.Ytmjfgnnefcimiaa
open Go.RowKit

set_option maxHeartbeats 400000 in
theorem observes_ref (o : BOp) (w : World) :
    Calls Try.prog 86 #[opV o] w fun e w' => e = .returned (.bool (observesB o)) ∧ Below w.heap.size w w' := by
  unfold opV
  go_enter Try.func86, Try.ntmps86
  go_wp2_with (go_at_call 82; refine (mayLeave_ref o _).mono ?_; rintro e w1 ⟨rfl, hb1⟩; obtain ⟨hc1, hf1⟩ := bcell hb1; have hz1 := hb1.size; try simp only [World.size_alloc] at hz1; have hy1_0 : w.heap.size < w1.heap.size := (by omega); have hc1_0 := fun o => hc1 (w.heap.size) o (by first | omega | (simp; done) | (simp; omega)); have hf1_0 := fun o => hf1 (w.heap.size) o (by first | omega | (simp; done) | (simp; omega)))
  all_goals go_ret
  all_goals exact ⟨by simp [observesB, *], (by repeat (first | exact Below.refl _ _ | assumption | (with_reducible refine Below.drew ?_) | (with_reducible refine below_drewN ?_ _) | (with_reducible refine Below.alloc ?_ (by first | exact Nat.le_refl _ | assumption | (simp; done) | (simp; omega) | omega) _) | (with_reducible refine Below.setCell ?_ (by first | exact Nat.le_refl _ | assumption | (simp; done) | (simp; omega) | omega) _) | (with_reducible refine below_call ?_ (by assumption) (by first | exact Nat.le_refl _ | assumption | (simp; done) | (simp; omega) | omega)) | (with_reducible refine below_only ?_ (by assumption) (by first | exact Nat.le_refl _ | assumption | (simp; done) | (simp; omega) | omega) (by first | exact Nat.le_refl _ | assumption | (simp; done) | (simp; omega) | omega))))⟩

end Go.Proofs.Ytmjfgnnefcimiaa
namespace Go.Proofs.Ytmjfgnnefcimiaa
open Go.RowKit

/-- Whether a variable is live before the first of these operations. -/
def liveAtL : List BOp → Int → Bool
  | [], _ => false
  | o :: l, v => if memI v (reads o) || (observesB o && decide (v < 19)) then true else if writes o == v then false else liveAtL l v
def neededL : List BOp → Bool
  | [] => true
  | o :: l => (!pureB o || liveAtL l o.d) && neededL l
theorem liveAtL_cons (o : BOp) (l : List BOp) (v : Int) : liveAtL (o :: l) v = (memI v (reads o) || (observesB o && decide (v < 19)) || (liveAtL l v && !(writes o == v))) := by
  show (if _ then _ else _) = _
  split
  · rename_i h; rw [h]; rfl
  · rename_i h
    have h' : (memI v (reads o) || (observesB o && decide (v < 19))) = false := by simpa using h
    rw [h', Bool.false_or]
    split
    · rename_i h2; rw [h2]; simp
    · rename_i h2; rw [show (writes o == v) = false by simpa using h2]; simp
theorem setM_bit (m k j : Nat) : (setM m k).testBit j = (m.testBit j || decide (k = j)) := by unfold setM; rw [Nat.testBit_or, Nat.testBit_two_pow]
theorem readsM_bit : ∀ (l : List Int) (m : Nat) (v : Nat), (∀ x ∈ l, 0 ≤ x) → (readsM m l).testBit v = (m.testBit v || memI (v : Int) l)
  | [], m, v, _ => by simp [readsM, memI]
  | x :: l, m, v, h => by
    have hx := h x (by simp)
    show (readsM (setM m x.toNat) l).testBit v = _
    rw [readsM_bit l _ v (fun y hy => h y (by simp [hy])), setM_bit]
    unfold memI
    rw [List.any_cons, Bool.or_assoc]
    congr 2
    rw [Bool.eq_iff_iff]; simp; omega
theorem clrM_bit {m d v : Nat} (hd : d < 32) (hv : v < 32) : (clrM m d).testBit v = (m.testBit v && !decide (d = v)) := by
  unfold clrM
  rw [Nat.testBit_and]
  have : (4294967295 - 2 ^ d).testBit v = !decide (d = v) := by
    have e : 4294967295 - 2 ^ d = 2 ^ 32 - (2 ^ d + 1) := by omega
    have h2 : 2 ^ d < 2 ^ 32 := Nat.pow_lt_pow_right (by omega) hd
    rw [e, Nat.testBit_two_pow_sub_succ h2, Nat.testBit_two_pow]
    simp [hv]
  rw [this]
theorem low19_bit (v : Nat) : (524287 : Nat).testBit v = decide (v < 19) := by
  rw [show (524287 : Nat) = 2 ^ 19 - 1 from rfl, Nat.testBit_two_pow_sub_one]
theorem writes_lt {o : BOp} (hf : formedB o = true) : writes o < 28 := by
  have := writes_var hf
  exact this
theorem beforeM_bit {o : BOp} (hf : formedB o = true) (m : Nat) {v : Nat} (hv : v < 28) : (beforeM o m).testBit v = (memI (v : Int) (reads o) || (observesB o && decide ((v : Int) < 19)) || (m.testBit v && !(writes o == (v : Int)))) := by
  have hr : ∀ x ∈ reads o, 0 ≤ x := fun x hx => (reads_var hf x hx).1
  have hw := writes_lt hf
  have hc : (if 0 ≤ writes o then clrM m (writes o).toNat else m).testBit v = (m.testBit v && !(writes o == (v : Int))) := by
    split
    · rename_i h0
      rw [clrM_bit (by omega) (by omega)]
      congr 2
      rw [Bool.eq_iff_iff]; simp; omega
    · rename_i h0
      have : (writes o == (v : Int)) = false := by rw [beq_eq_false_iff_ne]; omega
      rw [this]; simp
  have h19 : decide ((v : Int) < 19) = decide (v < 19) := by rw [decide_eq_decide]; omega
  unfold beforeM
  split
  · rename_i ho
    rw [Nat.testBit_or, readsM_bit _ _ _ hr, hc, low19_bit, ho, h19]
    cases memI (v : Int) (reads o) <;> cases decide (v < 19) <;> simp
  · rename_i ho
    have ho' : observesB o = false := by simpa using ho
    rw [readsM_bit _ _ _ hr, hc, ho']
    cases memI (v : Int) (reads o) <;> simp
/-- The mask says what is live. -/
def MaskIs (m : Nat) (l : List BOp) : Prop := ∀ v : Nat, v < 28 → m.testBit v = liveAtL l (v : Int)
theorem mask_nil : MaskIs 0 [] := fun v _ => by simp [liveAtL]
theorem mask_cons {o : BOp} (hf : formedB o = true) {m : Nat} {l : List BOp} (h : MaskIs m l) : MaskIs (beforeM o m) (o :: l) := fun v hv => by rw [beforeM_bit hf m hv, liveAtL_cons, h v hv]
theorem dead_needed : ∀ (l : List BOp) (s : DeadS), (∀ o ∈ l, formedB o = true) → MaskIs s.live s.out.reverse → neededL s.out.reverse = true → neededL (l.foldl deadStep s).out.reverse = true
  | [], s, _, _, hn => hn
  | o :: l, s, hf, hm, hn => by
    have hfo := hf o (by simp)
    have hfl : ∀ p ∈ l, formedB p = true := fun p hp => hf p (by simp [hp])
    rw [List.foldl_cons]
    by_cases hd : deadB o s.live = true
    · rw [show deadStep s o = s from if_pos hd]
      exact dead_needed l s hfl hm hn
    · rw [show deadStep s o = ⟨beforeM o s.live, s.out ++ [o]⟩ from if_neg hd]
      refine dead_needed l _ hfl ?_ ?_
      · show MaskIs (beforeM o s.live) (s.out ++ [o]).reverse
        rw [List.reverse_append]
        exact mask_cons hfo hm
      · show neededL (s.out ++ [o]).reverse = true
        rw [List.reverse_append]
        show ((!pureB o || liveAtL s.out.reverse o.d) && neededL s.out.reverse) = true
        rw [hn, Bool.and_true]
        cases hp : pureB o
        · rfl
        · obtain ⟨d0, d1⟩ := pure_formed_d hfo hp
          have hm' := hm o.d.toNat (by omega)
          rw [show ((o.d.toNat : Nat) : Int) = o.d by omega] at hm'
          have : s.live.testBit o.d.toNat = true := by
            unfold deadB at hd
            rw [hp] at hd
            simpa using hd
          rw [← hm', this]; rfl
/-- In the result of Dead every operation that only writes a variable is needed. -/
theorem dead_law {b : Blk} (hv : validB b = true) : neededL (deadAll b) = true := by
  unfold deadAll
  rw [if_pos hv]
  exact dead_needed b.ops.reverse ⟨0, []⟩ (fun o ho => valid_formed hv o (List.mem_reverse.1 ho)) mask_nil rfl
end Go.Proofs.Ytmjfgnnefcimiaa
namespace Go.Proofs.Ytmjfgnnefcimiaa
open Go.RowKit

set_option maxRecDepth 100000 in
theorem reads_has (o : BOp) (v : Int) (w : World) : Calls Try.prog 85 #[opV o, .int .i64 v] w fun e w' => e = .returned (.bool (memI v (reads o))) ∧ Below w.heap.size w w' := by
  unfold opV
  have hrl := reads_len o
  refine calls_val [.agg #[.int .i64 o.code, .int .i64 o.d, .int .i64 o.a, .int .i64 o.b, .int .u32 o.n], .int .i64 v] Try.func85 Try.ntmps85 rfl (by simp) ?_
  conv => whnf
  refine call_row rfl (by kernel_rfl) (fun r w' hR => reads_ref o w') ?_
  conv => whnf
  refine ⟨{ k : Nat // k ≤ (reads o).length ∧ memI v ((reads o).take k) = false }, fun x => [(1, one (.int .i64 v)), (5, .p (.c (.row 1))), (6, one (.int .i64 (x.1 : Int)))], fun x => [.gone, .row 3 1 (reads o).length ((reads o).map (.int .i64))], fun x => (reads o).length - x.1,
    ⟨⟨0, by omega, by simp [memI]⟩, ent_same rfl (aI rfl (aI rfl (aI rfl trivial))) (aI ((by trivial)) (aI ((aI rfl (aI rfl (aI rfl rfl)))) trivial))⟩, fun x => ?_⟩
  obtain ⟨k, hk, hm⟩ := x
  dsimp only
  conv => whnf
  refine ⟨fun hc => ?_, fun hc => ?_⟩
  · have hlt : k < (reads o).length := by simpa using hc
    obtain ⟨x, hx⟩ : ∃ x, (reads o)[k]? = some x := ⟨_, List.getElem?_eq_getElem hlt⟩
    conv => whnf
    refine ⟨⟨by omega, by omega⟩, ?_⟩
    conv => whnf
    rw [show (List.map CV.v (List.map (Value.int IntKind.i64) (reads o)))[(k : Int).toNat * tsz Try.prog 3]? = some (.v (.int .i64 x)) by
      rw [show (k : Int).toNat * tsz Try.prog 3 = k from (Nat.mul_one _).trans (Int.toNat_natCast k), List.getElem?_map, List.getElem?_map, hx]; rfl]
    conv => whnf
    have hs : memI v ((reads o).take (k + 1)) = (x == v) := by
      rw [List.take_add_one, hx]
      unfold memI at hm ⊢
      rw [List.any_append, hm]
      simp
    refine ⟨fun he => ?_, fun he => ?_⟩
    · conv => whnf
      refine ⟨_, _, ent_refl, ?_⟩
      conv => whnf
      have hall : memI v (reads o) = true := by
        unfold memI
        rw [List.any_eq_true]
        exact ⟨x, List.mem_of_getElem? hx, he⟩
      exact fin_val rfl fun w' hB => ⟨by rw [hall], hB⟩
    · conv => whnf
      refine ⟨_, wr64 (by omega), ?_⟩
      conv => whnf
      exact ⟨⟨k + 1, by omega, by rw [hs]; exact he⟩, ent_same rfl (aI rfl (aI rfl (aI rfl trivial))) (aI ((by trivial)) (aI ((aI rfl (aI rfl (aI rfl rfl)))) trivial)), by show (reads o).length - (k + 1) < (reads o).length - k; omega⟩
  · have hke : k = (reads o).length := by simp at hc; omega
    subst hke
    conv => whnf
    refine ⟨_, _, ent_refl, ?_⟩
    conv => whnf
    rw [List.take_length] at hm
    exact fin_val rfl fun w' hB => ⟨by rw [hm], hB⟩
set_option maxRecDepth 100000 in
theorem liveAt_walk (l : List BOp) (A1 A2 A3 : Option Addr) (n1 n2 c1 c2 c3 i : Nat) (v : Int) (w : World) (h3 : OpsAt w w.heap.size A3 l) (hl : l.length ≤ 1000000) (hi : i ≤ l.length) :
    Calls Try.prog 59 #[.agg #[.slice A1 n1 c1, .slice A2 n2 c2, .slice A3 l.length c3], .int .i64 (i : Int), .int .i64 v] w fun e w' => e = .returned (.bool (liveAtL (l.drop i) v)) ∧ Below w.heap.size w w' := by
  refine calls_satq [.agg #[.slice A1 n1 c1, .slice A2 n2 c2, .slice A3 l.length c3], .int .i64 (i : Int), .int .i64 v] Try.func59 Try.ntmps59 rfl (by simp) ?_
  refine satq_seq ?_
  conv => whnf
  refine satq_in ?_
  refine satq_seq ?_
  conv => whnf
  refine satq_block ?_
  refine satq_loop (α := { j : Nat // j ≤ l.length ∧ liveAtL (l.drop i) v = liveAtL (l.drop j) v }) (fun x => [(2, one (.int .i64 v)), (3, .p (.c (.ref 0 0))), (7, one (.int .i64 (x.1 : Int)))]) (fun x => [.cells 32 [.v (.slice A1 n1 c1), .v (.slice A2 n2 c2), .v (.slice A3 l.length c3)]]) (fun x => l.length - x.1)
    ⟨i, hi, rfl⟩ (ent_same rfl (aI rfl (aI rfl (aI rfl trivial))) (aI ((aI rfl (Or.inl rfl))) trivial)) fun x => ?_
  obtain ⟨j, hj, hjl⟩ := x
  dsimp only
  refine satq_seq ?_
  conv => whnf
  refine ⟨fun hc => ?_, fun hc => ?_⟩
  · have hlt : j < l.length := by simpa using hc
    obtain ⟨o, ho⟩ : ∃ o, l[j]? = some o := ⟨_, List.getElem?_eq_getElem hlt⟩
    have hstep : liveAtL (l.drop j) v = (memI v (reads o) || (observesB o && decide (v < 19)) || (liveAtL (l.drop (j + 1)) v && !(writes o == v))) := by
      have e : l[j] = o := by rw [List.getElem?_eq_getElem hlt] at ho; injection ho
      rw [List.drop_eq_getElem_cons hlt, e, liveAtL_cons]
    obtain ⟨bb, off, rfl⟩ := ops_addr h3 (by omega)
    conv => whnf
    refine satq_mid (α := { u : Unit // liveAtL (l.drop j) v = liveAtL (l.drop (j + 1)) v }) (fun _ => [(2, one (.int .i64 v)), (3, .p (.c (.ref 0 0))), (7, one (.int .i64 (j : Int)))]) (fun _ => [.cells 32 [.v (.slice A1 n1 c1), .v (.slice A2 n2 c2), .v (.slice (some ⟨bb, off, none⟩) l.length c3)]]) ?_ fun y => ?_
    · refine satq_block ?_
      refine satq_seq ?_
      conv => whnf
      refine ⟨⟨by omega, by omega⟩, ?_⟩
      conv => whnf
      refine ⟨opC o, cells_op h3 (by simp) ho, rfl, ?_⟩
      conv => whnf
      refine satq_seq ?_
      conv => whnf
      refine call_con rfl (by kernel_rfl) (fun r w' hR => reads_has o v w') ?_
      conv => whnf
      refine satq_seq ?_
      conv => whnf
      refine call_con rfl (by kernel_rfl) (fun r w' hR => observes_ref o w') ?_
      conv => whnf
      refine satq_in ?_
      refine satq_mid (α := Unit) (fun _ => [(2, one (.int .i64 v)), (3, .p (.c (.ref 0 0))), (7, one (.int .i64 (j : Int))), (8, .p (.c (.ref 1 0))), (36, one (.bool (memI v (reads o) || (observesB o && decide (v < 19)))))]) (fun _ => [.cells 32 [.v (.slice A1 n1 c1), .v (.slice A2 n2 c2), .v (.slice (some ⟨bb, off, none⟩) l.length c3)], .cells 53 ((opC o).map .v)]) ?_ fun _ => ?_
      · generalize memI v (reads o) = x
        generalize observesB o = y
        refine satq_regionU ?_
        cases x with
        | true =>
          conv => whnf
          (refine ⟨(fun h => absurd h (by decide)), fun _ => ?_⟩; (conv => whnf))
          (refine ⟨(fun h => absurd h (by decide)), fun _ => ?_⟩; (conv => whnf))
          (refine ⟨(fun h => absurd h (by decide)), fun _ => ?_⟩; (conv => whnf))
          (refine ⟨(fun h => absurd h (by decide)), fun _ => ?_⟩; (conv => whnf))
          (refine ⟨(fun h => absurd h (by decide)), fun _ => ?_⟩; (conv => whnf))
          exact atq_mid () (ent_same rfl (aI rfl (aI rfl (aI rfl (aI rfl (aI rfl trivial))))) (aI ((aI rfl (Or.inl rfl))) (aI ((aI rfl (Or.inl rfl))) trivial)))
        | false =>
          conv => whnf
          (refine ⟨fun _ => ?_, (fun h => absurd h (by decide))⟩; (conv => whnf))
          (refine ⟨fun _ => ?_, (fun h => absurd h (by decide))⟩; (conv => whnf))
          cases y with
          | true =>
            (refine ⟨fun _ => ?_, (fun h => absurd h (by decide))⟩; (conv => whnf))
            (refine ⟨fun _ => ?_, (fun h => absurd h (by decide))⟩; (conv => whnf))
            (refine ⟨fun _ => ?_, (fun h => absurd h (by decide))⟩; (conv => whnf))
            exact atq_mid () (ent_same rfl (aI rfl (aI rfl (aI rfl (aI rfl (aI ((by show one _ = one _; simp)) trivial))))) (aI ((aI rfl (Or.inl rfl))) (aI ((aI rfl (Or.inl rfl))) trivial)))
          | false =>
            (refine ⟨(fun h => absurd h (by decide)), fun _ => ?_⟩; (conv => whnf))
            (refine ⟨(fun h => absurd h (by decide)), fun _ => ?_⟩; (conv => whnf))
            (refine ⟨fun _ => ?_, (fun h => absurd h (by decide))⟩; (conv => whnf))
            exact atq_mid () (ent_same rfl (aI rfl (aI rfl (aI rfl (aI rfl (aI rfl trivial))))) (aI ((aI rfl (Or.inl rfl))) (aI ((aI rfl (Or.inl rfl))) trivial)))
      refine satq_cond rfl (fun h => ?_) (fun h => ?_)
      · refine satq_vc ?_
        conv => whnf
        refine atq_up (atq_ret (R := fun e w' => e = .returned (.bool (liveAtL (l.drop i) v)) ∧ Below w.heap.size w w') ?_) (by exact fun _ _ h => h)
        conv => whnf
        exact fin_val rfl fun w' hB => ⟨by rw [hjl, hstep, h]; rfl, hB⟩
      refine satq_skip ?_
      refine atq_on ?_
      refine satq_vc ?_
      conv => whnf
      refine call_con rfl (by kernel_rfl) (fun r w' hR => writes_ref o w') ?_
      conv => whnf
      refine ⟨fun he => ?_, fun he => ?_⟩
      · conv => whnf
        refine atq_up (atq_ret (R := fun e w' => e = .returned (.bool (liveAtL (l.drop i) v)) ∧ Below w.heap.size w w') ?_) (by exact fun _ _ h => h)
        conv => whnf
        exact fin_val rfl fun w' hB => ⟨by rw [hjl, hstep, h, he]; simp, hB⟩
      · conv => whnf
        refine atq_block ?_
        exact atq_mid ⟨(), by rw [hstep, h, he]; simp⟩ (ent_drop (aI rfl (aI rfl (aI rfl trivial))) (aI ((aI rfl (Or.inl rfl))) trivial) rfl rfl)
    refine satq_vc ?_
    conv => whnf
    refine ⟨_, wr64 (by omega), ?_⟩
    conv => whnf
    exact atq_next ⟨j + 1, by omega, by rw [hjl, y.2]⟩ (ent_same rfl (aI rfl (aI rfl (aI rfl trivial))) (aI ((aI rfl (Or.inl rfl))) trivial)) (by show l.length - (j + 1) < l.length - j; omega)
  · have hje : j = l.length := by simp at hc; omega
    subst hje
    rw [List.drop_length] at hjl
    conv => whnf
    refine atq_out (atq_exit (atq_on ?_))
    refine satq_vc ?_
    conv => whnf
    refine atq_ret ?_
    conv => whnf
    exact fin_val rfl fun w' hB => ⟨by rw [hjl]; rfl, hB⟩
theorem neededL_at : ∀ {l : List BOp} {i : Nat} {o : BOp}, l[i]? = some o → neededL (l.drop i) = ((!pureB o || liveAtL (l.drop (i + 1)) o.d) && neededL (l.drop (i + 1)))
  | [], i, o, h => by simp at h
  | x :: l, 0, o, h => by simp at h; subst h; rfl
  | x :: l, i + 1, o, h => by simpa using neededL_at (l := l) (by simpa using h)
set_option maxRecDepth 100000 in
theorem needed_walk (l : List BOp) (A1 A2 A3 : Option Addr) (n1 n2 c1 c2 c3 : Nat) (w : World) (h3 : OpsAt w w.heap.size A3 l) (hl : l.length ≤ 1000000) :
    Calls Try.prog 26 #[.agg #[.slice A1 n1 c1, .slice A2 n2 c2, .slice A3 l.length c3]] w fun e w' => e = .returned (.bool (neededL l)) ∧ Below w.heap.size w w' := by
  refine calls_val [.agg #[.slice A1 n1 c1, .slice A2 n2 c2, .slice A3 l.length c3]] Try.func26 Try.ntmps26 rfl (by simp) ?_
  conv => whnf
  refine ⟨{ j : Nat // j ≤ l.length ∧ neededL l = neededL (l.drop j) }, fun x => [(1, .p (.c (.ref 0 0))), (3, one (.int .i64 (x.1 : Int)))], fun x => [.cells 32 [.v (.slice A1 n1 c1), .v (.slice A2 n2 c2), .v (.slice A3 l.length c3)]], fun x => l.length - x.1,
    ⟨⟨0, by omega, rfl⟩, ent_same rfl (aI rfl (aI rfl trivial)) (aI ((aI rfl (Or.inl rfl))) trivial)⟩, fun x => ?_⟩
  obtain ⟨j, hj, hjl⟩ := x
  dsimp only
  conv => whnf
  refine ⟨fun hc => ?_, fun hc => ?_⟩
  · have hlt : j < l.length := by simpa using hc
    obtain ⟨o, ho⟩ : ∃ o, l[j]? = some o := ⟨_, List.getElem?_eq_getElem hlt⟩
    have hstep := neededL_at ho
    obtain ⟨bb, off, rfl⟩ := ops_addr h3 (by omega)
    conv => whnf
    refine ⟨⟨by omega, by omega⟩, ?_⟩
    conv => whnf
    refine ⟨opC o, cells_op h3 (by simp) ho, rfl, ?_⟩
    conv => whnf
    refine call_con rfl (by kernel_rfl) (fun r w' hR => pure_ref o w') ?_
    conv => whnf
    refine ⟨fun hp => ?_, fun hp => ?_⟩
    · have hp : pureB o = false := by simpa using hp
      conv => whnf
      refine ⟨_, wr64 (by omega), ?_⟩
      conv => whnf
      exact ⟨⟨j + 1, by omega, by rw [hjl, hstep, hp]; rfl⟩, ent_drop (aI rfl (aI rfl trivial)) (aI ((aI rfl (Or.inl rfl))) trivial) rfl rfl, by show l.length - (j + 1) < l.length - j; omega⟩
    have hp : pureB o = true := by simpa using hp
    conv => whnf
    refine ⟨((j + 1 : Nat) : Int), by rw [wr64 (by omega)]; omega, ?_⟩
    conv => whnf
    refine call_con (xs := [.agg #[.slice A1 n1 c1, .slice A2 n2 c2, .slice (some ⟨bb, off, none⟩) l.length c3], .int .i64 ((j + 1 : Nat) : Int), .int .i64 o.d]) rfl (by kernel_rfl) (fun r w' hR => liveAt_walk l A1 A2 (some ⟨bb, off, none⟩) n1 n2 c1 c2 c3 (j + 1) o.d w' (sl_later h3 hR.toBelow) hl (by omega)) ?_
    conv => whnf
    refine ⟨fun hv => ?_, fun hv => ?_⟩
    · have hv : liveAtL (l.drop (j + 1)) o.d = false := by simpa using hv
      conv => whnf
      refine ⟨_, _, ent_refl, ?_⟩
      conv => whnf
      exact fin_val rfl fun w' hB => ⟨by rw [hjl, hstep, hp, hv]; rfl, hB⟩
    · have hv : liveAtL (l.drop (j + 1)) o.d = true := by simpa using hv
      conv => whnf
      refine ⟨_, wr64 (by omega), ?_⟩
      conv => whnf
      exact ⟨⟨j + 1, by omega, by rw [hjl, hstep, hp, hv]; rfl⟩, ent_drop (aI rfl (aI rfl trivial)) (aI ((aI rfl (Or.inl rfl))) trivial) rfl rfl, by show l.length - (j + 1) < l.length - j; omega⟩
  · have hje : j = l.length := by simp at hc; omega
    subst hje
    rw [List.drop_length] at hjl
    conv => whnf
    refine ⟨_, _, ent_refl, ?_⟩
    conv => whnf
    exact fin_val rfl fun w' hB => ⟨by rw [hjl]; rfl, hB⟩
end Go.Proofs.Ytmjfgnnefcimiaa
namespace Go.Proofs.Ytmjfgnnefcimiaa
open Go.RowKit

section
variable {w0 : World} {S : List Ow} {K : AV → List Ow → Prop} {b : Blk} {A1 A2 A3 : Option Addr} {n1 n2 n3 c1 c2 c3 : Nat}
/-- A pass over a block in plain memory. -/
theorem call_pass_pl {P : Program} {fid : FuncId} {F : Blk → List BOp} (hp : Pass P fid F) (hok : fnOk P fid = true) (hb : b.ok) (h0 : b.ops = [] → F b = []) (hn1 : b.at_.length = n1) (hn2 : b.pages.length = n2) (hn3 : b.ops.length = n3)
    (h1 : SlAt w0 w0.heap.size A1 (b.at_.map (.int .u32))) (h2 : SlAt w0 w0.heap.size A2 (b.pages.map (.int .i64))) (h3 : OpsAt w0 w0.heap.size A3 b.ops) (hc3 : n3 ≤ c3) (hm3 : c3 ≤ maxLen)
    (hK : K (.p (.agg [.v (.slice A1 n1 c1), .v (.slice A2 n2 c2), .row S.length])) (S ++ [.view viewT (F b).length ((F b).flatMap opC)])) :
    CallS P w0 Gs.nil fid [.p (.agg [.v (.slice A1 n1 c1), .v (.slice A2 n2 c2), .v (.slice A3 n3 c3)])] S K := by
  subst hn1; subst hn2; subst hn3
  refine ⟨hok, fun r w us hR hd => ?_⟩
  obtain ⟨u1, l1, rfl, d1, d2⟩ := hd
  obtain rfl : l1 = [] := d2
  obtain rfl := AV.val_den (x := .agg #[.slice A1 b.at_.length c1, .slice A2 b.pages.length c2, .slice A3 b.ops.length c3]) rfl d1
  refine (hp b A1 A2 A3 c1 c2 c3 w hb (sl_later h1 hR.toBelow) (sl_later h2 hR.toBelow) (sl_later h3 hR.toBelow) hc3 hm3).mono fun e w' ⟨A', c', he, ho, k1, k2, k3, hB⟩ => ?_
  refine ⟨.p (.agg [.v (.slice A1 b.at_.length c1), .v (.slice A2 b.pages.length c2), .row S.length]), _, _, r.set S.length none (some (.slice A' (F b).length c')), he, ⟨[.slice A1 b.at_.length c1, .slice A2 b.pages.length c2, .slice A' (F b).length c'], rfl, ?_⟩,
    hR.snoc (o := .view viewT (F b).length ((F b).flatMap opC)) hB (b := none) nofun ⟨A', c', by simp [Env.set], k1, ⟨k2, trivial⟩, by simp [Env.set], fun j u hj => ?_⟩, hR.le_new _ _, hK⟩
  · simp only [denL, CV.den]
    exact ⟨_, _, rfl, rfl, _, _, rfl, rfl, _, _, rfl, by simp [Env.set], rfl⟩
  · obtain ⟨b', off, e4, e5, e6⟩ := ho j u hj
    refine ⟨b', off, e4, e5, fun q hq => ?_, e6⟩
    simp only [Env.set] at hq
    split at hq
    · cases hq
    · rcases k3 with k3 | rfl
      · have := k3 b' off none e4
        have := (hR.new q b' hq).1
        omega
      · have hpos : 0 < b.ops.length := by
          rcases Nat.eq_zero_or_pos b.ops.length with h | h
          · rw [h0 (List.eq_nil_of_length_eq_zero h)] at hj; simp at hj
          · exact h
        have h5 := ops_lt (e4 ▸ h3) hpos
        exact absurd ((hR.new q b' hq).2 h5) (by simp)
/-- A call whose argument is a block with its operations in a view. -/
theorem call_blkV {fid : FuncId} (i : Nat) {φ : Option Addr → Prop} {n : Nat} {xs : List Value} {x : Value} {s1 s2 : Value} (hi : S[i]? = some (.view φ n xs)) (hok : fnOk Try.prog fid = true)
    (h : ∀ r w A c, Rel w0 Gs.nil S r w → SlAt w w.heap.size A xs → n ≤ c → c ≤ maxLen → Calls Try.prog fid #[.agg #[s1, s2, .slice A n c]] w fun e w' => e = .returned x ∧ Below w.heap.size w w') (hK : K (AV.of x) S) :
    CallS Try.prog w0 Gs.nil fid [.p (.agg [.v s1, .v s2, .row i])] S K := by
  refine callS_val x hok (fun r w us hR hd => ?_) hK
  obtain ⟨u1, l1, rfl, d1, d2⟩ := hd
  obtain rfl : l1 = [] := d2
  obtain ⟨us, rfl, hl'⟩ := den_agg d1
  simp only [denL, CV.den] at hl'
  obtain ⟨u1, l1, rfl, rfl, u2, l2, rfl, rfl, u3, l3, rfl, e3, rfl⟩ := hl'
  obtain ⟨A, c, rfl, s, k1, k2, _⟩ := viewAt hR hi e3
  exact h r w A c hR s k1 k2
theorem call_blkV2 {fid : FuncId} (i : Nat) {φ : Option Addr → Prop} {n : Nat} {xs : List Value} {x : Value} {s1 s2 t1 t2 t3 : Value} (hi : S[i]? = some (.view φ n xs)) (hok : fnOk Try.prog fid = true)
    (h : ∀ r w A c, Rel w0 Gs.nil S r w → SlAt w w.heap.size A xs → n ≤ c → c ≤ maxLen → Calls Try.prog fid #[.agg #[t1, t2, t3], .agg #[s1, s2, .slice A n c]] w fun e w' => e = .returned x ∧ Below w.heap.size w w') (hK : K (AV.of x) S) :
    CallS Try.prog w0 Gs.nil fid [.p (.agg [.v t1, .v t2, .v t3]), .p (.agg [.v s1, .v s2, .row i])] S K := by
  refine callS_val x hok (fun r w us hR hd => ?_) hK
  obtain ⟨u1, l1, rfl, d1, u2, l2, rfl, d2, d3⟩ := hd
  obtain rfl : l2 = [] := d3
  obtain rfl := AV.val_den (x := .agg #[t1, t2, t3]) rfl d1
  obtain ⟨us, rfl, hl'⟩ := den_agg d2
  simp only [denL, CV.den] at hl'
  obtain ⟨u1, l1, rfl, rfl, u2, l2, rfl, rfl, u3, l3, rfl, e3, rfl⟩ := hl'
  obtain ⟨A, c, rfl, s, k1, k2, _⟩ := viewAt hR hi e3
  exact h r w A c hR s k1 k2
end
theorem sameB_self (b : Blk) : sameB b b = true := by simp [sameB]
end Go.Proofs.Ytmjfgnnefcimiaa
namespace Go.Proofs.Ytmjfgnnefcimiaa
open Go.RowKit

set_option maxRecDepth 100000 in
theorem needed_law (A : Option Addr) (n c : Nat) (xs : List Int) (q0 q1 q2 : Int) (w : World) (hs : SlAt w w.heap.size A (xs.map (.int .i64))) (hl : xs.length = n) (hnc : n ≤ c) :
    Calls Try.prog 9 #[.slice A n c, .agg #[.int .i64 q0, .int .i64 q1, .int .i64 q2]] w fun e w' => e = .returned (.bool true) ∧ Below w.heap.size w w' := by
  refine calls_satq [.slice A n c, .agg #[.int .i64 q0, .int .i64 q1, .int .i64 q2]] Try.func9 Try.ntmps9 rfl (by simp) ?_
  refine satq_seq ?_
  conv => whnf
  refine satq_seq ?_
  conv => whnf
  refine call_con rfl (by kernel_rfl) (fun r w' hR => sanity_law w') ?_
  conv => whnf
  refine satq_restart fun r w1 hR => ?_
  obtain ⟨g3, us3, b3, d3, k3⟩ := own_cellsAt hR 0 rfl
  obtain rfl := denL_vals_inv (us := [.int .i64 q0, .int .i64 q1, .int .i64 q2]) d3
  have hB0 := hR.toBelow
  refine ⟨slotFr [(0, .slice A n c), (3, .pointer (some ⟨g3, 0, none⟩)), (5, .bool true)], fun a hf => slots_den ⟨slot_val hf rfl, slot_ref hf 3 rfl b3, slot_val hf rfl, trivial⟩, ?_⟩
  have hs1 := sl_later hs hB0
  clear hR b3 d3
  refine satq_mid (α := { y : Blk // TurnOk y }) (fun y => [(5, one (.bool true)), (6, .p (.c (.ref 3 0)))]) (fun y => blkRows y.1 ++ [.cells 32 [.row 0, .row 1, .row 2]]) ?_ fun y => ?_
  · refine satq_vc ?_
    refine sat_any (.q 0 (.q 2 (.alt 1 (.alt 3 (.alt 4 (.alt 5 .done .no) .no) (.alt 4 (.alt 3 (.alt 5 .done .no) .no) .no)) (.alt 4 (.alt 1 (.alt 3 (.alt 5 .done .no) .no) .no) .no)))) mixed (by kernel_rfl) (by kernel_rfl) ?_
    conv => whnf
    refine ⟨_, k3, rfl, ?_⟩
    conv => whnf
    refine ⟨?_, ?_, trivial⟩
    · conv => whnf
      refine call_blk MadeOk (by kernel_rfl) (fun r w' us hR hd => ?_) fun b hb => ?_
      · obtain rfl := avals_den (xs := [.slice A n c]) rfl hd
        exact made_walk A n c xs w' (sl_later hs1 hR.toBelow) hl hnc
      conv => whnf
      refine ⟨?_, ?_, trivial⟩
      · conv => whnf
        refine call_turned 0 1 2 b q0 q1 q2 rfl rfl rfl hb fun y hy => ?_
        conv => whnf
        refine ⟨?_, trivial⟩
        conv => whnf
        refine ⟨?_, trivial⟩
        conv => whnf
        exact atq_mid ⟨y, hy⟩ (ent_ren [3, 4, 5, 6] (aI rfl (aI rfl trivial)) (aI ((Exists.intro _ (aI rfl (aI rfl (aI rfl (aI rfl rfl)))))) (aI ((Exists.intro _ (aI rfl (aI rfl (aI rfl (aI rfl rfl)))))) (aI ((Exists.intro _ (aI rfl (aI rfl (aI rfl (aI rfl rfl)))))) (aI ((Exists.intro _ (aI rfl (aI rfl (Or.inl rfl))))) trivial)))) rfl rfl rfl rfl rfl)
      · conv => whnf
        refine ⟨?_, trivial⟩
        conv => whnf
        refine call_turned 0 1 2 b q0 q1 q2 rfl rfl rfl hb fun y hy => ?_
        conv => whnf
        refine ⟨?_, trivial⟩
        conv => whnf
        exact atq_mid ⟨y, hy⟩ (ent_ren [4, 5, 6, 3] (aI rfl (aI rfl trivial)) (aI ((Exists.intro _ (aI rfl (aI rfl (aI rfl (aI rfl rfl)))))) (aI ((Exists.intro _ (aI rfl (aI rfl (aI rfl (aI rfl rfl)))))) (aI ((Exists.intro _ (aI rfl (aI rfl (aI rfl (aI rfl rfl)))))) (aI ((Exists.intro _ (aI rfl (aI rfl (Or.inl rfl))))) trivial)))) rfl rfl rfl rfl rfl)
    · conv => whnf
      refine ⟨?_, trivial⟩
      conv => whnf
      refine call_blk MadeOk (by kernel_rfl) (fun r w' us hR hd => ?_) fun b hb => ?_
      · obtain rfl := avals_den (xs := [.slice A n c]) rfl hd
        exact made_walk A n c xs w' (sl_later hs1 hR.toBelow) hl hnc
      conv => whnf
      refine ⟨?_, trivial⟩
      conv => whnf
      refine call_turned 1 2 3 b q0 q1 q2 rfl rfl rfl hb fun y hy => ?_
      conv => whnf
      refine ⟨?_, trivial⟩
      conv => whnf
      exact atq_mid ⟨y, hy⟩ (ent_ren [4, 5, 6, 0] (aI rfl (aI rfl trivial)) (aI ((Exists.intro _ (aI rfl (aI rfl (aI rfl (aI rfl rfl)))))) (aI ((Exists.intro _ (aI rfl (aI rfl (aI rfl (aI rfl rfl)))))) (aI ((Exists.intro _ (aI rfl (aI rfl (aI rfl (aI rfl rfl)))))) (aI ((Exists.intro _ (aI rfl (aI rfl (Or.inl rfl))))) trivial)))) rfl rfl rfl rfl rfl)
  obtain ⟨b, hb⟩ := y
  dsimp only
  refine satq_restart fun r w2 hR => ?_
  obtain ⟨g6, A1, c1, A2, c2, A3, c3, b6, k6, s1, s2, s3, m1, m2⟩ := own_blkRows hR 3 0 1 2 b rfl rfl rfl rfl
  have hB1 : Below w.heap.size w w2 := hB0.trans (hR.toBelow.mono hB0.size)
  refine ⟨slotFr [(5, .bool true), (6, .pointer (some ⟨g6, 0, none⟩))], fun a hf => slots_den ⟨slot_val hf rfl, slot_ref hf 6 rfl b6, trivial⟩, ?_⟩
  clear hR b6 k3 hs1 hs
  refine satq_seq ?_
  conv => whnf
  refine ⟨_, k6, rfl, ?_⟩
  conv => whnf
  refine call_pass_pl dead_pass (by kernel_rfl) hb.ok dead_nil rfl rfl rfl s1 s2 s3 m1 m2 ?_
  conv => whnf
  refine satq_seq ?_
  conv => whnf
  refine ⟨_, k6, rfl, ?_⟩
  conv => whnf
  refine call_con rfl (by kernel_rfl) (fun r w' hR => valid_ref A1 A2 A3 c1 c2 c3 b w' hb.ok (sl_later s2 hR.toBelow) (sl_later s3 hR.toBelow)) ?_
  rw [valid_same]
  conv => whnf
  refine ⟨fun hv => ?_, fun hv => ?_⟩
  · have hv : validB b = false := by simpa using hv
    have hF : deadAll b = b.ops := by unfold deadAll; rw [hv]; rfl
    rw [hF]
    conv => whnf
    refine ⟨true, fun _ => ?_, ?_⟩
    · conv => whnf
      refine ⟨_, k6, rfl, ?_⟩
      conv => whnf
      refine call_blkV2 (x := .bool true) 0 rfl (by kernel_rfl) (fun r w' A4 c4 hR h4 e1 e2 => ?_) ?_
      · refine (same_ref A1 A2 A3 A1 A2 A4 c1 c2 c3 c1 c2 c4 b b w' hb.ok.lat hb.ok.lpages hb.ok.lops (sl_later s1 hR.toBelow) (sl_later s2 hR.toBelow) (sl_later s3 hR.toBelow) (sl_later s1 hR.toBelow) (sl_later s2 hR.toBelow) h4).mono fun e w'' ⟨h, hB⟩ => ⟨?_, hB⟩
        rw [h, sameB_self]
      conv => whnf
      exact ⟨rfl, rfl, rfl, rfl, rfl⟩
    conv => whnf
    refine atq_ret ?_
    conv => whnf
    exact fin_val rfl fun w' hB => ⟨rfl, hB1.trans (hB.mono hB1.size)⟩
  conv => whnf
  refine satq_vc ?_
  conv => whnf
  refine ⟨true, fun _ => ?_, ?_⟩
  · conv => whnf
    refine call_blkV (x := .bool true) 0 rfl (by kernel_rfl) (fun r w' A4 c4 hR h4 e1 e2 => ?_) ?_
    · refine (needed_walk (deadAll b) A1 A2 A4 b.at_.length b.pages.length c1 c2 c4 w' h4 (Nat.le_trans (deadAll_length b) hb.ok.lops)).mono fun e w'' ⟨h, hB⟩ => ⟨?_, hB⟩
      rw [h, dead_law (by simpa using hv)]
    conv => whnf
    exact ⟨rfl, rfl, rfl, rfl, rfl⟩
  conv => whnf
  refine atq_ret ?_
  conv => whnf
  exact fin_val rfl fun w' hB => ⟨rfl, hB1.trans (hB.mono hB1.size)⟩
end Go.Proofs.Ytmjfgnnefcimiaa
namespace Go.Proofs.Ytmjfgnnefcimiaa
open Go.ChangeShapes Go.WideShapes Go.ChangeAt Go.RowKit

set_option maxRecDepth 100000 in
theorem optNeeded_lifted (os : Os) (started : os.Started) (H : Type) (enc : TypeId × Value → H) :
    ReturnsInHanded {} Try.checked os 9 .any (Rows.optNeededSpec.pre6 enc Try.prog Try.f9 Rows.optNeededRow.domain false) (Rows.optNeededSpec.post enc Try.prog Try.f9 false true false false) := by
  refine returnsInHanded_of_change (C := Try.checked) ownK started (by kernel_rfl) Try.func9
    (ChangeSpec.witness6 (enc := enc) (C := Try.checked) false ⟨#[], #[.slice none 0 0, .agg #[.int .i64 0, .int .i64 0, .int .i64 0]], []⟩ 8 (by kernel_rfl) (by kernel_rfl) (by kernel_rfl) (by kernel_rfl)) ?_
  intro W base args ds gs before hval0 hW hcnd _
  have hval : ∀ (j : Nat) t v, Try.f9.params[j]? = some t → args[j]? = some v → Value.okWide Try.prog W .any base t v := hval0
  have hW' := hW
  obtain ⟨p, q, hA0, hV, rfl, hfz, hnd⟩ := hW
  have hA : DataW.TrodAll enc Try.prog W 0 (fun _ => true) true Try.f9.params.toList args.toList ds p := hA0
  rw [Try.params9] at hA hval
  obtain ⟨v0, vs0, d0, ds0, p0, q0, hargs, rfl, rfl, h0, r0⟩ := trodAll_cons hA
  obtain ⟨v1, vs1, d1, ds1, p1, q1, rfl, rfl, rfl, h1, r1⟩ := trodAll_cons r0
  obtain ⟨rfl, rfl, rfl⟩ := trodAll_nil r1
  obtain rfl : args = #[v0, v1] := by cases args; simp_all
  obtain ⟨rfl, rfl⟩ := trodVars_none hV
  obtain ⟨a0, len0, cap0, rfl⟩ := okWide_slice Try.underlying22 (hval 0 22 v0 rfl rfl)
  have k0 := h0
  have k1 := h1
  have lt0 : ∀ x ∈ p0, x.block < W.heap.size := by obtain ⟨m, hm⟩ := k0; exact DataW.trod_lt m _ _ _ hm
  have lt1 : ∀ x ∈ p1, x.block < W.heap.size := by obtain ⟨m, hm⟩ := k1; exact DataW.trod_lt m _ _ _ hm
  obtain ⟨xs, w0, hl, hnc⟩ := open_sl h0
  obtain ⟨x, y, z, rfl⟩ := open_q (hval 1 23 v1 rfl rfl) h1
  clear hA0 hval0
  refine (needed_law a0 len0 cap0 xs x y z W w0 hl hnc).mono fun e W' ⟨he, bel⟩ => ?_
  subst he
  exact ⟨_, rfl, _, _, _, [], _, [], hW', trodAll_mk1 (shut_bool Try.underlying4 _), (trodAll_cons_mk (Below.trod laidOutP (by kernel_rfl) (of_decide_eq_true (by kernel_rfl)) k0 bel lt0) (trodAll_cons_mk (Below.trod laidOutP (by kernel_rfl) (of_decide_eq_true (by kernel_rfl)) k1 bel lt1) trodAll_mk0)), rfl, bel.frame _, fun h => by cases h⟩
theorem optNeeded_holds : Rows.OptNeededSaid :=
  OpenClaim.holds_of_wide 9 Try.f9 rfl rfl rfl rfl rfl rfl rfl ⟨rfl, rfl, rfl, rfl, rfl⟩ rfl rfl rfl rfl rfl (by kernel_rfl) Try.func9 (by kernel_rfl)
    (of_decide_eq_true (by kernel_rfl)) (by unfold Func.isWrapper; first | (rw [if_pos (by decide +kernel)]; kernel_rfl) | (rw [if_neg (by decide +kernel)]; exact ⟨rfl, rfl⟩))
    (fun os started H enc _ => optNeeded_lifted os started H enc)
end Go.Proofs.Ytmjfgnnefcimiaa
#print axioms Go.Proofs.Ytmjfgnnefcimiaa.optNeeded_holds
