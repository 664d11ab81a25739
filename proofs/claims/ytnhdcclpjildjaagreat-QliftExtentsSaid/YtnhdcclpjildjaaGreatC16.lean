/- The lifter: Lift. -/
import Derived.Test.YtnhdcclpjildjaaGreatC15
namespace Go.Proofs.YtnhdcclpjildjaaGreat
open Go.RowKit

theorem below_next {a b c : World} (h : Below a.heap.size a b) (k : Below b.heap.size b c) : Below a.heap.size a c := ⟨k.os.trans h.os, k.tape.trans h.tape, k.output.trans h.output, Nat.le_trans h.size k.size, fun i hi => (k.block i (Nat.lt_of_lt_of_le hi h.size)).trans (h.block i hi)⟩
def limN (most : Int) : Nat := (min (max most 1) 64).toNat
theorem limN_ok (most : Int) : 1 ≤ limN most ∧ limN most ≤ 64 := by unfold limN; omega
def addTo (l : List Int) (a : Int) : Nat → List Int
 | 0 => l
 | j + 1 => addPage (addTo l a j) (a + j)
theorem addTo_four (l : List Int) (a : Int) : addTo l a 4 = addPages l a := by simp [addTo, addPages]
theorem readQ_ok {F : Int → Option Int} (hF : ∀ a b, F a = some b → 0 ≤ b ∧ b < 256) {a : Int} {i : QI} (h : readQ F a = some i) : i.ok := by
 unfold readQ at h
 split at h
 ·cases hn : readN F a 4 with
  | none => rw [hn] at h; cases h
  | some x => rw [hn] at h; exact decQ_ok (by have := readN_lt hF hn; unfold word; omega) h
 ·cases h
structure LfS (F : Int → Option QI) (pc : Int) (n : Nat) where
 more : Bool
 k : Nat
 ps : List Int
 pre : List BOp
 hk : k ≤ n
 hps : ∀ x, x ∈ ps ↔ x ∈ liftPages pc k
 hpl : ps.length ≤ 4 * k
 hol : pre.length ≤ 8 * k
 hgo : more = true → k < n ∧ pre ++ liftOps F pc n (n - k) k = liftOps F pc n n 0 ∧ liftLen F pc n (n - k) k = liftLen F pc n n 0
 hend : more = false → pre = liftOps F pc n n 0 ∧ k = liftLen F pc n n 0
structure PgS (l : List Int) (a : Int) (m : Nat) where
 j : Nat
 q : List Int
 hj : j ≤ 4
 hq : ∀ x, x ∈ q ↔ x ∈ addTo l a j
 hl : q.length ≤ m + j
abbrev blT : TypeId := 32
abbrev nilB : Value := .slice none 0 0
abbrev zerosC : List CV := [.v nilB, .v nilB, .v nilB]
abbrev liftS (ats ps : List Int) (ops : List BOp) : List Ow := [.cells blT zerosC, .cells liT [.row 2, .row 3, .row 4], .row 35 1 ats.length (ats.map (.int .u32)), .row 3 1 ps.length (ps.map intV), .row opT 5 ops.length (ops.flatMap opC)]
set_option maxRecDepth 100000 in
set_option maxHeartbeats 8000000 in
theorem lift_walk (w : World) (F : Int → Option Int) (hF : ∀ a b, F a = some b → 0 ≤ b ∧ b < 256) (m : Nat) (t : TypeId) (hm : ∀ w, (method (Tryz.prog.types.size + Made.depth) t (ptrV m) "Fetch").run Tryz.prog w = .ok (163, ptrV m) w)
  (hcall : ∀ w' x, Below w.heap.size w w' → word x → Calls Tryz.prog 163 #[ptrV m, .int .u32 x] w' fun e w2 => e = .returned (fetV (F x)) ∧ Below w'.heap.size w' w2) (pc most : Int) (_hpc : word pc) :
  Calls Tryz.prog 40 #[.int .u32 pc, .iface t (ptrV m), intV most] w fun e w' => ∃ v1 v2 v3, e = .returned (.agg #[v1, v2, v3]) ∧ Rows3 w.heap.size w' v1 v2 v3 (liftQ (readQ F) pc (limN most)) ∧ Below w.heap.size w w' := by
 refine calls_satq [.int .u32 pc, .iface t (ptrV m), intV most] Tryz.func40 Tryz.ntmps40 rfl (by simp) ?_
 refine satq_seqN ?_
 conv => whnf
 refine satq_seqN ?_
 conv => whnf
 refine op_max rfl rfl rfl rfl ?_
 conv => whnf
 refine op_min rfl rfl rfl rfl ?_
 have hlim : (if 64 < (if most < 1 then 1 else most) then 64 else (if most < 1 then 1 else most)) = ((limN most : Nat) : Int) := by
  unfold limN; split <;> split <;> omega
 rw [hlim]
 obtain ⟨hn1, hn64⟩ := limN_ok most
 generalize limN most = n at hn1 hn64 ⊢
 clear hlim
 conv => whnf
 refine satq_seqN ?_
 conv => whnf
 refine satq_as (ent_field 1 0 35 1 rfl rfl) ?_
 refine satq_as (ent_field 1 1 3 1 rfl rfl) ?_
 refine satq_as (ent_field 1 2 opT 5 rfl rfl) ?_
 conv => whnf
 refine satq_mid (α := { p : List Int // (∀ x, x ∈ p ↔ x ∈ liftPages pc (liftLen (readQ F) pc n n 0)) ∧ p.length ≤ 256 }) (fun x => [(6, .p (.c (.ref 0 0))), (8, .p (.c (.ref 1 0)))]) (fun x => liftS (liftAts pc (liftLen (readQ F) pc n n 0)) x.1 (liftOps (readQ F) pc n n 0)) ?_ fun x => ?_
 ·refine satq_seqN ?_
  conv => whnf
  refine satq_block ?_
  refine satq_loop (α := LfS (readQ F) pc n) (fun x => [(0, one (.int .u32 pc)), (1, one (.iface t (ptrV m))), (6, .p (.c (.ref 0 0))), (7, one (.int .i64 (n : Int))), (8, .p (.c (.ref 1 0))), (9, one (.bool x.more))]) (fun x => liftS (liftAts pc x.k) x.ps x.pre) (fun x => (n - x.k) + if x.more then 1 else 0)
   ⟨true, 0, [], [], by omega, fun x => by simp [liftPages], by simp, by simp, fun _ => ⟨by omega, rfl, rfl⟩, fun h => by cases h⟩
   (ent_same rfl (aI rfl (aI rfl (aI rfl (aI rfl (aI rfl (aI rfl trivial)))))) (aI sM (aI sM (aI ((aI rfl (aI rfl (aI rfl rfl)))) (aI ((aI rfl (aI rfl (aI rfl rfl)))) (aI ((aI rfl (aI rfl (aI rfl rfl)))) trivial)))))) fun x => ?_
  obtain ⟨more, k, ps, pre, hk, hps, hpl, hol, hgo, hend⟩ := x
  dsimp only
  refine satq_seqN ?_
  conv => whnf
  refine ⟨fun hc => ?_, fun hc => ?_⟩
  ·obtain ⟨hkn, hops, hlen⟩ := hgo hc
   have hal : (liftAts pc k).length = k := by simp [liftAts]
   conv => whnf
   refine satq_block ?_
   refine satq_seqN ?_
   conv => whnf
   rw [hal]
   refine ⟨4 * (k : Int), by rw [wr64] <;> omega, ?_⟩
   conv => whnf
   refine ⟨4 * (k : Int), by rw [wr32]; omega, ?_⟩
   conv => whnf
   refine ⟨qAddr pc k, by rw [wr32]; rfl, ?_⟩
   conv => whnf
   refine satq_in (satq_kill 10 rfl rfl rfl ?_)
   conv => whnf
   rw [hal]
   refine ⟨(k : Int), by rw [wr32]; omega, ?_⟩
   conv => whnf
   refine kill_add 1 4 5 1 [⟨20, 0, 0, 0, (k : Int)⟩] rfl rfl rfl rfl ⟨by decide, by decide, by decide⟩ (Nat.zero_le _) rfl rfl (by omega) ?_
   conv => whnf
   refine atq_on ?_
   refine satq_seqN ?_
   conv => whnf
   refine appK_sound rfl ?_ rfl
   conv => whnf
   refine ⟨by omega, ?_⟩
   conv => whnf
   have hadd : ∀ x, x ∈ addTo (liftPages pc k) (qAddr pc k) 4 ↔ x ∈ liftPages pc (k + 1) := fun x => by rw [addTo_four]; rfl
   refine satq_mid (α := { q : List Int // (∀ x, x ∈ q ↔ x ∈ liftPages pc (k + 1)) ∧ q.length ≤ 4 * (k + 1) }) (fun x => [(0, one (.int .u32 pc)), (1, one (.iface t (ptrV m))), (6, .p (.c (.ref 0 0))), (7, one (.int .i64 (n : Int))), (8, .p (.c (.ref 1 0))), (10, one (.int .u32 (qAddr pc k)))]) (fun x => liftS (liftAts pc (k + 1)) x.1 (pre ++ [⟨20, 0, 0, 0, (k : Int)⟩])) ?_ fun x => ?_
   ·refine satq_seqN ?_
    conv => whnf
    refine satq_block ?_
    refine satq_loop (α := PgS (liftPages pc k) (qAddr pc k) (4 * k)) (fun x => [(0, one (.int .u32 pc)), (1, one (.iface t (ptrV m))), (6, .p (.c (.ref 0 0))), (7, one (.int .i64 (n : Int))), (8, .p (.c (.ref 1 0))), (10, one (.int .u32 (qAddr pc k))), (54, one (.int .u32 (x.j : Int)))]) (fun x => liftS (liftAts pc (k + 1)) x.q (pre ++ [⟨20, 0, 0, 0, (k : Int)⟩])) (fun x => 4 - x.j)
     ⟨0, ps, by omega, hps, hpl⟩
     (ent_drop (aI rfl (aI rfl (aI rfl (aI rfl (aI rfl (aI rfl (aI rfl trivial))))))) (aI sM (aI sM (aI ((aI rfl (aI rfl (aI (by simp [liftAts]) (by simp [liftAts_succ]))))) (aI ((aI rfl (aI rfl (aI rfl rfl)))) (aI ((aI rfl (aI rfl (aI rfl rfl)))) trivial))))) rfl rfl) fun x => ?_
    obtain ⟨j, q, hj, hq, hql⟩ := x
    dsimp only
    have haw : word (qAddr pc k) := cut32_word _
    refine satq_seqN ?_
    conv => whnf
    refine satq_seqN ?_
    conv => whnf
    refine ⟨fun hc => ?_, fun hc => ?_⟩
    ·have hlt : j < 4 := by simp at hc; omega
     conv => whnf
     have hcut : word (cut32 (qAddr pc k + j)) := cut32_word _
     refine satq_mid (α := { q2 : List Int // (∀ x, x ∈ q2 ↔ x ∈ addTo (liftPages pc k) (qAddr pc k) (j + 1)) ∧ q2.length ≤ 4 * k + (j + 1) }) (fun x => [(0, one (.int .u32 pc)), (1, one (.iface t (ptrV m))), (6, .p (.c (.ref 0 0))), (7, one (.int .i64 (n : Int))), (8, .p (.c (.ref 1 0))), (10, one (.int .u32 (qAddr pc k))), (54, one (.int .u32 (j : Int)))]) (fun x => liftS (liftAts pc (k + 1)) x.1 (pre ++ [⟨20, 0, 0, 0, (k : Int)⟩])) ?_ fun x => ?_
     ·refine satq_vcN ?_
      conv => whnf
      refine ⟨cut32 (qAddr pc k + j), by rw [wr32]; rfl, ?_⟩
      conv => whnf
      refine ⟨by decide, pageOf (qAddr pc k + j), by rw [Int.tdiv_eq_ediv_of_nonneg hcut.1, wr32]; unfold pageOf; unfold word at hcut; omega, ?_⟩
      conv => whnf
      refine ⟨fun hc => ?_, fun hc => ?_⟩
      ·have hp : pageOf (qAddr pc k + j) < 4096 := by simpa using hc
       conv => whnf
       refine ⟨pageOf (qAddr pc k + j), by have : 0 ≤ pageOf (qAddr pc k + j) := Int.ediv_nonneg hcut.1 (by decide); rw [wr64] <;> omega, ?_⟩
       conv => whnf
       refine appK_sound rfl ?_ rfl
       conv => whnf
       refine ⟨by omega, ?_⟩
       conv => whnf
       exact atq_mid ⟨q ++ [pageOf (qAddr pc k + j)], fun x => by rw [addTo, mem_addPage, List.mem_append, hq]; simp [hp], by simp; omega⟩ (ent_drop (aI rfl (aI rfl (aI rfl (aI rfl (aI rfl (aI rfl (aI rfl trivial))))))) (aI sM (aI sM (aI ((aI rfl (aI rfl (aI rfl rfl)))) (aI ((aI rfl (aI rfl (aI (by simp) (by simp))))) (aI ((aI rfl (aI rfl (aI rfl rfl)))) trivial))))) rfl rfl)
      ·have hp : ¬ pageOf (qAddr pc k + j) < 4096 := by simpa using hc
       conv => whnf
       exact atq_mid ⟨q, fun x => by rw [addTo, mem_addPage, hq]; simp [hp], by omega⟩ (ent_same rfl (aI rfl (aI rfl (aI rfl (aI rfl (aI rfl (aI rfl (aI rfl trivial))))))) (aI sM (aI sM (aI ((aI rfl (aI rfl (aI rfl rfl)))) (aI ((aI rfl (aI rfl (aI rfl rfl)))) (aI ((aI rfl (aI rfl (aI rfl rfl)))) trivial))))))
     ·obtain ⟨q2, hq2, hl2⟩ := x
      dsimp only
      refine satq_vcN ?_
      conv => whnf
      refine ⟨(j : Int) + 1, by rw [wr32]; omega, ?_⟩
      conv => whnf
      exact atq_next ⟨j + 1, q2, by omega, hq2, hl2⟩ (ent_same rfl (aI rfl (aI rfl (aI rfl (aI rfl (aI rfl (aI rfl (aI rfl trivial))))))) (aI sM (aI sM (aI ((aI rfl (aI rfl (aI rfl rfl)))) (aI ((aI rfl (aI rfl (aI rfl rfl)))) (aI ((aI rfl (aI rfl (aI rfl rfl)))) trivial)))))) (by show 4 - (j + 1) < 4 - j; omega)
    ·have he : j = 4 := by simp at hc; omega
     subst he
     conv => whnf
     exact atq_out (atq_exit (atq_mid ⟨q, fun x => (hq x).trans (hadd x), by omega⟩ (ent_same rfl (aI rfl (aI rfl (aI rfl (aI rfl (aI rfl (aI rfl trivial)))))) (aI sM (aI sM (aI ((aI rfl (aI rfl (aI rfl rfl)))) (aI ((aI rfl (aI rfl (aI rfl rfl)))) (aI ((aI rfl (aI rfl (aI rfl rfl)))) trivial))))))))
   obtain ⟨q, hq2, hql⟩ := x
   dsimp only
   have haw : word (qAddr pc k) := cut32_word _
   refine satq_seqN ?_
   conv => whnf
   refine call_con rfl (by kernel_rfl) (fun r w' hR => read_walk w' F hF m t hm (qAddr pc k) haw fun w2 x hB hx => hcall w2 x (below_next hR.toBelow hB) hx) ?_
   conv => whnf
   obtain ⟨i, hi⟩ : ∃ i, qAt (readQ F) (qAddr pc k) = i := ⟨_, rfl⟩
   have hiok : i.ok := hi ▸ qAt_ok (fun a i h => readQ_ok hF h) _
   have hi2 : (readQ F (qAddr pc k)).getD QI.zero = i := hi
   rw [hi2]
   refine satq_mid (α := Unit) (fun _ => [(0, one (.int .u32 pc)), (1, one (.iface t (ptrV m))), (6, .p (.c (.ref 0 0))), (7, one (.int .i64 (n : Int))), (8, .p (.c (.ref 1 0))), (10, one (.int .u32 (qAddr pc k))), (13, .p (.c (.ref 5 0)))]) (fun _ => liftS (liftAts pc (k + 1)) q (pre ++ [⟨20, 0, 0, 0, (k : Int)⟩]) ++ [.cells qiT ((qiL i).map .v)]) ?_ fun _ => ?_
   ·refine satq_vcN ?_
    conv => whnf
    refine ⟨fun hc => ?_, fun hc => ?_⟩
    ·have hz : i = QI.zero := by
      rw [← hi2]
      cases hr : readQ F (qAddr pc k) with
      | none => rfl
      | some y => rw [hr] at hc; cases hc
     subst hz
     conv => whnf
     exact atq_mid () (ent_same rfl (aI rfl (aI rfl (aI rfl (aI rfl (aI rfl (aI rfl (aI rfl trivial))))))) (aI sM (aI sM (aI ((aI rfl (aI rfl (aI rfl rfl)))) (aI ((aI rfl (aI rfl (aI rfl rfl)))) (aI ((aI rfl (aI rfl (aI rfl rfl)))) (aI sM trivial)))))))
    ·conv => whnf
     exact atq_mid () (ent_same rfl (aI rfl (aI rfl (aI rfl (aI rfl (aI rfl (aI rfl (aI rfl trivial))))))) (aI sM (aI sM (aI ((aI rfl (aI rfl (aI rfl rfl)))) (aI ((aI rfl (aI rfl (aI rfl rfl)))) (aI ((aI rfl (aI rfl (aI rfl rfl)))) (aI sM trivial)))))))
   ·obtain ⟨fu, hfu⟩ : ∃ fu, n - k = fu + 1 := ⟨n - k - 1, by omega⟩
    have hbl := qBody_length i (qAddr pc k)
    have hw := fun w g vA vP vO (h : LiftAt w g vA vP vO (pre ++ [⟨20, 0, 0, 0, (k : Int)⟩])) => instr_walk i (qAddr pc k) h hiok (by simp; omega)
    have hfu2 : fu = n - (k + 1) := by omega
    rw [hfu, liftOps_succ, hi] at hops
    rw [hfu, liftLen_succ, hi] at hlen
    have hal' : (liftAts pc (k + 1)).length = k + 1 := by simp [liftAts]
    cases hq : qTail i (qAddr pc k) with
    | some tl =>
     have htl := qTail_length hq
     simp only [hq, Option.isNone_some, Option.getD_some] at hw hops hlen
     refine satq_in (satq_kill 3 rfl rfl rfl ?_)
     conv => whnf
     refine kill_lift 1 4 (pre ++ [⟨20, 0, 0, 0, (k : Int)⟩] ++ (qBody i (qAddr pc k) ++ tl)) (.bool false) rfl rfl (by decide) (Nat.zero_le _) rfl rfl (by rfl) (by kernel_rfl) hw ?_
     conv => whnf
     refine atq_on ?_
     refine satq_vcN ?_
     conv => whnf
     (repeat ((first | apply k1 | apply k2 | apply k3 | apply k4 | refine k5 (by decide) ?_ | refine k6 (by decide) ?_); conv => whnf))
     exact atq_block (atq_next ⟨false, k + 1, q, pre ++ [⟨20, 0, 0, 0, (k : Int)⟩] ++ (qBody i (qAddr pc k) ++ tl), by omega, hq2, hql, by simp; omega, fun h => (by cases h), fun _ => ⟨by rw [← hops]; simp, hlen⟩⟩ (ent_drop (aI rfl (aI rfl (aI rfl (aI rfl (aI rfl (aI rfl trivial)))))) (aI sM (aI sM (aI ((aI rfl (aI rfl (aI rfl rfl)))) (aI ((aI rfl (aI rfl (aI rfl rfl)))) (aI ((aI rfl (aI rfl (aI rfl rfl)))) trivial))))) rfl rfl) (by show n - (k + 1) + 0 < _; rw [if_pos hc]; omega))
    | none =>
     simp only [hq, Option.isNone_none, Option.getD_none, List.append_nil] at hw hops hlen
     refine satq_in (satq_kill 3 rfl rfl rfl ?_)
     conv => whnf
     refine kill_lift 1 4 (pre ++ [⟨20, 0, 0, 0, (k : Int)⟩] ++ qBody i (qAddr pc k)) (.bool true) rfl rfl (by decide) (Nat.zero_le _) rfl rfl (by rfl) (by kernel_rfl) hw ?_
     conv => whnf
     refine atq_on ?_
     refine satq_seqN ?_
     conv => whnf
     (repeat ((first | apply k1 | apply k2 | apply k3 | apply k4 | refine k5 (by decide) ?_ | refine k6 (by decide) ?_); conv => whnf))
     refine satq_cond rfl (fun hk1 => ?_) (fun hk1 => ?_)
     ·have hkn1 : k + 1 = n := by
       have : ((liftAts pc (k + 1)).length : Int) = n := by simpa using hk1
       omega
      rw [if_pos hkn1] at hops hlen
      refine satq_in (satq_kill 5 rfl rfl rfl ?_)
      conv => whnf
      refine ⟨cut32 (qAddr pc k + 4), by rw [wr32]; rfl, ?_⟩
      conv => whnf
      refine kill_add 1 4 6 1 [⟨24, 0, 0, 0, cut32 (qAddr pc k + 4)⟩] rfl rfl rfl rfl ⟨by decide, by decide, by decide⟩ (Nat.zero_le _) rfl rfl (by simp; omega) ?_
      conv => whnf
      refine atq_on ?_
      refine satq_vcN ?_
      conv => whnf
      exact atq_block (atq_next ⟨false, k + 1, q, pre ++ [⟨20, 0, 0, 0, (k : Int)⟩] ++ qBody i (qAddr pc k) ++ [⟨24, 0, 0, 0, cut32 (qAddr pc k + 4)⟩], by omega, hq2, hql, by simp; omega, fun h => (by cases h), fun _ => ⟨by rw [← hops]; simp, hlen⟩⟩ (ent_drop (aI rfl (aI rfl (aI rfl (aI rfl (aI rfl (aI rfl trivial)))))) (aI sM (aI sM (aI ((aI rfl (aI rfl (aI rfl rfl)))) (aI ((aI rfl (aI rfl (aI rfl rfl)))) (aI ((aI rfl (aI rfl (aI rfl rfl)))) trivial))))) rfl rfl) (by show n - (k + 1) + 0 < _; rw [if_pos hc]; omega))
     ·have hkn1 : ¬ k + 1 = n := by
       intro e
       have : (((liftAts pc (k + 1)).length : Int) == n) = true := by simp; omega
       rw [show (bif true then (((liftAts pc (k + 1)).length : Int) == n) else false) = (((liftAts pc (k + 1)).length : Int) == n) from rfl, this] at hk1
       cases hk1
      rw [if_neg hkn1] at hops hlen
      rw [hfu2] at hops hlen
      refine satq_skip ?_
      exact atq_block (atq_next ⟨true, k + 1, q, pre ++ [⟨20, 0, 0, 0, (k : Int)⟩] ++ qBody i (qAddr pc k), by omega, hq2, hql, by simp; omega, fun _ => ⟨by omega, by rw [← hops]; simp, hlen⟩, fun h => (by cases h)⟩ (ent_drop (aI rfl (aI rfl (aI rfl (aI rfl (aI rfl (aI rfl trivial)))))) (aI sM (aI sM (aI ((aI rfl (aI rfl (aI rfl rfl)))) (aI ((aI rfl (aI rfl (aI rfl rfl)))) (aI ((aI rfl (aI rfl (aI rfl rfl)))) trivial))))) rfl rfl) (by show n - (k + 1) + 1 < _; rw [if_pos hc]; omega))
  ·obtain ⟨hops, hlen⟩ := hend hc
   subst hops
   subst hlen
   conv => whnf
   exact atq_out (atq_exit (atq_mid ⟨ps, hps, by omega⟩ (ent_same rfl (aI rfl (aI rfl trivial)) (aI sM (aI sM (aI ((aI rfl (aI rfl (aI rfl rfl)))) (aI ((aI rfl (aI rfl (aI rfl rfl)))) (aI ((aI rfl (aI rfl (aI rfl rfl)))) trivial))))))))
 obtain ⟨ps, hps, hpl⟩ := x
 dsimp only
 have hul := uniqL_length ps
 obtain ⟨hui, hum⟩ := uniqL_is ps
 have hup : uniqL ps = liftPages pc (liftLen (readQ F) pc n n 0) := liftPages_is hui fun x => (hum x).trans (hps x)
 refine satq_in (satq_kill 6 rfl rfl rfl ?_)
 conv => whnf
 refine kill_row (e := 3) (size := 1) (n := ps.length) (n' := (uniqL ps).length) (xs := ps.map intV) (xs' := (uniqL ps).map intV) 3 rfl (Nat.zero_le _) (by kernel_rfl) (fun w v h => unique_walk w v ps (by omega) h) ?_
 conv => whnf
 refine atq_on ?_
 refine satq_vcN ?_
 conv => whnf
 refine atq_ret ?_
 conv => whnf
 exact fin_rows3 2 3 4 (liftQ (readQ F) pc n) (by decide) (by decide) (by decide) (.inl ⟨rfl, rfl⟩) (.inl ⟨rfl, by rw [hup]; rfl⟩) (.inl ⟨rfl, rfl⟩) fun w v1 v2 v3 h1 h2 => ⟨_, _, _, rfl, h1, h2⟩
end Go.Proofs.YtnhdcclpjildjaaGreat
namespace Go.Proofs.YtnhdcclpjildjaaGreat
open Go.RowKit

section
variable {w : World} {g n p : Nat} {gs : List Nat} {M : MemP}
set_option maxRecDepth 100000 in
set_option maxHeartbeats 2000000 in
theorem memory_walk (hU : ObjsAt w (g :: gs) (memS 0 n p M)) (hM : M.ok n p) (hp : 2 ≤ p ∧ p ≤ 1000) :
  Calls Tryz.prog 39 #[ptrV g] w fun e w' => ∃ m sb l, e = .returned (ptrV m) ∧ MadeTo w w' m sb p M p p l := by
 have hnp := hM.np
 refine calls_satq [ptrV g] Tryz.func39 Tryz.ntmps39 rfl (by simp) ?_
 refine satq_seqN ?_
 conv => whnf
 refine satq_in (satq_jump 2 rfl rfl rfl ?_)
 conv => whnf
 refine call_memP rfl (by kernel_rfl) hU (fun w1 h1 => mem_pages M n p w1 g gs h1) ?_
 conv => whnf
 refine jmp_con (fun u w1 => ∃ m sb l, u = ptrV m ∧ MadeTo w w1 m sb p M 0 0 l) rfl (by kernel_rfl) (fun r w1 hR => ?_) (fun u w1 hj => ?_)
 ·have hB := hR.toBelow
  refine (newM_walk p w1 ⟨hp.1, by omega⟩).mono fun e w2 ⟨m, sb, z, he, h1, h2⟩ => ⟨_, he, m, sb, newSlots p z, rfl, ?_⟩
  have hlen : (newSlots p z).length = p := by unfold newSlots; simp
  have himg : imgTo M 0 = fun _ => zpage := by funext k; unfold imgTo; rw [if_neg (by omega)]
  refine ⟨⟨h1.hm, h1.hs, Nat.le_trans hB.size h1.Bm, Nat.le_trans hB.size h1.Bs, fun s hs => ?_, fun k s hk => ?_, h1.sep⟩, hlen, fun k s hk => ?_, hB.trans (h2.mono hB.size)⟩
  ·obtain ⟨a, b⟩ := h1.dp s hs; exact ⟨a, Nat.le_trans hB.size b⟩
  ·obtain ⟨a, b⟩ := h1.cp k s hk; rw [himg]; exact ⟨a, Nat.le_trans hB.size b⟩
  ·have := List.eq_of_mem_replicate (List.mem_of_getElem? hk)
   subst this
   exact ⟨fun h => by omega, fun _ => rfl, Int.le_refl 0, show (0 : Int) < 8 by decide⟩
 obtain ⟨m, sb, l0, rfl, h0⟩ := hj
 conv => whnf
 refine atq_on ?_
 refine satq_seqN ?_
 conv => whnf
 refine q_nil_v _ rfl rfl rfl rfl ?_
 conv => whnf
 (repeat ((first | apply k1 | apply k2 | apply k3 | apply k4 | refine k5 (by decide) ?_ | refine k6 (by decide) ?_); conv => whnf))
 conv => whnf
 refine satq_in (satq_seqN ?_)
 conv => whnf
 refine satq_block ?_
 refine satq_loopX (fun j : { j : Nat // j ≤ p } => [(0, one (ptrV g)), (3, one (ptrV m)), (4, one (intV (j.1 : Int)))]) (fun j w' => ∃ l, MadeTo w w' m sb p M j.1 j.1 l) (fun j => p - j.1) ⟨0, by omega⟩ (aI rfl (aI rfl (aI rfl trivial))) (fun r w' hR => ⟨l0, h0.later hR.toBelow⟩) (fun j w' hJ => ?_)
 obtain ⟨j, hj⟩ := j
 obtain ⟨l, hl⟩ := hJ
 dsimp only at hl ⊢
 have hU1 := objs_later (memS_ob n p M) hU hl.below
 refine satq_seqN ?_
 conv => whnf
 refine call_memP rfl (by kernel_rfl) hU1 (fun w1 h1 => mem_pages M n p w1 g gs h1) ?_
 conv => whnf
 refine ⟨fun hc => ?_, fun hc => ?_⟩
 ·have hlt : j < p := by simp at hc; omega
  have h2l : 2 ≤ l.length := by rw [hl.len]; exact hp.1
  conv => whnf
  refine satq_in (satq_block ?_)
  refine satq_in (satq_jump 7 rfl rfl rfl ?_)
  conv => whnf
  refine ⟨((256 * j : Nat) : Int), by rw [show (256 : Int) * (j : Int) = ((256 * j : Nat) : Int) by omega]; exact wr64 (by omega), ?_⟩
  conv => whnf
  refine ⟨((256 * j : Nat) : Int), by rw [wr32]; omega, ?_⟩
  conv => whnf
  refine call_memP rfl (by kernel_rfl) hU1 (fun w1 h1 => mem_page M n p j w1 g gs h1 hM hlt) ?_
  conv => whnf
  refine jmp_con (fun u w2 => u = .tuple #[] ∧ ∃ l', MadeTo w w2 m sb p M j j l') rfl (by kernel_rfl) (fun r w1 hR => ?_) (fun u w2 hq => ?_)
  ·have h1 := hl.later hR.toBelow
   refine (pokeM_walk h1.mem h2l (by unfold word; omega) (M.page j) (page_byte hM j) (by rw [page_length hM hlt]; omega)).mono fun e w2 ⟨he, l', k1, k2, k3, _⟩ => ⟨_, he, rfl, l', k1, k2.1.trans h1.len, fun k s hs => ?_, h1.below.trans k3⟩
   obtain ⟨y, hy, e1, e2⟩ := keep_slots k2 hs
   rw [e1, e2]; exact h1.slots k y hy
  obtain ⟨rfl, l2, hl2⟩ := hq
  have hU2 := objs_later (memS_ob n p M) hU hl2.below
  obtain ⟨g2, hg2, hgi⟩ := mem_image_at hU2
  have h2l2 : 2 ≤ l2.length := by rw [hl2.len]; exact hp.1
  conv => whnf
  refine atq_on ?_
  refine satq_in (satq_jump 13 rfl rfl rfl ?_)
  conv => whnf
  refine ⟨_, hg2, ?_⟩
  conv => whnf
  refine ⟨((256 * j : Nat) : Int), by rw [show (256 : Int) * (j : Int) = ((256 * j : Nat) : Int) by omega]; exact wr64 (by omega), ?_⟩
  conv => whnf
  refine ⟨((256 * j : Nat) : Int), by rw [show (256 : Int) * (j : Int) = ((256 * j : Nat) : Int) by omega]; exact wr64 (by omega), ?_⟩
  conv => whnf
  refine ⟨((256 * j + 256 : Nat) : Int), by rw [show ((256 * j : Nat) : Int) + 256 = ((256 * j + 256 : Nat) : Int) by omega]; exact wr64 (by omega), ?_⟩
  conv => whnf
  refine op_slice_v (256 * j) (256 * j + 256) 1 rfl rfl rfl rfl rfl (.inr ⟨_, _, rfl, rfl⟩) (.inr ⟨_, _, rfl, rfl⟩) (by omega) (by omega) rfl ?_
  rw [if_neg (by omega), Option.map_some, addr_add]
  have hli := img_length hM hlt
  have hsub : CellsAt w2 Gs.nil g2 (0 + 256 * j * 1) ((M.img j).map byteV) := by
   refine ⟨hgi.1, hgi.2.1, fun i u hi => ?_⟩
   rw [List.getElem?_map] at hi
   unfold MemP.img at hi
   rw [List.getElem?_take] at hi
   split at hi
   ·rw [List.getElem?_drop] at hi
    have := hgi.2.2 (256 * j + i) u (by rw [List.getElem?_map]; exact hi)
    rw [show 0 + 256 * j * 1 + i = 0 + (256 * j + i) by omega]; exact this
   ·cases hi
  conv => whnf
  refine q_conv_plain g2 (0 + 256 * j * 1) (256 * j + 256 - 256 * j) (n + M.ti.length - 256 * j) (M.img j) rfl rfl rfl rfl rfl hsub (by rw [hli]; omega) ?_
  conv => whnf
  refine jmp_con (fun u w3 => u = .tuple #[] ∧ ∃ l', MadeTo w w3 m sb p M (j + 1) j l') rfl (by kernel_rfl) (fun r w1 hR => ?_) (fun u w3 hq => ?_)
  ·have h1 := hl2.later hR.toBelow
   obtain ⟨s, hs⟩ : ∃ s, l2[j]? = some s := ⟨_, List.getElem?_eq_getElem (by rw [hl2.len]; exact hlt)⟩
   refine (setCodeM_walk h1.mem j hs ((h1.slots j s hs).2.1 (Nat.le_refl _)) h2l2 (M.img j) (img_byte hM j) hli).mono fun e w3 ⟨he, c', k1, k3⟩ => ⟨_, he, rfl, setC l2 j c', ?_, (setC_length _ _ _).trans h1.len, fun k s' hs' => ?_, h1.below.trans k3⟩
   ·rw [← imgTo_succ]; exact k1
   ·rw [setC_get] at hs'
    split at hs'
    ·rename_i e'
     subst e'
     rw [hs] at hs'
     simp at hs'; subst hs'
     have := h1.slots j s hs
     exact ⟨fun h => by omega, fun h => by omega, this.2.2⟩
    ·have := h1.slots k s' hs'
     exact ⟨this.1, fun h => this.2.1 (by omega), this.2.2⟩
  obtain ⟨rfl, l3, hl3⟩ := hq
  have hU3 := objs_later (memS_ob n p M) hU hl3.below
  have h2l3 : 2 ≤ l3.length := by rw [hl3.len]; exact hp.1
  conv => whnf
  refine atq_on ?_
  refine satq_jump 5 rfl rfl rfl ?_
  conv => whnf
  refine call_memP rfl (by kernel_rfl) hU3 (fun w1 h1 => mem_rightsOf M n p j w1 g gs h1 hM hlt) ?_
  conv => whnf
  refine jmp_con (fun u w4 => u = .tuple #[] ∧ ∃ l', MadeTo w w4 m sb p M (j + 1) (j + 1) l') rfl (by kernel_rfl) (fun r w1 hR => ?_) (fun u w4 hq => ?_)
  ·have h1 := hl3.later hR.toBelow
   have hr := rightsAt_range hM j
   refine (protectM_walk h1.mem j (by rw [hl3.len]; exact hlt) h2l3 (M.rightsAt j) hr).mono fun e w4 ⟨he, k1, k3⟩ => ⟨_, he, rfl, setR l3 j (M.rightsAt j), k1, by unfold setR; rw [List.length_modify]; exact h1.len, fun k s' hs' => ?_, h1.below.trans k3⟩
   rw [setR_get] at hs'
   split at hs'
   ·rename_i e'
    subst e'
    cases hy : l3[j]? with
    | none => rw [hy] at hs'; cases hs'
    | some y =>
     rw [hy] at hs'
     simp at hs'; subst hs'
     have := h1.slots j y hy
     exact ⟨fun _ => rfl, fun h => by omega, hr⟩
   ·have := h1.slots k s' hs'
    exact ⟨fun h => this.1 (by omega), this.2.1, this.2.2⟩
  obtain ⟨rfl, l4, hl4⟩ := hq
  conv => whnf
  refine atq_then ?_
  refine satq_vcN ?_
  conv => whnf
  refine ⟨((j + 1 : Nat) : Int), by rw [show (j : Int) + 1 = ((j + 1 : Nat) : Int) by omega]; exact wr64 (by omega), ?_⟩
  conv => whnf
  exact atq_nextW ⟨j + 1, by omega⟩ (aI rfl (aI rfl (aI rfl trivial))) (fun r w5 hR => ⟨l4, hl4.later hR.toBelow⟩) (by show p - (j + 1) < p - j; omega)
 ·have hje : j = p := by simp at hc; omega
  subst hje
  conv => whnf
  refine atq_outW (atq_exit (atq_on ?_))
  refine satq_vcN ?_
  conv => whnf
  refine atq_ret ?_
  conv => whnf
  exact fin_val rfl fun w2 hB => ⟨m, sb, l, rfl, hl.later hB⟩
end
end Go.Proofs.YtnhdcclpjildjaaGreat
namespace Go.Proofs.YtnhdcclpjildjaaGreat
open Go.RowKit

def MemP.fet (M : MemP) (a : Int) : Option Int := if M.right a 4 = true then some (M.code a) else none
theorem fet_byte {M : MemP} {n p : Nat} (hM : M.ok n p) (a b : Int) (h : M.fet a = some b) : 0 ≤ b ∧ b < 256 := by
 unfold MemP.fet at h
 split at h
 ·injection h with h
  subst h
  unfold MemP.code
  cases hc : M.image[a.toNat]? with
  | none => simp
  | some x => exact hM.ib x (List.mem_of_getElem? hc)
 ·cases h
theorem fetch_is {w w' : World} {m sb n p : Nat} {M : MemP} {l : List Slt} (hM : M.ok n p) (h : MadeTo w w' m sb p M p p l) {a : Int} (ha : 0 ≤ a) : fetchL l (imgTo M p) a = M.fet a := by
 have hnp := hM.np
 obtain ⟨k, hk⟩ : ∃ k : Nat, a = k := ⟨a.toNat, by omega⟩
 subst hk
 have e1 : ((k : Int) / 256).toNat = k / 256 := by omega
 have e2 : ((k : Int) % 256).toNat = k % 256 := by omega
 unfold fetchL MemP.fet MemP.right
 rw [e1, e2, hM.ld]
 cases hs : l[k / 256]? with
 | none =>
  have : p ≤ k / 256 := by
   rw [← h.len]
   rcases Nat.lt_or_ge (k / 256) l.length with h1 | h1
   ·rw [List.getElem?_eq_getElem h1] at hs; cases hs
   ·exact h1
  rw [if_neg]
  have h1 : ¬ (k : Int) < (n : Int) := by omega
  simp [h1]
 | some s =>
  have hlt : k / 256 < p := by
   rw [← h.len]
   rcases Nat.lt_or_ge (k / 256) l.length with h1 | h1
   ·exact h1
   ·rw [List.getElem?_eq_none h1] at hs; cases hs
  have hr := (h.slots _ s hs).1 hlt
  dsimp only
  have h1 : (k : Int) < (n : Int) := by omega
  unfold MemP.rightsAt at hr
  rw [hr]
  have himg : ((imgTo M p (k / 256))[k % 256]?).getD 0 = M.code k := by
   unfold imgTo MemP.img MemP.code
   rw [if_pos hlt, List.getElem?_take, if_pos (by omega), List.getElem?_drop]
   rw [show 256 * (k / 256) + k % 256 = k by omega]
   simp
  rw [himg]
  by_cases h2 : ((M.rights[k / 256]?).getD 0) / 4 % 2 = 1
  ·rw [if_pos h2, if_pos (by simp [h1, h2])]
  ·rw [if_neg h2, if_neg (by simp [h2])]
theorem MemAt2.keep {w w' : World} {B m sb : Nat} {l : List Slt} {img : Nat → List Int} (h : MemAt2 w B m sb l img) (hk : ∀ k, B ≤ k → k < w.heap.size → w'.heap[k]? = w.heap[k]?) : MemAt2 w' B m sb l img :=
 ⟨(hk _ h.Bm (heap_lt h.hm)).trans h.hm, (hk _ h.Bs (heap_lt h.hs)).trans h.hs, h.Bm, h.Bs, fun s hs => by obtain ⟨⟨us, hu⟩, hb⟩ := h.dp s hs; exact ⟨⟨us, hu.later (hk _ hb (heap_lt hu.at_))⟩, hb⟩,
  fun k s hs => by obtain ⟨hu, hb⟩ := h.cp k s hs; exact ⟨hu.later (hk _ hb (heap_lt hu.at_)), hb⟩, h.sep⟩
def liftM (M : MemP) (pc most : Int) : Blk := liftQ (readQ M.fet) pc (limN most)
theorem liftM_ok {M : MemP} {n p : Nat} (hM : M.ok n p) (pc most : Int) : (liftM M pc most).ok ∧ validB (liftM M pc most) = true ∧ ∀ o ∈ (liftM M pc most).ops, clean o :=
 liftQ_valid (fun _a _i h => readQ_ok (fun a b h => fet_byte hM a b h) h) pc (limN_ok most).1 (limN_ok most).2
theorem Rows3.base {B B' : Nat} {w : World} {v1 v2 v3 : Value} {b : Blk} (h : Rows3 B w v1 v2 v3 b) (hB : B' ≤ B) : Rows3 B' w v1 v2 v3 b :=
 ⟨own_base h.at_ hB, own_base h.pages hB, own_base h.ops hB, h.d12, h.d13, h.d23⟩
section
variable {w : World} {g n p : Nat} {gs : List Nat} {M : MemP}
theorem call_validR {w0 : World} {G : Gs} {S : List Ow} {K : AV → List Ow → Prop} (i1 i2 i3 : Nat) (b : Blk) (hb : b.ok) (hv : validB b = true) (h1 : S[i1]? = some (.row 35 1 b.at_.length (b.at_.map (.int .u32)))) (h2 : S[i2]? = some (.row 3 1 b.pages.length (b.pages.map (.int .i64)))) (h3 : S[i3]? = some (.row 45 5 b.ops.length (b.ops.flatMap opC))) (hK : K (one (.bool true)) S) : CallS Tryz.prog w0 G 41 [.p (.agg [.row i1, .row i2, .row i3])] S K := by
 refine callS_val (.bool true) (by kernel_rfl) (fun r w us hR hd => ?_) hK
 obtain ⟨u, l, rfl, d1, d2⟩ := hd
 obtain rfl : l = [] := d2
 obtain ⟨us, rfl, hl⟩ := den_agg d1
 simp only [denL, CV.den] at hl
 obtain ⟨u1, l1, rfl, k1, u2, l2, rfl, k2, u3, l3, rfl, k3, rfl⟩ := hl
 clear d1
 obtain ⟨A1, c1, rfl, s1, _⟩ := hR.rowAt h1 k1
 obtain ⟨A2, c2, rfl, s2, _⟩ := hR.rowAt h2 k2
 obtain ⟨A3, c3, rfl, s3, _⟩ := hR.rowAt h3 k3
 have := valid_ref A1 A2 A3 c1 c2 c3 b w hb s2 s3
 rw [valid_same b, hv] at this
 exact this
set_option maxRecDepth 100000 in
set_option maxHeartbeats 2000000 in
theorem lifted_walk (hU : ObjsAt w (g :: gs) (memS 0 n p M)) (hM : M.ok n p) (hp : 2 ≤ p ∧ p ≤ 1000) (pc most : Int) (hpc : word pc) :
  Calls Tryz.prog 15 #[.int .u32 pc, ptrV g, intV most] w fun e w' => ∃ v1 v2 v3, e = .returned (.tuple #[.agg #[v1, v2, v3], .bool true]) ∧ Rows3 w.heap.size w' v1 v2 v3 (liftM M pc most) ∧ Below w.heap.size w w' := by
 obtain ⟨hbok, hbv, _⟩ := liftM_ok hM pc most
 refine calls_satq [.int .u32 pc, ptrV g, intV most] Tryz.func15 Tryz.ntmps15 rfl (by simp) ?_
 refine satq_seqN ?_
 conv => whnf
 refine satq_in (satq_jumpG 1 rfl rfl rfl ?_)
 conv => whnf
 refine ⟨by kernel_rfl, fun r w1 us hR hd => ?_⟩
 obtain rfl := avals_den (xs := [ptrV g]) rfl hd
 have hB := hR.toBelow
 obtain ⟨q, vs, e1, e2, e3⟩ := hR.own 0 _ rfl
 obtain rfl := denL_vals_inv (us := [nilB, nilB, nilB]) e3
 have hqn : w.heap.size ≤ q := fresh_of hR e1
 refine (memory_walk (objs_later (memS_ob n p M) hU hB) hM hp).mono fun e w2 ⟨m, sb, l, he, hl⟩ => ?_
 have hq2 : w2.heap[q]? = some (.cells #[nilB, nilB, nilB] blT (0, 0)) := (hl.below.block q (heap_lt e2)).trans e2
 refine ⟨_, one (ptrV m), w2, ⟨[q], []⟩, [(0, one (.int .u32 pc)), (2, one (intV most)), (6, .p (.c (.ref 0 0)))], [.cells blT zerosC], envOne q, he, rel_own1 w2 hq2, fun a hf => frDen ⟨slot_same hf 0 rfl, slot_same hf 2 rfl, slot_moved hf 6 rfl (fun b hb => by rw [e1] at hb; injection hb with hb; subst hb; rfl), trivial⟩, den_one _ _, ?_⟩
 conv => whnf
 refine atq_on ?_
 refine satq_seqN ?_
 conv => whnf
 refine q_nil_v _ rfl rfl rfl rfl ?_
 conv => whnf
 (repeat ((first | apply k1 | apply k2 | apply k3 | apply k4 | refine k5 (by decide) ?_ | refine k6 (by decide) ?_); conv => whnf))
 conv => whnf
 have hfw : ∀ w', MemAt2 w' w1.heap.size m sb l (imgTo M p) → ∀ x, word x → Calls Tryz.prog 163 #[ptrV m, .int .u32 x] w' fun e w2 => e = .returned (fetV (M.fet x)) ∧ Below w'.heap.size w' w2 := fun w' hm' x hx => by
  have := fetchM_walk hm' x hx (fun s hs => by
   obtain ⟨k, hk, rfl⟩ := List.mem_iff_getElem.1 hs
   obtain ⟨_, _, h1, h2⟩ := hl.slots k _ (List.getElem?_eq_getElem hk)
   exact ⟨h1, h2⟩)
  rw [fetch_is hM hl hx.1] at this
  exact this
 refine satq_seqN ?_
 conv => whnf
 refine op_iface rfl rfl (by kernel_rfl) rfl ?_
 conv => whnf
 refine call_blk (fun b => b = liftM M pc most) (by kernel_rfl) (fun r w3 us hR hd => ?_) fun b hb => ?_
 ·obtain rfl := avals_den (xs := [.int .u32 pc, .iface 95 (ptrV m), intV most]) rfl hd
  have hm3 : MemAt2 w3 w1.heap.size m sb l (imgTo M p) := hl.mem.keep fun k hk hlt => hR.old k hlt fun hm => by
   rcases hm with hm | hm
   ·have : k = q := by simpa using hm
    have := heap_lt e2
    omega
   ·cases hm
  exact (lift_walk w3 M.fet (fun a b h => fet_byte hM a b h) m 95 (fun w => by kernel_rfl) (fun w' x hB' hx => hfw w' (hm3.later hB') x hx) pc most hpc).mono fun e w4 ⟨v1, v2, v3, he, h3, hB4⟩ => ⟨_, v1, v2, v3, rfl, he, h3, hB4⟩
 subst hb
 conv => whnf
 refine satq_mid (α := Unit) (fun _ => [(6, .p (.c (.ref 0 0))), (7, one (.bool true))]) (fun _ => [.cells blT [.row 1, .row 2, .row 3], .row 35 1 (liftM M pc most).at_.length ((liftM M pc most).at_.map (.int .u32)), .row 3 1 (liftM M pc most).pages.length ((liftM M pc most).pages.map (.int .i64)), .row 45 5 (liftM M pc most).ops.length ((liftM M pc most).ops.flatMap opC)]) ?_ fun _ => ?_
 ·refine satq_vcN ?_
  conv => whnf
  refine sat_anyG (.alt 0 (.alt 1 (.alt 2 (.alt 3 (.alt 4 .done .no) .no) .no) .no) (.alt 1 (.alt 0 (.alt 2 (.alt 3 (.alt 4 .done .no) .no) .no) (.alt 2 (.alt 0 (.alt 3 (.alt 4 .done .no) .no) .no) .no)) .no)) mixed (by kernel_rfl) (by kernel_rfl) ?_
  conv => whnf
  refine ⟨?_, ?_, trivial⟩
  ·conv => whnf
   refine ⟨?_, trivial⟩
   conv => whnf
   refine ⟨?_, trivial⟩
   conv => whnf
   refine call_validR 1 2 3 (liftM M pc most) hbok hbv rfl rfl rfl ?_
   conv => whnf
   refine ⟨?_, trivial⟩
   conv => whnf
   refine ⟨?_, trivial⟩
   conv => whnf
   exact atq_mid () (ent_drop (aI rfl (aI rfl trivial)) (aI sM (aI ((aI rfl (aI rfl (aI rfl rfl)))) (aI ((aI rfl (aI rfl (aI rfl rfl)))) (aI ((aI rfl (aI rfl (aI rfl rfl)))) trivial)))) rfl rfl)
  ·conv => whnf
   refine ⟨?_, ?_, trivial⟩
   ·conv => whnf
    refine ⟨?_, trivial⟩
    conv => whnf
    refine call_validR 1 2 3 (liftM M pc most) hbok hbv rfl rfl rfl ?_
    conv => whnf
    refine ⟨?_, trivial⟩
    conv => whnf
    refine ⟨?_, trivial⟩
    conv => whnf
    exact atq_mid () (ent_drop (aI rfl (aI rfl trivial)) (aI sM (aI ((aI rfl (aI rfl (aI rfl rfl)))) (aI ((aI rfl (aI rfl (aI rfl rfl)))) (aI ((aI rfl (aI rfl (aI rfl rfl)))) trivial)))) rfl rfl)
   ·conv => whnf
    refine call_validR 1 2 3 (liftM M pc most) hbok hbv rfl rfl rfl ?_
    conv => whnf
    refine ⟨?_, trivial⟩
    conv => whnf
    refine ⟨?_, trivial⟩
    conv => whnf
    refine ⟨?_, trivial⟩
    conv => whnf
    exact atq_mid () (ent_drop (aI rfl (aI rfl trivial)) (aI sM (aI ((aI rfl (aI rfl (aI rfl rfl)))) (aI ((aI rfl (aI rfl (aI rfl rfl)))) (aI ((aI rfl (aI rfl (aI rfl rfl)))) trivial)))) rfl rfl)
 refine satq_vcN ?_
 conv => whnf
 refine atq_ret ?_
 conv => whnf
 refine fin_rows3T (fs := [q]) 1 2 3 (liftM M pc most) (by decide) (by decide) (by decide) ⟨by simp, by simp, by simp⟩ rfl rfl rfl fun r w3 v1 v2 v3 hR h3 => ⟨v1, v2, v3, rfl, ?_, ?_⟩
 ·exact h3.base (Nat.le_trans hB.size hl.below.size)
 ·have hB2 := below_next hB hl.below
  exact ⟨hR.os.trans hB2.os, hR.tape.trans hB2.tape, hR.output.trans hB2.output, Nat.le_trans hB2.size hR.size, fun k hk => (hR.old k (Nat.lt_of_lt_of_le hk hB2.size) fun hm => by
   rcases hm with hm | hm
   ·have : k = q := by simpa using hm
    omega
   ·cases hm).trans (hB2.block k hk)⟩
end
end Go.Proofs.YtnhdcclpjildjaaGreat
namespace Go.Proofs.YtnhdcclpjildjaaGreat
open Go.RowKit

def MemP.simp (M : MemP) (pc : Int) : Bool := match readQ M.fet pc with | none => false | some i => simpleQ i.op
end Go.Proofs.YtnhdcclpjildjaaGreat
namespace Go.Proofs.YtnhdcclpjildjaaGreat
open Go.RowKit

structure Tl where
 a : List Value
 b : List Value
 c : List Value
 d : List Value
 e : List Value
def MemP.tl (M : MemP) (t : Tl) : MemP := { M with td := t.a, ti := t.b, tod := t.c, toi := t.d, tr := t.e }
structure RunOk (M0 : MemP) (n p : Nat) (R : Int → Int) (a : Int) (M : MemP) : Prop where
 pc : word a
 reg : ∀ j, 0 ≤ j → j < 16 → word (R j)
 zero : R 0 = 0
 mem : M.ok n p
 fet : M.fet = M0.fet
end Go.Proofs.YtnhdcclpjildjaaGreat
namespace Go.Proofs.YtnhdcclpjildjaaGreat
open Go.RowKit

theorem ProgAt.keep {w w' : World} {A : Option Addr} {n : Nat} (h : ProgAt w A n) (hs : w.heap.size ≤ w'.heap.size) (hb : ∀ k, k < w.heap.size → w'.heap[k]? = w.heap[k]?) : ProgAt w' A n := fun j hj => by
 obtain ⟨b, off, n0, n1, n2, n3, n4, e, h1, h2, h3⟩ := h j hj
 exact ⟨b, off, n0, n1, n2, n3, n4, e, Nat.lt_of_lt_of_le h1 hs, by simp, fun i u hi => by have := h3 i u hi; simp only [World.cell?] at this ⊢; rw [hb b h1]; exact this⟩
end Go.Proofs.YtnhdcclpjildjaaGreat
namespace Go.Proofs.YtnhdcclpjildjaaGreat
open Go.RowKit

theorem cpu_plain {w : World} {g n p : Nat} {gs : List Nat} {us : List Value} {M : MemP} (h : ObjsAt w (g :: gs) (cpuU 0 us n p M)) : ∃ g1 qs, w.heap[g]? = some (.cells (us ++ [ptrV g1]).toArray cpuT (0, 0)) ∧ ObjsAt w (g1 :: qs) (memS 0 n p M) := by
 have hR := rel_objs h
 obtain ⟨g1, qs, h1, h2⟩ := hR.objsAt 1 (memS 0 n p M) (memS 1 n p M) (by simp) (fun i hi => by rcases (by have : i < 6 := hi; omega : i = 0 ∨ i = 1 ∨ i = 2 ∨ i = 3 ∨ i = 4 ∨ i = 5) with rfl | rfl | rfl | rfl | rfl | rfl <;> rfl) (memS_sh 1 n p M) (memS_ob n p M)
 obtain ⟨b, vs, e1, e2, e3⟩ := hR.own 0 _ rfl
 have hb : b = g := by
  have : some g = some b := e1
  injection this with this; exact this.symm
 subst hb
 have hvs : vs = us ++ [ptrV g1] := by
  have hl := denL_length e3
  have ht := denL_take us.length e3
  have hdr := denL_drop us.length e3
  rw [show us.length = (us.map CV.v).length by rw [List.length_map]] at ht hdr
  rw [List.take_left] at ht
  rw [List.drop_left] at hdr
  have ht := denL_vals_inv ht
  simp only [denL, CV.den] at hdr
  obtain ⟨u, l, hu, ⟨b', hb', hu'⟩, hl'⟩ := hdr
  rw [h1] at hb'
  injection hb' with hb'
  subst hb'
  rw [← List.take_append_drop (us.map CV.v).length vs, ht, hu, hu', hl']
 rw [hvs] at e2
 exact ⟨g1, qs, e2, h2⟩
section
variable {w0 : World} {S : List Ow} {K : AV → List Ow → Prop} {g n p : Nat} {gs : List Nat} {M : MemP}
theorem call_liftedP (pc most : Int) (hO : ObjsAt w0 (g :: gs) (memS 0 n p M)) (hM : M.ok n p) (hp : 2 ≤ p ∧ p ≤ 1000) (hpc : word pc)
  (hK : K (.tup [.agg [.row S.length, .row (S.length + 1), .row (S.length + 2)], .c (.v (.bool true))]) (S ++ blkRows (liftM M pc most))) : CallS Tryz.prog w0 Gs.nil 15 [one (.int .u32 pc), one (ptrV g), one (intV most)] S K := by
 refine call_blkT (liftM M pc most) (.bool true) (by kernel_rfl) (fun r w us hR hd => ?_) hK
 obtain rfl := avals_den (xs := [.int .u32 pc, ptrV g, intV most]) rfl hd
 exact lifted_walk (objs_later (memS_ob n p M) hO hR.toBelow) hM hp pc most hpc
end
theorem holdE {p : Prop} (h : p ∨ False) : p := h.elim id False.elim
abbrev twoIT : TypeId := 24
end Go.Proofs.YtnhdcclpjildjaaGreat
