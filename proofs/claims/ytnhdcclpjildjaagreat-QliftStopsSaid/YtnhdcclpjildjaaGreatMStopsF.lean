/- The lifter: Lift. -/
import Derived.Test.YtnhdcclpjildjaaGreatMStopsE
namespace Go.Proofs.YtnhdcclpjildjaaGreat
open Go.RowKit

theorem below_next {a b c : World} (h : Below a.heap.size a b) (k : Below b.heap.size b c) : Below a.heap.size a c := ⟨k.os.trans h.os, k.tape.trans h.tape, k.output.trans h.output, Nat.le_trans h.size k.size, fun i hi => (k.block i (Nat.lt_of_lt_of_le hi h.size)).trans (h.block i hi)⟩
theorem addTo_four (l : List Int) (a : Int) : addTo l a 4 = addPages l a := by simp [addTo, addPages]
abbrev blT : TypeId := 32
abbrev nilB : Value := .slice none 0 0
abbrev zerosC : List CV := [.v nilB, .v nilB, .v nilB]
abbrev liftS (ats ps : List Int) (ops : List BOp) : List Ow := [.cells blT zerosC, .cells liT [.row 2, .row 3, .row 4], .row 35 1 ats.length (ats.map (.int .u32)), .row 3 1 ps.length (ps.map intV), .row opT 5 ops.length (ops.flatMap opC)]
set_option maxRecDepth 100000 in
set_option maxHeartbeats 8000000 in
theorem lift_walk (w : World) (F : Int → Option Int) (hF : ∀ a b, F a = some b → 0 ≤ b ∧ b < 256) (m : Nat) (t : TypeId) (hm : ∀ w, (method (Tryz.prog.types.size + Made.depth) t (ptrV m) "Fetch").run Tryz.prog w = .ok (163, ptrV m) w)
  (hcall : ∀ w' x, Below w.heap.size w w' → word x → Calls Tryz.prog 163 #[ptrV m, .int .u32 x] w' fun e w2 => e = .returned (fetV (F x)) ∧ Below w'.heap.size w' w2) (pc most : Int) (_hpc : word pc) :
  Calls Tryz.prog 40 #[.int .u32 pc, .iface t (ptrV m), intV most] w fun e w' => ∃ v1 v2 v3, e = .returned (.agg #[v1, v2, v3]) ∧ Rows3 w.heap.size w' v1 v2 v3 (liftQ (readQ F) pc (limN most)) ∧ Below w.heap.size w w' := by
 refine calls_satq [.int .u32 pc, .iface t (ptrV m), intV most] Tryz.func40 Tryz.ntmps40 rfl (by simp) ?_
 refine satq_seqN ?_
 conv => whnf
 refine satq_seqN ?_
 conv => whnf
 refine op_max rfl rfl rfl rfl ?_
 conv => whnf
 refine op_min rfl rfl rfl rfl ?_
 have hlim : (if 64 < (if most < 1 then 1 else most) then 64 else (if most < 1 then 1 else most)) = ((limN most : Nat) : Int) := by
  unfold limN; split <;> split <;> omega
 rw [hlim]
 obtain ⟨hn1, hn64⟩ := limN_ok most
 generalize limN most = n at hn1 hn64 ⊢
 clear hlim
 conv => whnf
 refine satq_seqN ?_
 conv => whnf
 refine satq_as (ent_field 1 0 35 1 rfl rfl) ?_
 refine satq_as (ent_field 1 1 3 1 rfl rfl) ?_
 refine satq_as (ent_field 1 2 opT 5 rfl rfl) ?_
 conv => whnf
 refine satq_mid (α := { p : List Int // (∀ x, x ∈ p ↔ x ∈ liftPages pc (liftLen (readQ F) pc n n 0)) ∧ p.length ≤ 256 }) (fun x => [(6, .p (.c (.ref 0 0))), (8, .p (.c (.ref 1 0)))]) (fun x => liftS (liftAts pc (liftLen (readQ F) pc n n 0)) x.1 (liftOps (readQ F) pc n n 0)) ?_ fun x => ?_
 ·refine satq_seqN ?_
  conv => whnf
  refine satq_block ?_
  refine satq_loop (α := LfS (readQ F) pc n) (fun x => [(0, one (.int .u32 pc)), (1, one (.iface t (ptrV m))), (6, .p (.c (.ref 0 0))), (7, one (.int .i64 (n : Int))), (8, .p (.c (.ref 1 0))), (9, one (.bool x.more))]) (fun x => liftS (liftAts pc x.k) x.ps x.pre) (fun x => (n - x.k) + if x.more then 1 else 0)
   ⟨true, 0, [], [], by omega, fun x => by simp [liftPages], by simp, by simp, fun _ => ⟨by omega, rfl, rfl⟩, fun h => by cases h⟩
   (ent_same rfl (aI rfl (aI rfl (aI rfl (aI rfl (aI rfl (aI rfl trivial)))))) (aI sM (aI sM (aI ((aI rfl (aI rfl (aI rfl rfl)))) (aI ((aI rfl (aI rfl (aI rfl rfl)))) (aI ((aI rfl (aI rfl (aI rfl rfl)))) trivial)))))) fun x => ?_
  obtain ⟨more, k, ps, pre, hk, hps, hpl, hol, hgo, hend⟩ := x
  dsimp only
  refine satq_seqN ?_
  conv => whnf
  refine ⟨fun hc => ?_, fun hc => ?_⟩
  ·obtain ⟨hkn, hops, hlen⟩ := hgo hc
   have hal : (liftAts pc k).length = k := by simp [liftAts]
   conv => whnf
   refine satq_block ?_
   refine satq_seqN ?_
   conv => whnf
   rw [hal]
   refine ⟨4 * (k : Int), by rw [wr64] <;> omega, ?_⟩
   conv => whnf
   refine ⟨4 * (k : Int), by rw [wr32]; omega, ?_⟩
   conv => whnf
   refine ⟨qAddr pc k, by rw [wr32]; rfl, ?_⟩
   conv => whnf
   refine satq_in (satq_kill 10 rfl rfl rfl ?_)
   conv => whnf
   rw [hal]
   refine ⟨(k : Int), by rw [wr32]; omega, ?_⟩
   conv => whnf
   refine kill_add 1 4 5 1 [⟨20, 0, 0, 0, (k : Int)⟩] rfl rfl rfl rfl ⟨by decide, by decide, by decide⟩ (Nat.zero_le _) rfl rfl (by omega) ?_
   conv => whnf
   refine atq_on ?_
   refine satq_seqN ?_
   conv => whnf
   refine appK_sound rfl ?_ rfl
   conv => whnf
   refine ⟨by omega, ?_⟩
   conv => whnf
   have hadd : ∀ x, x ∈ addTo (liftPages pc k) (qAddr pc k) 4 ↔ x ∈ liftPages pc (k + 1) := fun x => by rw [addTo_four]; rfl
   refine satq_mid (α := { q : List Int // (∀ x, x ∈ q ↔ x ∈ liftPages pc (k + 1)) ∧ q.length ≤ 4 * (k + 1) }) (fun x => [(0, one (.int .u32 pc)), (1, one (.iface t (ptrV m))), (6, .p (.c (.ref 0 0))), (7, one (.int .i64 (n : Int))), (8, .p (.c (.ref 1 0))), (10, one (.int .u32 (qAddr pc k)))]) (fun x => liftS (liftAts pc (k + 1)) x.1 (pre ++ [⟨20, 0, 0, 0, (k : Int)⟩])) ?_ fun x => ?_
   ·refine satq_seqN ?_
    conv => whnf
    refine satq_block ?_
    refine satq_loop (α := PgS (liftPages pc k) (qAddr pc k) (4 * k)) (fun x => [(0, one (.int .u32 pc)), (1, one (.iface t (ptrV m))), (6, .p (.c (.ref 0 0))), (7, one (.int .i64 (n : Int))), (8, .p (.c (.ref 1 0))), (10, one (.int .u32 (qAddr pc k))), (54, one (.int .u32 (x.j : Int)))]) (fun x => liftS (liftAts pc (k + 1)) x.q (pre ++ [⟨20, 0, 0, 0, (k : Int)⟩])) (fun x => 4 - x.j)
     ⟨0, ps, by omega, hps, hpl⟩
     (ent_drop (aI rfl (aI rfl (aI rfl (aI rfl (aI rfl (aI rfl (aI rfl trivial))))))) (aI sM (aI sM (aI ((aI rfl (aI rfl (aI (by simp [liftAts]) (by simp [liftAts_succ]))))) (aI ((aI rfl (aI rfl (aI rfl rfl)))) (aI ((aI rfl (aI rfl (aI rfl rfl)))) trivial))))) rfl rfl) fun x => ?_
    obtain ⟨j, q, hj, hq, hql⟩ := x
    dsimp only
    have haw : word (qAddr pc k) := cut32_word _
    refine satq_seqN ?_
    conv => whnf
    refine satq_seqN ?_
    conv => whnf
    refine ⟨fun hc => ?_, fun hc => ?_⟩
    ·have hlt : j < 4 := by simp at hc; omega
     conv => whnf
     have hcut : word (cut32 (qAddr pc k + j)) := cut32_word _
     refine satq_mid (α := { q2 : List Int // (∀ x, x ∈ q2 ↔ x ∈ addTo (liftPages pc k) (qAddr pc k) (j + 1)) ∧ q2.length ≤ 4 * k + (j + 1) }) (fun x => [(0, one (.int .u32 pc)), (1, one (.iface t (ptrV m))), (6, .p (.c (.ref 0 0))), (7, one (.int .i64 (n : Int))), (8, .p (.c (.ref 1 0))), (10, one (.int .u32 (qAddr pc k))), (54, one (.int .u32 (j : Int)))]) (fun x => liftS (liftAts pc (k + 1)) x.1 (pre ++ [⟨20, 0, 0, 0, (k : Int)⟩])) ?_ fun x => ?_
     ·refine satq_vcN ?_
      conv => whnf
      refine ⟨cut32 (qAddr pc k + j), by rw [wr32]; rfl, ?_⟩
      conv => whnf
      refine ⟨by decide, pageOf (qAddr pc k + j), by rw [Int.tdiv_eq_ediv_of_nonneg hcut.1, wr32]; unfold pageOf; unfold word at hcut; omega, ?_⟩
      conv => whnf
      refine ⟨fun hc => ?_, fun hc => ?_⟩
      ·have hp : pageOf (qAddr pc k + j) < 4096 := by simpa using hc
       conv => whnf
       refine ⟨pageOf (qAddr pc k + j), by have : 0 ≤ pageOf (qAddr pc k + j) := Int.ediv_nonneg hcut.1 (by decide); rw [wr64] <;> omega, ?_⟩
       conv => whnf
       refine appK_sound rfl ?_ rfl
       conv => whnf
       refine ⟨by omega, ?_⟩
       conv => whnf
       exact atq_mid ⟨q ++ [pageOf (qAddr pc k + j)], fun x => by rw [addTo, mem_addPage, List.mem_append, hq]; simp [hp], by simp; omega⟩ (ent_drop (aI rfl (aI rfl (aI rfl (aI rfl (aI rfl (aI rfl (aI rfl trivial))))))) (aI sM (aI sM (aI ((aI rfl (aI rfl (aI rfl rfl)))) (aI ((aI rfl (aI rfl (aI (by simp) (by simp))))) (aI ((aI rfl (aI rfl (aI rfl rfl)))) trivial))))) rfl rfl)
      ·have hp : ¬ pageOf (qAddr pc k + j) < 4096 := by simpa using hc
       conv => whnf
       exact atq_mid ⟨q, fun x => by rw [addTo, mem_addPage, hq]; simp [hp], by omega⟩ (ent_same rfl (aI rfl (aI rfl (aI rfl (aI rfl (aI rfl (aI rfl (aI rfl trivial))))))) (aI sM (aI sM (aI ((aI rfl (aI rfl (aI rfl rfl)))) (aI ((aI rfl (aI rfl (aI rfl rfl)))) (aI ((aI rfl (aI rfl (aI rfl rfl)))) trivial))))))
     ·obtain ⟨q2, hq2, hl2⟩ := x
      dsimp only
      refine satq_vcN ?_
      conv => whnf
      refine ⟨(j : Int) + 1, by rw [wr32]; omega, ?_⟩
      conv => whnf
      exact atq_next ⟨j + 1, q2, by omega, hq2, hl2⟩ (ent_same rfl (aI rfl (aI rfl (aI rfl (aI rfl (aI rfl (aI rfl (aI rfl trivial))))))) (aI sM (aI sM (aI ((aI rfl (aI rfl (aI rfl rfl)))) (aI ((aI rfl (aI rfl (aI rfl rfl)))) (aI ((aI rfl (aI rfl (aI rfl rfl)))) trivial)))))) (by show 4 - (j + 1) < 4 - j; omega)
    ·have he : j = 4 := by simp at hc; omega
     subst he
     conv => whnf
     exact atq_out (atq_exit (atq_mid ⟨q, fun x => (hq x).trans (hadd x), by omega⟩ (ent_same rfl (aI rfl (aI rfl (aI rfl (aI rfl (aI rfl (aI rfl trivial)))))) (aI sM (aI sM (aI ((aI rfl (aI rfl (aI rfl rfl)))) (aI ((aI rfl (aI rfl (aI rfl rfl)))) (aI ((aI rfl (aI rfl (aI rfl rfl)))) trivial))))))))
   obtain ⟨q, hq2, hql⟩ := x
   dsimp only
   have haw : word (qAddr pc k) := cut32_word _
   refine satq_seqN ?_
   conv => whnf
   refine call_con rfl (by kernel_rfl) (fun r w' hR => read_walk w' F hF m t hm (qAddr pc k) haw fun w2 x hB hx => hcall w2 x (below_next hR.toBelow hB) hx) ?_
   conv => whnf
   obtain ⟨i, hi⟩ : ∃ i, qAt (readQ F) (qAddr pc k) = i := ⟨_, rfl⟩
   have hiok : i.ok := hi ▸ qAt_ok (fun a i h => readQ_ok hF h) _
   have hi2 : (readQ F (qAddr pc k)).getD QI.zero = i := hi
   rw [hi2]
   refine satq_mid (α := Unit) (fun _ => [(0, one (.int .u32 pc)), (1, one (.iface t (ptrV m))), (6, .p (.c (.ref 0 0))), (7, one (.int .i64 (n : Int))), (8, .p (.c (.ref 1 0))), (10, one (.int .u32 (qAddr pc k))), (13, .p (.c (.ref 5 0)))]) (fun _ => liftS (liftAts pc (k + 1)) q (pre ++ [⟨20, 0, 0, 0, (k : Int)⟩]) ++ [.cells qiT ((qiL i).map .v)]) ?_ fun _ => ?_
   ·refine satq_vcN ?_
    conv => whnf
    refine ⟨fun hc => ?_, fun hc => ?_⟩
    ·have hz : i = QI.zero := by
      rw [← hi2]
      cases hr : readQ F (qAddr pc k) with
      | none => rfl
      | some y => rw [hr] at hc; cases hc
     subst hz
     conv => whnf
     exact atq_mid () (ent_same rfl (aI rfl (aI rfl (aI rfl (aI rfl (aI rfl (aI rfl (aI rfl trivial))))))) (aI sM (aI sM (aI ((aI rfl (aI rfl (aI rfl rfl)))) (aI ((aI rfl (aI rfl (aI rfl rfl)))) (aI ((aI rfl (aI rfl (aI rfl rfl)))) (aI sM trivial)))))))
    ·conv => whnf
     exact atq_mid () (ent_same rfl (aI rfl (aI rfl (aI rfl (aI rfl (aI rfl (aI rfl (aI rfl trivial))))))) (aI sM (aI sM (aI ((aI rfl (aI rfl (aI rfl rfl)))) (aI ((aI rfl (aI rfl (aI rfl rfl)))) (aI ((aI rfl (aI rfl (aI rfl rfl)))) (aI sM trivial)))))))
   ·obtain ⟨fu, hfu⟩ : ∃ fu, n - k = fu + 1 := ⟨n - k - 1, by omega⟩
    have hbl := qBody_length i (qAddr pc k)
    have hw := fun w g vA vP vO (h : LiftAt w g vA vP vO (pre ++ [⟨20, 0, 0, 0, (k : Int)⟩])) => instr_walk i (qAddr pc k) h hiok (by simp; omega)
    have hfu2 : fu = n - (k + 1) := by omega
    rw [hfu, liftOps_succ, hi] at hops
    rw [hfu, liftLen_succ, hi] at hlen
    have hal' : (liftAts pc (k + 1)).length = k + 1 := by simp [liftAts]
    cases hq : qTail i (qAddr pc k) with
    | some tl =>
     have htl := qTail_length hq
     simp only [hq, Option.isNone_some, Option.getD_some] at hw hops hlen
     refine satq_in (satq_kill 3 rfl rfl rfl ?_)
     conv => whnf
     refine kill_lift 1 4 (pre ++ [⟨20, 0, 0, 0, (k : Int)⟩] ++ (qBody i (qAddr pc k) ++ tl)) (.bool false) rfl rfl (by decide) (Nat.zero_le _) rfl rfl (by rfl) (by kernel_rfl) hw ?_
     conv => whnf
     refine atq_on ?_
     refine satq_vcN ?_
     conv => whnf
     (repeat ((first | apply k1 | apply k2 | apply k3 | apply k4 | refine k5 (by decide) ?_ | refine k6 (by decide) ?_); conv => whnf))
     exact atq_block (atq_next ⟨false, k + 1, q, pre ++ [⟨20, 0, 0, 0, (k : Int)⟩] ++ (qBody i (qAddr pc k) ++ tl), by omega, hq2, hql, by simp; omega, fun h => (by cases h), fun _ => ⟨by rw [← hops]; simp, hlen⟩⟩ (ent_drop (aI rfl (aI rfl (aI rfl (aI rfl (aI rfl (aI rfl trivial)))))) (aI sM (aI sM (aI ((aI rfl (aI rfl (aI rfl rfl)))) (aI ((aI rfl (aI rfl (aI rfl rfl)))) (aI ((aI rfl (aI rfl (aI rfl rfl)))) trivial))))) rfl rfl) (by show n - (k + 1) + 0 < _; rw [if_pos hc]; omega))
    | none =>
     simp only [hq, Option.isNone_none, Option.getD_none, List.append_nil] at hw hops hlen
     refine satq_in (satq_kill 3 rfl rfl rfl ?_)
     conv => whnf
     refine kill_lift 1 4 (pre ++ [⟨20, 0, 0, 0, (k : Int)⟩] ++ qBody i (qAddr pc k)) (.bool true) rfl rfl (by decide) (Nat.zero_le _) rfl rfl (by rfl) (by kernel_rfl) hw ?_
     conv => whnf
     refine atq_on ?_
     refine satq_seqN ?_
     conv => whnf
     (repeat ((first | apply k1 | apply k2 | apply k3 | apply k4 | refine k5 (by decide) ?_ | refine k6 (by decide) ?_); conv => whnf))
     refine satq_cond rfl (fun hk1 => ?_) (fun hk1 => ?_)
     ·have hkn1 : k + 1 = n := by
       have : ((liftAts pc (k + 1)).length : Int) = n := by simpa using hk1
       omega
      rw [if_pos hkn1] at hops hlen
      refine satq_in (satq_kill 5 rfl rfl rfl ?_)
      conv => whnf
      refine ⟨cut32 (qAddr pc k + 4), by rw [wr32]; rfl, ?_⟩
      conv => whnf
      refine kill_add 1 4 6 1 [⟨24, 0, 0, 0, cut32 (qAddr pc k + 4)⟩] rfl rfl rfl rfl ⟨by decide, by decide, by decide⟩ (Nat.zero_le _) rfl rfl (by simp; omega) ?_
      conv => whnf
      refine atq_on ?_
      refine satq_vcN ?_
      conv => whnf
      exact atq_block (atq_next ⟨false, k + 1, q, pre ++ [⟨20, 0, 0, 0, (k : Int)⟩] ++ qBody i (qAddr pc k) ++ [⟨24, 0, 0, 0, cut32 (qAddr pc k + 4)⟩], by omega, hq2, hql, by simp; omega, fun h => (by cases h), fun _ => ⟨by rw [← hops]; simp, hlen⟩⟩ (ent_drop (aI rfl (aI rfl (aI rfl (aI rfl (aI rfl (aI rfl trivial)))))) (aI sM (aI sM (aI ((aI rfl (aI rfl (aI rfl rfl)))) (aI ((aI rfl (aI rfl (aI rfl rfl)))) (aI ((aI rfl (aI rfl (aI rfl rfl)))) trivial))))) rfl rfl) (by show n - (k + 1) + 0 < _; rw [if_pos hc]; omega))
     ·have hkn1 : ¬ k + 1 = n := by
       intro e
       have : (((liftAts pc (k + 1)).length : Int) == n) = true := by simp; omega
       rw [show (bif true then (((liftAts pc (k + 1)).length : Int) == n) else false) = (((liftAts pc (k + 1)).length : Int) == n) from rfl, this] at hk1
       cases hk1
      rw [if_neg hkn1] at hops hlen
      rw [hfu2] at hops hlen
      refine satq_skip ?_
      exact atq_block (atq_next ⟨true, k + 1, q, pre ++ [⟨20, 0, 0, 0, (k : Int)⟩] ++ qBody i (qAddr pc k), by omega, hq2, hql, by simp; omega, fun _ => ⟨by omega, by rw [← hops]; simp, hlen⟩, fun h => (by cases h)⟩ (ent_drop (aI rfl (aI rfl (aI rfl (aI rfl (aI rfl (aI rfl trivial)))))) (aI sM (aI sM (aI ((aI rfl (aI rfl (aI rfl rfl)))) (aI ((aI rfl (aI rfl (aI rfl rfl)))) (aI ((aI rfl (aI rfl (aI rfl rfl)))) trivial))))) rfl rfl) (by show n - (k + 1) + 1 < _; rw [if_pos hc]; omega))
  ·obtain ⟨hops, hlen⟩ := hend hc
   subst hops
   subst hlen
   conv => whnf
   exact atq_out (atq_exit (atq_mid ⟨ps, hps, by omega⟩ (ent_same rfl (aI rfl (aI rfl trivial)) (aI sM (aI sM (aI ((aI rfl (aI rfl (aI rfl rfl)))) (aI ((aI rfl (aI rfl (aI rfl rfl)))) (aI ((aI rfl (aI rfl (aI rfl rfl)))) trivial))))))))
 obtain ⟨ps, hps, hpl⟩ := x
 dsimp only
 have hul := uniqL_length ps
 obtain ⟨hui, hum⟩ := uniqL_is ps
 have hup : uniqL ps = liftPages pc (liftLen (readQ F) pc n n 0) := liftPages_is hui fun x => (hum x).trans (hps x)
 refine satq_in (satq_kill 6 rfl rfl rfl ?_)
 conv => whnf
 refine kill_row (e := 3) (size := 1) (n := ps.length) (n' := (uniqL ps).length) (xs := ps.map intV) (xs' := (uniqL ps).map intV) 3 rfl (Nat.zero_le _) (by kernel_rfl) (fun w v h => unique_walk w v ps (by omega) h) ?_
 conv => whnf
 refine atq_on ?_
 refine satq_vcN ?_
 conv => whnf
 refine atq_ret ?_
 conv => whnf
 exact fin_rows3 2 3 4 (liftQ (readQ F) pc n) (by decide) (by decide) (by decide) (.inl ⟨rfl, rfl⟩) (.inl ⟨rfl, by rw [hup]; rfl⟩) (.inl ⟨rfl, rfl⟩) fun w v1 v2 v3 h1 h2 => ⟨_, _, _, rfl, h1, h2⟩
end Go.Proofs.YtnhdcclpjildjaaGreat
namespace Go.Proofs.YtnhdcclpjildjaaGreat
open Go.RowKit

theorem setAll_in {α : Type} : ∀ (C X Y : List α) (off : Nat), setAll (X ++ Y) (X.length + off) C = X ++ setAll Y off C
 | [], X, Y, off => rfl
 | c :: C, X, Y, off => by
  show setAll ((X ++ Y).set (X.length + off) c) (X.length + off + 1) C = X ++ setAll (Y.set off c) (off + 1) C
  rw [List.set_append_right _ _ (by omega), show X.length + off - X.length = off by omega, show X.length + off + 1 = X.length + (off + 1) by omega]
  exact setAll_in C X _ (off + 1)
abbrev nilV : Value := .pointer none
abbrev newC : List CV := [.ref 2 0, .ref 2 0, .v (.bool false), .v (.bool false), .ref 2 0, .ref 2 0, .v (intV 0)]
abbrev rawV : List Value := [nilV, nilV, .bool false, .bool false, nilV, nilV, intV 0]
def newL (p j : Nat) : List CV := (List.replicate j newC).flatten ++ (List.replicate (p - j) (rawV.map CV.v)).flatten
theorem flat_len {α : Type} (C : List α) : ∀ j : Nat, ((List.replicate j C).flatten).length = j * C.length
 | 0 => by simp
 | j + 1 => by rw [List.replicate_succ, List.flatten_cons, List.length_append, flat_len C j, Nat.succ_mul]; omega
theorem newL_length (p j : Nat) (h : j ≤ p) : (newL p j).length = 7 * p := by
 unfold newL
 rw [List.length_append, flat_len, flat_len]
 show j * 7 + (p - j) * 7 = 7 * p
 omega
theorem newL_succ (p j : Nat) (h : j < p) : setAll (setAll (setAll (newL p j) (7 * j) [.ref 2 0, .v nilV, .v (.bool false), .v (.bool false), .ref 2 0, .v nilV, .v (intV 0)]) (7 * j + 1) [CV.ref 2 0]) (7 * j + 5) [CV.ref 2 0] = newL p (j + 1) := by
 have e1 : newL p j = (List.replicate j newC).flatten ++ (rawV.map CV.v ++ (List.replicate (p - (j + 1)) (rawV.map CV.v)).flatten) := by
  unfold newL
  rw [show p - j = (p - (j + 1)) + 1 by omega, List.replicate_succ, List.flatten_cons]
 have e2 : newL p (j + 1) = (List.replicate j newC).flatten ++ (newC ++ (List.replicate (p - (j + 1)) (rawV.map CV.v)).flatten) := by
  unfold newL
  rw [List.replicate_succ', List.flatten_append, List.flatten_cons, List.flatten_nil, List.append_nil, List.append_assoc]
 have hl : ((List.replicate j newC).flatten).length = 7 * j := by rw [flat_len]; show j * 7 = _; omega
 have step : ∀ (Y C : List CV) (off : Nat), setAll ((List.replicate j newC).flatten ++ Y) (7 * j + off) C = (List.replicate j newC).flatten ++ setAll Y off C := fun Y C off => by rw [← hl]; exact setAll_in C _ Y off
 have s0 := fun Y C => step Y C 0
 rw [Nat.add_zero] at s0
 rw [e1, e2, s0, step, step]
 rfl
def newSlots (p z : Nat) : List Slt := List.replicate p ⟨z, z, false, false, z, z, 0⟩
theorem newL_den {r : Env} {z : Nat} (h : r.blk 2 = some z) : ∀ p, denL r ((List.replicate p newC).flatten) (slotsL (newSlots p z))
 | 0 => by show denL r [] []; rfl
 | p + 1 => by
  unfold newSlots slotsL
  rw [List.replicate_succ, List.flatten_cons, List.replicate_succ, List.flatMap_cons]
  have hz : CV.den r (.ref 2 0) (ptrV z) := by simp only [CV.den]; exact ⟨z, h, rfl⟩
  exact denL_append ⟨_, _, rfl, hz, _, _, rfl, hz, _, _, rfl, rfl, _, _, rfl, rfl, _, _, rfl, hz, _, _, rfl, hz, _, _, rfl, rfl, rfl⟩ (newL_den h p)
theorem raw_made (p : Nat) (z : Array Value) (hz : z.toList = rawV) : (madeCells z (p * 7)).toList = (List.replicate p rawV).flatten := by
 have hs : z = rawV.toArray := by apply Array.ext'; rw [hz]
 subst hs
 have e : ∀ p : Nat, (List.range (p * 7)).map (fun i => (rawV.toArray)[i % 7]!) = (List.replicate p rawV).flatten := by
  intro p
  induction p with
  | zero => rfl
  | succ p ih =>
   rw [Nat.succ_mul, List.range_add, List.map_append, ih, List.map_map, List.replicate_succ', List.flatten_append, List.flatten_cons, List.flatten_nil, List.append_nil]
   congr 1
   have : ∀ i ∈ List.range 7, ((fun i => (rawV.toArray)[i % 7]!) ∘ fun x => p * 7 + x) i = (rawV.toArray)[i]! := by
    intro i hi
    have hi7 : i < 7 := List.mem_range.1 hi
    show (rawV.toArray)[(p * 7 + i) % 7]! = _
    rw [show (p * 7 + i) % 7 = i by omega]
   rw [List.map_congr_left this]
   rfl
 rw [← e p]
 simp only [madeCells, Array.toList_map, Array.toList_range]
 rfl
end Go.Proofs.YtnhdcclpjildjaaGreat
namespace Go.Proofs.YtnhdcclpjildjaaGreat
open Go.RowKit

theorem newL_zero (p : Nat) : newL p 0 = ((List.replicate p rawV).flatten).map CV.v := by
 unfold newL
 rw [List.replicate_zero, List.flatten_nil, List.nil_append, Nat.sub_zero, List.map_flatten, List.map_replicate]
theorem zpage_c : List.map CV.v (zpage.map byteV) = (List.replicate 256 (Value.int .u8 0)).map CV.v := by
 rw [List.map_replicate]
set_option maxRecDepth 100000 in
set_option maxHeartbeats 2000000 in
theorem newM_walk (p : Nat) (w : World) (hp : 2 ≤ p ∧ p ≤ 4096) :
  Calls Tryz.prog 66 #[intV (p : Int), .bool false] w fun e w' => ∃ m sb z, e = .returned (ptrV m) ∧ MemAt2 w' w.heap.size m sb (newSlots p z) (fun _ => zpage) ∧ Below w.heap.size w w' := by
 have hmade : (madeCells (Value.agg rawV.toArray).cells (p * 7)).toList = (List.replicate p rawV).flatten := raw_made p _ rfl
 refine calls_satq [intV (p : Int), .bool false] Tryz.func66 Tryz.ntmps66 rfl (by simp) ?_
 refine satq_seqN ?_
 conv => whnf
 refine satq_seqN ?_
 conv => whnf
 refine op_max rfl rfl rfl rfl ?_
 rw [if_neg (by omega)]
 conv => whnf
 refine op_min rfl rfl rfl rfl ?_
 rw [if_neg (by omega)]
 conv => whnf
 refine op_makeCells 7 p rfl rfl rfl rfl rfl rfl rfl (by omega) (by show 48 * p ≤ _; omega) (by show p ≤ 9223372036854775807; omega) rfl hmade ?_
 conv => whnf
 refine satq_seqN ?_
 conv => whnf
 have hS0 : ∀ j, (newL p j).length = 7 * p → True := fun _ _ => trivial
 refine satq_as (f' := [(1, one (.bool false)), (5, .p (.c (.ref 1 0))), (6, .p (.c (.ref 2 0)))]) (S' := [.cells 168 (newL p 0), .cells 163 [.sl 0 0 p p, .v (.bool false)], .cells 166 ((zpage.map byteV).map .v)]) (ent_same rfl (aI rfl (aI rfl (aI rfl trivial))) (aI ((aI rfl (Or.inl (newL_zero p).symm))) (aI sM (aI ((aI rfl (Or.inl (by rw [zpage_c]; kernel_rfl)))) trivial)))) ?_
 refine satq_cut (α := Unit) (fun _ => [(5, .p (.c (.ref 1 0)))]) (fun _ => [.cells 168 (newL p p), .cells 163 [.sl 0 0 p p, .v (.bool false)], .cells 166 ((zpage.map byteV).map .v)]) ?_ fun _ => ?_
 ·conv => whnf
  refine ⟨{ j : Nat // j ≤ p }, fun x => [(1, one (.bool false)), (5, .p (.c (.ref 1 0))), (6, .p (.c (.ref 2 0))), (21, one (intV (p : Int))), (22, one (intV (x.1 : Int)))], fun x => [.cells 168 (newL p x.1), .cells 163 [.sl 0 0 p p, .v (.bool false)], .cells 166 ((zpage.map byteV).map .v)], fun x => p - x.1,
   ⟨⟨0, by omega⟩, ent_same rfl (aI rfl (aI rfl (aI rfl (aI rfl (aI rfl trivial))))) (aI sM (aI sM (aI sM trivial)))⟩, fun x => ?_⟩
  obtain ⟨j, hj⟩ := x
  dsimp only
  have hl := newL_length p j hj
  conv => whnf
  refine ⟨fun hc => ?_, fun hc => ?_⟩
  ·have hlt : j < p := by simp at hc; omega
   have hs := newL_succ p j hlt
   generalize newL p j = L at hl hs ⊢
   conv => whnf
   (refine ⟨⟨by omega, by omega⟩, ?_⟩; (conv=>whnf))
   erw [show Nat.ble (0 + (j : Int).toNat * 7 + 7) L.length = true from Nat.ble_eq_true_of_le (by rw [hl]; omega)]
   conv => whnf
   erw [show Nat.ble L.length 8 = false from by rw [hl]; exact ble_no (by omega)]
   conv => whnf
   (repeat ((first | apply k1 | apply k2 | apply k3 | apply k4 | refine k5 (by decide) ?_ | refine k6 (by decide) ?_); conv => whnf))
   have hl1 : (setAll L (0 + (j : Int).toNat * 7) [CV.ref 2 0, .v nilV, .v (.bool false), .v (.bool false), .ref 2 0, .v nilV, .v (intV 0)]).length = 7 * p := by rw [setAll_length, hl]
   refine sat_anyG (.q 0 (.q 1 (.q 2 (.q 4 (.q 5 (.q 6 (.q 7 (.q 9 (.q 10 (.q 11 (.alt 3 (.alt 8 (.alt 12 (.alt 13 (.alt 14 (.alt 15 (.alt 16 (.alt 17 .done .no) .no) .no) .no) .no) .no) .no) (.alt 8 (.alt 3 (.alt 12 (.alt 13 (.alt 14 (.alt 15 (.alt 16 (.alt 17 .done .no) .no) .no) .no) .no) .no) .no) .no)))))))))))) mixed (by kernel_rfl) (by kernel_rfl) ?_
   conv => whnf
   refine ⟨?_, ?_, trivial⟩
   ·conv => whnf
    refine ⟨?_, trivial⟩
    conv => whnf
    refine ⟨⟨⟨by omega, by omega⟩, ?_⟩, trivial⟩
    conv => whnf
    refine ⟨?_, trivial⟩
    conv => whnf
    refine ⟨?_, trivial⟩
    conv => whnf
    erw [show Nat.ble (0 + (j : Int).toNat * 7 + 1 + 1) (setAll L (0 + (j : Int).toNat * 7) [CV.ref 2 0, .v nilV, .v (.bool false), .v (.bool false), .ref 2 0, .v nilV, .v (intV 0)]).length = true from Nat.ble_eq_true_of_le (by rw [hl1]; omega)]
    conv => whnf
    erw [show Nat.ble (setAll L (0 + (j : Int).toNat * 7) [CV.ref 2 0, .v nilV, .v (.bool false), .v (.bool false), .ref 2 0, .v nilV, .v (intV 0)]).length 8 = false from by rw [hl1]; exact ble_no (by omega)]
    conv => whnf
    refine ⟨⟨⟨by omega, by omega⟩, ?_⟩, trivial⟩
    conv => whnf
    refine ⟨?_, trivial⟩
    conv => whnf
    refine ⟨?_, trivial⟩
    conv => whnf
    have hl2 : (setAll (setAll L (0 + (j : Int).toNat * 7) [CV.ref 2 0, .v nilV, .v (.bool false), .v (.bool false), .ref 2 0, .v nilV, .v (intV 0)]) (0 + (j : Int).toNat * 7 + 1) [CV.ref 2 0]).length = 7 * p := by rw [setAll_length, hl1]
    erw [show Nat.ble (0 + (j : Int).toNat * 7 + 5 + 1) (setAll (setAll L (0 + (j : Int).toNat * 7) [CV.ref 2 0, .v nilV, .v (.bool false), .v (.bool false), .ref 2 0, .v nilV, .v (intV 0)]) (0 + (j : Int).toNat * 7 + 1) [CV.ref 2 0]).length = true from Nat.ble_eq_true_of_le (by rw [hl2]; omega)]
    conv => whnf
    erw [show Nat.ble (setAll (setAll L (0 + (j : Int).toNat * 7) [CV.ref 2 0, .v nilV, .v (.bool false), .v (.bool false), .ref 2 0, .v nilV, .v (intV 0)]) (0 + (j : Int).toNat * 7 + 1) [CV.ref 2 0]).length 8 = false from by rw [hl2]; exact ble_no (by omega)]
    conv => whnf
    refine ⟨((j + 1 : Nat) : Int), by rw [show (j : Int) + 1 = ((j + 1 : Nat) : Int) by omega]; exact wr64 (by omega), ?_⟩
    conv => whnf
    exact ⟨⟨j + 1, by omega⟩, ent_same rfl (aI rfl (aI rfl (aI rfl (aI rfl (aI rfl trivial))))) (aI ((aI rfl (Or.inl (by rw [← hs, show 7 * j = 0 + (j : Int).toNat * 7 by omega]; rfl)))) (aI sM (aI sM trivial))), by show p - (j + 1) < p - j; omega⟩
   ·conv => whnf
    refine ⟨?_, trivial⟩
    conv => whnf
    refine ⟨⟨⟨by omega, by omega⟩, ?_⟩, trivial⟩
    conv => whnf
    refine ⟨?_, trivial⟩
    conv => whnf
    refine ⟨?_, trivial⟩
    conv => whnf
    erw [show Nat.ble (0 + (j : Int).toNat * 7 + 1 + 1) (setAll L (0 + (j : Int).toNat * 7) [CV.ref 2 0, .v nilV, .v (.bool false), .v (.bool false), .ref 2 0, .v nilV, .v (intV 0)]).length = true from Nat.ble_eq_true_of_le (by rw [hl1]; omega)]
    conv => whnf
    erw [show Nat.ble (setAll L (0 + (j : Int).toNat * 7) [CV.ref 2 0, .v nilV, .v (.bool false), .v (.bool false), .ref 2 0, .v nilV, .v (intV 0)]).length 8 = false from by rw [hl1]; exact ble_no (by omega)]
    conv => whnf
    refine ⟨⟨⟨by omega, by omega⟩, ?_⟩, trivial⟩
    conv => whnf
    refine ⟨?_, trivial⟩
    conv => whnf
    refine ⟨?_, trivial⟩
    conv => whnf
    have hl2 : (setAll (setAll L (0 + (j : Int).toNat * 7) [CV.ref 2 0, .v nilV, .v (.bool false), .v (.bool false), .ref 2 0, .v nilV, .v (intV 0)]) (0 + (j : Int).toNat * 7 + 1) [CV.ref 2 0]).length = 7 * p := by rw [setAll_length, hl1]
    erw [show Nat.ble (0 + (j : Int).toNat * 7 + 5 + 1) (setAll (setAll L (0 + (j : Int).toNat * 7) [CV.ref 2 0, .v nilV, .v (.bool false), .v (.bool false), .ref 2 0, .v nilV, .v (intV 0)]) (0 + (j : Int).toNat * 7 + 1) [CV.ref 2 0]).length = true from Nat.ble_eq_true_of_le (by rw [hl2]; omega)]
    conv => whnf
    erw [show Nat.ble (setAll (setAll L (0 + (j : Int).toNat * 7) [CV.ref 2 0, .v nilV, .v (.bool false), .v (.bool false), .ref 2 0, .v nilV, .v (intV 0)]) (0 + (j : Int).toNat * 7 + 1) [CV.ref 2 0]).length 8 = false from by rw [hl2]; exact ble_no (by omega)]
    conv => whnf
    refine ⟨((j + 1 : Nat) : Int), by rw [show (j : Int) + 1 = ((j + 1 : Nat) : Int) by omega]; exact wr64 (by omega), ?_⟩
    conv => whnf
    exact ⟨⟨j + 1, by omega⟩, ent_same rfl (aI rfl (aI rfl (aI rfl (aI rfl (aI rfl trivial))))) (aI ((aI rfl (Or.inl (by rw [← hs, show 7 * j = 0 + (j : Int).toNat * 7 by omega]; rfl)))) (aI sM (aI sM trivial))), by show p - (j + 1) < p - j; omega⟩
  ·have hje : j = p := by simp at hc; omega
   subst hje
   conv => whnf
   refine ⟨_, _, ent_refl, ?_⟩
   conv => whnf
   exact ⟨(), ent_same rfl (aI rfl trivial) (aI sM (aI sM (aI sM trivial)))⟩
 ·refine satq_vcN ?_
  conv => whnf
  refine atq_ret ?_
  conv => whnf
  refine ⟨fun r w' u hR hd => ?_⟩
  obtain ⟨m, hm, rfl⟩ := den_ref hd
  obtain ⟨sb, us, a1, a2, a3⟩ := hR.own 0 _ rfl
  obtain ⟨m', vs, b1, b2, b3⟩ := hR.own 1 _ rfl
  obtain ⟨z, ps, c1, c2, c3⟩ := hR.own 2 _ rfl
  rw [hm] at b1; injection b1 with b1; subst b1
  obtain ⟨v1, l2, rfl, d3, v2, l3, rfl, d4, d5⟩ := b3
  obtain rfl : l3 = [] := d5
  obtain ⟨sb', y1, rfl⟩ := d3
  rw [a1] at y1; injection y1 with y1; subst y1
  obtain rfl : v2 = .bool false := d4
  have hB := hR.toBelow
  have fresh : ∀ {i b : Nat}, r.blk i = some b → w.heap.size ≤ b := fun {i b} hb => by
   rcases Nat.lt_or_ge b w.heap.size with h1 | h1
   ·rcases (hR.new i b hb).2 h1 with h2 | h2 <;> cases h2
   ·exact h1
  have hus : us = slotsL (newSlots p z) := by
   have e1 : newL p p = (List.replicate p newC).flatten := by unfold newL; rw [Nat.sub_self]; simp
   rw [e1] at a3
   refine denL_det (n := 3) (fun c hc => ?_) a3 (newL_den c1 p)
   obtain ⟨L, hL, hcL⟩ := List.mem_flatten.1 hc
   have := List.eq_of_mem_replicate hL
   subst this
   simp only [newC, List.mem_cons, List.not_mem_nil, or_false] at hcL
   rcases hcL with rfl | rfl | rfl | rfl | rfl | rfl | rfl <;> rfl
  have hpage : PageAt w' z zpage := ⟨by rw [c2, denL_vals_inv c3], by simp, fun x hx => by have := List.eq_of_mem_replicate hx; omega⟩
  have hlen : (newSlots p z).length = p := by unfold newSlots; simp
  refine ⟨m, sb, z, rfl, ⟨by rw [hlen]; exact b2, by rw [a2, hus], fresh hm, fresh a1, fun s hs => ?_, fun k s hk => ?_, fun s hs s' hs' ho => ?_⟩, hB⟩
  ·have := List.eq_of_mem_replicate hs
   subst this
   exact ⟨⟨zpage, hpage⟩, fresh c1⟩
  ·have := List.eq_of_mem_replicate (List.mem_of_getElem? hk)
   subst this
   exact ⟨hpage, fresh c1⟩
  ·have := List.eq_of_mem_replicate hs
   subst this
   cases ho
end Go.Proofs.YtnhdcclpjildjaaGreat
namespace Go.Proofs.YtnhdcclpjildjaaGreat
open Go.RowKit

theorem imgTo_succ (M : MemP) (j : Nat) : (fun k => if k = j then M.img j else imgTo M j k) = imgTo M (j + 1) := by
 funext k
 unfold imgTo
 by_cases h : k = j
 ·subst h; rw [if_pos rfl, if_pos (by omega)]
 ·rw [if_neg h]
  by_cases h2 : k < j
  ·rw [if_pos h2, if_pos (by omega)]
  ·rw [if_neg h2, if_neg (by omega)]
theorem img_length {M : MemP} {n p k : Nat} (hM : M.ok n p) (hk : k < p) : (M.img k).length = 256 := by
 have := hM.np
 unfold MemP.img
 rw [List.length_take, List.length_drop, hM.li]; omega
theorem img_byte {M : MemP} {n p : Nat} (hM : M.ok n p) (k : Nat) : ∀ x ∈ M.img k, 0 ≤ x ∧ x < 256 := fun x hx => hM.ib x (List.mem_of_mem_drop (List.mem_of_mem_take hx))
theorem page_byte {M : MemP} {n p : Nat} (hM : M.ok n p) (k : Nat) : ∀ x ∈ M.page k, 0 ≤ x ∧ x < 256 := fun x hx => hM.db x (List.mem_of_mem_drop (List.mem_of_mem_take hx))
theorem rightsAt_range {M : MemP} {n p : Nat} (hM : M.ok n p) (k : Nat) : 0 ≤ M.rightsAt k ∧ M.rightsAt k < 8 := by
 unfold MemP.rightsAt
 cases h : M.rights[k]? with
 | none => simp
 | some x => exact hM.rb x (List.mem_of_getElem? h)
theorem keep_slots {l l' : List Slt} (h : keepS l l') {k : Nat} {s : Slt} (hs : l'[k]? = some s) : ∃ y, l[k]? = some y ∧ s.r = y.r ∧ s.oc = y.oc := by
 have := h.2 k
 rw [hs] at this
 cases hy : l[k]? with
 | none => rw [hy] at this; cases this
 | some y =>
  rw [hy] at this
  simp at this
  exact ⟨y, rfl, this.1, this.2⟩
section
variable {w : World} {g n p : Nat} {gs : List Nat} {M : MemP}
theorem mem_image_at (hU : ObjsAt w (g :: gs) (memS 0 n p M)) : ∃ g2, CellsAt w Gs.nil g 1 [.slice (some ⟨g2, 0, none⟩) n (n + M.ti.length)] ∧ CellsAt w Gs.nil g2 0 (M.image.map byteV) := by
 obtain ⟨g0, g1, g2, g3, g4, g5, hg⟩ := six_blocks hU
 injection hg with hg0 hgs
 subst hgs; subst hg0
 obtain ⟨b, us, e1, e2, e3⟩ := hU.own 0 _ rfl
 obtain rfl : g = b := by injection e1
 obtain ⟨u1, l1, rfl, d1, u2, l2, rfl, d2, d3⟩ := e3
 obtain ⟨b2, f1, rfl⟩ := d2
 obtain ⟨c, vs, h1, h2, h3⟩ := hU.own 2 _ rfl
 obtain rfl : b2 = c := by rw [show (envOf [g, g1, g2, g3, g4, g5]).blk 2 = some b2 from f1] at h1; injection h1
 obtain rfl := denL_vals_inv h3
 exact ⟨b2, cells_one (heap_lt e2) (by simp) (by simp [World.cell?, e2]), ⟨heap_lt h2, by simp, fun j u hj => by
  have hi : j < (M.image.map byteV).length := by
   rcases Nat.lt_or_ge j (M.image.map byteV).length with h1 | h1
   ·exact h1
   ·rw [List.getElem?_eq_none h1] at hj; cases hj
  simp [World.cell?, h2]
  show (M.image.map byteV ++ M.ti)[j]? = some u
  rw [List.getElem?_append_left hi]; exact hj⟩⟩
end
end Go.Proofs.YtnhdcclpjildjaaGreat
namespace Go.Proofs.YtnhdcclpjildjaaGreat
open Go.RowKit

section
variable {w : World} {g n p : Nat} {gs : List Nat} {M : MemP}
set_option maxRecDepth 100000 in
set_option maxHeartbeats 2000000 in
theorem memory_walk (hU : ObjsAt w (g :: gs) (memS 0 n p M)) (hM : M.ok n p) (hp : 2 ≤ p ∧ p ≤ 1000) :
  Calls Tryz.prog 39 #[ptrV g] w fun e w' => ∃ m sb l, e = .returned (ptrV m) ∧ MadeTo w w' m sb p M p p l := by
 have hnp := hM.np
 refine calls_satq [ptrV g] Tryz.func39 Tryz.ntmps39 rfl (by simp) ?_
 refine satq_seqN ?_
 conv => whnf
 refine satq_in (satq_jump 2 rfl rfl rfl ?_)
 conv => whnf
 refine call_memP rfl (by kernel_rfl) hU (fun w1 h1 => mem_pages M n p w1 g gs h1) ?_
 conv => whnf
 refine jmp_con (fun u w1 => ∃ m sb l, u = ptrV m ∧ MadeTo w w1 m sb p M 0 0 l) rfl (by kernel_rfl) (fun r w1 hR => ?_) (fun u w1 hj => ?_)
 ·have hB := hR.toBelow
  refine (newM_walk p w1 ⟨hp.1, by omega⟩).mono fun e w2 ⟨m, sb, z, he, h1, h2⟩ => ⟨_, he, m, sb, newSlots p z, rfl, ?_⟩
  have hlen : (newSlots p z).length = p := by unfold newSlots; simp
  have himg : imgTo M 0 = fun _ => zpage := by funext k; unfold imgTo; rw [if_neg (by omega)]
  refine ⟨⟨h1.hm, h1.hs, Nat.le_trans hB.size h1.Bm, Nat.le_trans hB.size h1.Bs, fun s hs => ?_, fun k s hk => ?_, h1.sep⟩, hlen, fun k s hk => ?_, hB.trans (h2.mono hB.size)⟩
  ·obtain ⟨a, b⟩ := h1.dp s hs; exact ⟨a, Nat.le_trans hB.size b⟩
  ·obtain ⟨a, b⟩ := h1.cp k s hk; rw [himg]; exact ⟨a, Nat.le_trans hB.size b⟩
  ·have := List.eq_of_mem_replicate (List.mem_of_getElem? hk)
   subst this
   exact ⟨fun h => by omega, fun _ => rfl, Int.le_refl 0, show (0 : Int) < 8 by decide⟩
 obtain ⟨m, sb, l0, rfl, h0⟩ := hj
 conv => whnf
 refine atq_on ?_
 refine satq_seqN ?_
 conv => whnf
 refine q_nil_v _ rfl rfl rfl rfl ?_
 conv => whnf
 (repeat ((first | apply k1 | apply k2 | apply k3 | apply k4 | refine k5 (by decide) ?_ | refine k6 (by decide) ?_); conv => whnf))
 conv => whnf
 refine satq_in (satq_seqN ?_)
 conv => whnf
 refine satq_block ?_
 refine satq_loopX (fun j : { j : Nat // j ≤ p } => [(0, one (ptrV g)), (3, one (ptrV m)), (4, one (intV (j.1 : Int)))]) (fun j w' => ∃ l, MadeTo w w' m sb p M j.1 j.1 l) (fun j => p - j.1) ⟨0, by omega⟩ (aI rfl (aI rfl (aI rfl trivial))) (fun r w' hR => ⟨l0, h0.later hR.toBelow⟩) (fun j w' hJ => ?_)
 obtain ⟨j, hj⟩ := j
 obtain ⟨l, hl⟩ := hJ
 dsimp only at hl ⊢
 have hU1 := objs_later (memS_ob n p M) hU hl.below
 refine satq_seqN ?_
 conv => whnf
 refine call_memP rfl (by kernel_rfl) hU1 (fun w1 h1 => mem_pages M n p w1 g gs h1) ?_
 conv => whnf
 refine ⟨fun hc => ?_, fun hc => ?_⟩
 ·have hlt : j < p := by simp at hc; omega
  have h2l : 2 ≤ l.length := by rw [hl.len]; exact hp.1
  conv => whnf
  refine satq_in (satq_block ?_)
  refine satq_in (satq_jump 7 rfl rfl rfl ?_)
  conv => whnf
  refine ⟨((256 * j : Nat) : Int), by rw [show (256 : Int) * (j : Int) = ((256 * j : Nat) : Int) by omega]; exact wr64 (by omega), ?_⟩
  conv => whnf
  refine ⟨((256 * j : Nat) : Int), by rw [wr32]; omega, ?_⟩
  conv => whnf
  refine call_memP rfl (by kernel_rfl) hU1 (fun w1 h1 => mem_page M n p j w1 g gs h1 hM hlt) ?_
  conv => whnf
  refine jmp_con (fun u w2 => u = .tuple #[] ∧ ∃ l', MadeTo w w2 m sb p M j j l') rfl (by kernel_rfl) (fun r w1 hR => ?_) (fun u w2 hq => ?_)
  ·have h1 := hl.later hR.toBelow
   refine (pokeM_walk h1.mem h2l (by unfold word; omega) (M.page j) (page_byte hM j) (by rw [page_length hM hlt]; omega)).mono fun e w2 ⟨he, l', k1, k2, k3, _⟩ => ⟨_, he, rfl, l', k1, k2.1.trans h1.len, fun k s hs => ?_, h1.below.trans k3⟩
   obtain ⟨y, hy, e1, e2⟩ := keep_slots k2 hs
   rw [e1, e2]; exact h1.slots k y hy
  obtain ⟨rfl, l2, hl2⟩ := hq
  have hU2 := objs_later (memS_ob n p M) hU hl2.below
  obtain ⟨g2, hg2, hgi⟩ := mem_image_at hU2
  have h2l2 : 2 ≤ l2.length := by rw [hl2.len]; exact hp.1
  conv => whnf
  refine atq_on ?_
  refine satq_in (satq_jump 13 rfl rfl rfl ?_)
  conv => whnf
  refine ⟨_, hg2, ?_⟩
  conv => whnf
  refine ⟨((256 * j : Nat) : Int), by rw [show (256 : Int) * (j : Int) = ((256 * j : Nat) : Int) by omega]; exact wr64 (by omega), ?_⟩
  conv => whnf
  refine ⟨((256 * j : Nat) : Int), by rw [show (256 : Int) * (j : Int) = ((256 * j : Nat) : Int) by omega]; exact wr64 (by omega), ?_⟩
  conv => whnf
  refine ⟨((256 * j + 256 : Nat) : Int), by rw [show ((256 * j : Nat) : Int) + 256 = ((256 * j + 256 : Nat) : Int) by omega]; exact wr64 (by omega), ?_⟩
  conv => whnf
  refine op_slice_v (256 * j) (256 * j + 256) 1 rfl rfl rfl rfl rfl (.inr ⟨_, _, rfl, rfl⟩) (.inr ⟨_, _, rfl, rfl⟩) (by omega) (by omega) rfl ?_
  rw [if_neg (by omega), Option.map_some, addr_add]
  have hli := img_length hM hlt
  have hsub : CellsAt w2 Gs.nil g2 (0 + 256 * j * 1) ((M.img j).map byteV) := by
   refine ⟨hgi.1, hgi.2.1, fun i u hi => ?_⟩
   rw [List.getElem?_map] at hi
   unfold MemP.img at hi
   rw [List.getElem?_take] at hi
   split at hi
   ·rw [List.getElem?_drop] at hi
    have := hgi.2.2 (256 * j + i) u (by rw [List.getElem?_map]; exact hi)
    rw [show 0 + 256 * j * 1 + i = 0 + (256 * j + i) by omega]; exact this
   ·cases hi
  conv => whnf
  refine q_conv_plain g2 (0 + 256 * j * 1) (256 * j + 256 - 256 * j) (n + M.ti.length - 256 * j) (M.img j) rfl rfl rfl rfl rfl hsub (by rw [hli]; omega) ?_
  conv => whnf
  refine jmp_con (fun u w3 => u = .tuple #[] ∧ ∃ l', MadeTo w w3 m sb p M (j + 1) j l') rfl (by kernel_rfl) (fun r w1 hR => ?_) (fun u w3 hq => ?_)
  ·have h1 := hl2.later hR.toBelow
   obtain ⟨s, hs⟩ : ∃ s, l2[j]? = some s := ⟨_, List.getElem?_eq_getElem (by rw [hl2.len]; exact hlt)⟩
   refine (setCodeM_walk h1.mem j hs ((h1.slots j s hs).2.1 (Nat.le_refl _)) h2l2 (M.img j) (img_byte hM j) hli).mono fun e w3 ⟨he, c', k1, k3⟩ => ⟨_, he, rfl, setC l2 j c', ?_, (setC_length _ _ _).trans h1.len, fun k s' hs' => ?_, h1.below.trans k3⟩
   ·rw [← imgTo_succ]; exact k1
   ·rw [setC_get] at hs'
    split at hs'
    ·rename_i e'
     subst e'
     rw [hs] at hs'
     simp at hs'; subst hs'
     have := h1.slots j s hs
     exact ⟨fun h => by omega, fun h => by omega, this.2.2⟩
    ·have := h1.slots k s' hs'
     exact ⟨this.1, fun h => this.2.1 (by omega), this.2.2⟩
  obtain ⟨rfl, l3, hl3⟩ := hq
  have hU3 := objs_later (memS_ob n p M) hU hl3.below
  have h2l3 : 2 ≤ l3.length := by rw [hl3.len]; exact hp.1
  conv => whnf
  refine atq_on ?_
  refine satq_jump 5 rfl rfl rfl ?_
  conv => whnf
  refine call_memP rfl (by kernel_rfl) hU3 (fun w1 h1 => mem_rightsOf M n p j w1 g gs h1 hM hlt) ?_
  conv => whnf
  refine jmp_con (fun u w4 => u = .tuple #[] ∧ ∃ l', MadeTo w w4 m sb p M (j + 1) (j + 1) l') rfl (by kernel_rfl) (fun r w1 hR => ?_) (fun u w4 hq => ?_)
  ·have h1 := hl3.later hR.toBelow
   have hr := rightsAt_range hM j
   refine (protectM_walk h1.mem j (by rw [hl3.len]; exact hlt) h2l3 (M.rightsAt j) hr).mono fun e w4 ⟨he, k1, k3⟩ => ⟨_, he, rfl, setR l3 j (M.rightsAt j), k1, by unfold setR; rw [List.length_modify]; exact h1.len, fun k s' hs' => ?_, h1.below.trans k3⟩
   rw [setR_get] at hs'
   split at hs'
   ·rename_i e'
    subst e'
    cases hy : l3[j]? with
    | none => rw [hy] at hs'; cases hs'
    | some y =>
     rw [hy] at hs'
     simp at hs'; subst hs'
     have := h1.slots j y hy
     exact ⟨fun _ => rfl, fun h => by omega, hr⟩
   ·have := h1.slots k s' hs'
    exact ⟨fun h => this.1 (by omega), this.2.1, this.2.2⟩
  obtain ⟨rfl, l4, hl4⟩ := hq
  conv => whnf
  refine atq_then ?_
  refine satq_vcN ?_
  conv => whnf
  refine ⟨((j + 1 : Nat) : Int), by rw [show (j : Int) + 1 = ((j + 1 : Nat) : Int) by omega]; exact wr64 (by omega), ?_⟩
  conv => whnf
  exact atq_nextW ⟨j + 1, by omega⟩ (aI rfl (aI rfl (aI rfl trivial))) (fun r w5 hR => ⟨l4, hl4.later hR.toBelow⟩) (by show p - (j + 1) < p - j; omega)
 ·have hje : j = p := by simp at hc; omega
  subst hje
  conv => whnf
  refine atq_outW (atq_exit (atq_on ?_))
  refine satq_vcN ?_
  conv => whnf
  refine atq_ret ?_
  conv => whnf
  exact fin_val rfl fun w2 hB => ⟨m, sb, l, rfl, hl.later hB⟩
end
end Go.Proofs.YtnhdcclpjildjaaGreat
namespace Go.Proofs.YtnhdcclpjildjaaGreat
open Go.RowKit

def jmpGK (P : Program) (w0 : World) (G : Gs) (o : Oper) (f : Fr) (S : List Ow) (K : AV → World → Gs → Fr → List Ow → Prop) : Prop :=
 match o.op with
 | .call ⟨.value fn, args, _⟩ => (match f.ev fn with
  | .p (.c (.clo (.func fid) [])) => evL f args.toList fun vs => JmpG P w0 G fid vs f S K
  | _ => False)
 | _ => False
section
variable {P : Program} {w0 : World} {G : Gs} {N : Nd} {c d : Code} {f : Fr} {S : List Ow} {Q : Exit → Act → World → Prop}
theorem jmpGK_sound {o : Oper} {K : AV → World → Gs → Fr → List Ow → Prop} (h : jmpGK P w0 G o f S K) {r : Env} {w : World} (hR : Rel w0 G S r w) {a : Act} (hf : FDen r f a) {next : Act → World → Prop} (hK : ∀ u x w2 G2 f2 S2 r2 w', Rel w2 G2 S2 r2 w' → FDen r2 f2 a → x.den r2 u → K x w2 G2 f2 S2 → next (a.put o.dst u) w') : Oper.se P o a w next := by
 unfold jmpGK at h
 split at h
 ·rename_i fn args tys hop
  have hfn := hf.ev fn
  split at h
  ·rename_i fid he
   rw [he] at hfn
   obtain ⟨us, hu, hcap⟩ := den_clo hfn
   simp only [denL] at hcap
   subst hcap
   rw [evL_iff] at h
   obtain ⟨hok, hc⟩ := h
   have hrun : (execOp a.eval o).run P w = .ok (.enter fid (args.map a.eval)) w := by
    simp [execOp, hop, resolve, Deferred.ofValue, hu, invoke, run_callFunc hok]
   refine wp_of_enter hrun ?_
   have := hc r w (args.toList.map a.eval) hR (avdenL_ev hf _)
   rw [show (args.toList.map a.eval).toArray = args.map a.eval by apply Array.ext'; simp] at this
   exact Calls.mono this fun e w' ⟨u, x, w2, G2, f2, S2, r2, he, h1, h2, h3, hk⟩ => ⟨u, he, hK u x w2 G2 f2 S2 r2 w' h1 (h2 a hf) h3 hk⟩
  ·exact h.elim
 ·exact h.elim
theorem satq_jumpG {id : Nat} {ops : Array Oper} (k : Nat) {o : Oper} (hk : ops.toList.drop k = o :: ops.toList.drop (k + 1)) (hg : o.guard = none) (hdst : dstOk N.n o.dst = true)
  (h : guardedN P w0 G N ops (ops.toList.take k) f S fun f1 S1 => jmpGK P w0 G o f1 S1 fun x w2 G2 f2 S2 => guardedN P w2 G2 N ops (ops.toList.drop (k + 1)) (f2.put o.dst x) S2 fun f3 S3 => AtQ w2 G2 N .normal f3 S3 Q) : SatQ P w0 G N (.region id ops false) f S Q :=
 ⟨fun a w hgd => wpIn_region_list (wpListIn_split none 10 k (guardedN_sound (Q := fun a w => ∃ f1 S1, (jmpGK P w0 G o f1 S1 fun x w2 G2 f2 S2 => guardedN P w2 G2 N ops (ops.toList.drop (k + 1)) (f2.put o.dst x) S2 fun f3 S3 => AtQ w2 G2 N .normal f3 S3 Q) ∧ Good w0 G N f1 S1 a w) _ f S _ h (fun f' S' a' w' hk' hg' => ⟨f', S', hk', hg'⟩) a w hgd) (by
  rintro a w ⟨f1, S1, hj, r, hR, hf, hN, hd⟩
  rw [hk]
  unfold wpListIn
  rw [if_pos (wanted_none hg _)]
  refine se_wpIn none 10 (next := fun a w => wpListIn (fenceR none) 10 P ops Q (ops.toList.drop (k + 1)) a w) (jmpGK_sound hj hR hf fun u x w2 G2 f2 S2 r2 w' h1 h2 h3 hq => ?_) (fun a w h => h)
  exact seL_wpIn none 10 (guardedN_sound _ _ _ _ hq (fun f' S' a' w' hk' hg' => hk'.out a' w' hg') _ _ ⟨r2, h1, h2.put h3 (by rw [hN]; exact hdst), (put_size a _ _).trans hN, (put_defers a _ _).trans hd⟩)))⟩
end
theorem rel_far {w0 w : World} {fs : List Nat} {S : List Ow} {r : Env} (hR : Rel w0 ⟨fs, []⟩ S r w) {i b : Nat} (hi : fs.length ≤ i) (hb : r.blk i = some b) : w0.heap.size ≤ b := by
 rcases Nat.lt_or_ge b w0.heap.size with h1 | h1
 ·rcases (hR.new i b hb).2 h1 with h2 | h2
  ·obtain ⟨j, hj, hjb⟩ := List.mem_iff_getElem.1 h2
   have h3 := hR.first j b (by rw [← hjb]; exact List.getElem?_eq_getElem hj)
   have := hR.inj i j b hb h3
   have hj : j < fs.length := hj
   omega
  ·cases h2
 ·exact h1
theorem row_far {w0 w : World} {fs : List Nat} {S : List Ow} {r : Env} (hR : Rel w0 ⟨fs, []⟩ S r w) {i n size : Nat} {e : TypeId} {xs : List Value} {u : Value} (hi : fs.length ≤ i) (hS : S[i]? = some (.row e size n xs)) (hu : r.val i = some u) : w.ownsRow w0.heap.size e size u n xs ∧ u.ownBlock = r.blk i := by
 obtain ⟨v, f1, f2, f3⟩ := hR.own i _ hS
 rw [hu] at f1; injection f1 with f1; subst f1
 refine ⟨⟨f3.1, ?_⟩, f2⟩
 rcases f3.2 with h1 | ⟨b', cap, cur, h1, _, h2⟩
 ·exact .inl h1
 ·exact .inr ⟨b', cap, cur, h1, rel_far hR hi (by rw [← f2, h1]; rfl), h2⟩
theorem rows3_far {w0 w : World} {fs : List Nat} {S : List Ow} {r : Env} (hR : Rel w0 ⟨fs, []⟩ S r w) (i1 i2 i3 : Nat) (b : Blk) (h12 : i1 ≠ i2) (h13 : i1 ≠ i3) (h23 : i2 ≠ i3) (hf : fs.length ≤ i1 ∧ fs.length ≤ i2 ∧ fs.length ≤ i3)
  (h1 : S[i1]? = some (.row 35 1 b.at_.length (b.at_.map (.int .u32)))) (h2 : S[i2]? = some (.row 3 1 b.pages.length (b.pages.map (.int .i64)))) (h3 : S[i3]? = some (.row 45 5 b.ops.length (b.ops.flatMap opC)))
  {us : List Value} (hd : denL r [.row i1, .row i2, .row i3] us) : ∃ v1 v2 v3, us = [v1, v2, v3] ∧ Rows3 w0.heap.size w v1 v2 v3 b := by
 simp only [denL, CV.den] at hd
 obtain ⟨u1, l1, rfl, d1, u2, l2, rfl, d2, u3, l3, rfl, d3, rfl⟩ := hd
 obtain ⟨o1, b1⟩ := row_far hR hf.1 h1 d1
 obtain ⟨o2, b2⟩ := row_far hR hf.2.1 h2 d2
 obtain ⟨o3, b3⟩ := row_far hR hf.2.2 h3 d3
 refine ⟨u1, u2, u3, rfl, o1, o2, o3, fun x hx hy => ?_, fun x hx hy => ?_, fun x hx hy => ?_⟩
 ·rw [b1] at hx; rw [b2] at hy; exact h12 (hR.inj _ _ _ hx hy)
 ·rw [b1] at hx; rw [b3] at hy; exact h13 (hR.inj _ _ _ hx hy)
 ·rw [b2] at hx; rw [b3] at hy; exact h23 (hR.inj _ _ _ hx hy)
theorem fin_rows3T {w0 : World} {fs : List Nat} {S : List Ow} {y : Value} {R : Ending → World → Prop} (i1 i2 i3 : Nat) (b : Blk) (h12 : i1 ≠ i2) (h13 : i1 ≠ i3) (h23 : i2 ≠ i3) (hf : fs.length ≤ i1 ∧ fs.length ≤ i2 ∧ fs.length ≤ i3)
  (h1 : S[i1]? = some (.row 35 1 b.at_.length (b.at_.map (.int .u32)))) (h2 : S[i2]? = some (.row 3 1 b.pages.length (b.pages.map (.int .i64)))) (h3 : S[i3]? = some (.row 45 5 b.ops.length (b.ops.flatMap opC)))
  (h : ∀ r w v1 v2 v3, Rel w0 ⟨fs, []⟩ S r w → Rows3 w0.heap.size w v1 v2 v3 b → R (.returned (.tuple #[.agg #[v1, v2, v3], y])) w) : Fin w0 ⟨fs, []⟩ S (.tup [.agg [.row i1, .row i2, .row i3], .c (.v y)]) R := by
 refine ⟨fun r w u hR hd => ?_⟩
 obtain ⟨us, rfl, l1⟩ := hd
 obtain ⟨u1, l2, rfl, d1, l2'⟩ := l1
 obtain ⟨u2, l3, rfl, d2, l3'⟩ := l2'
 obtain rfl : l3 = [] := l3'
 obtain ⟨us, rfl, d1⟩ := d1
 obtain ⟨v1, v2, v3, rfl, k⟩ := rows3_far hR i1 i2 i3 b h12 h13 h23 hf h1 h2 h3 d1
 have d2 : u2 = y := by simpa only [Pc.den, CV.den] using d2
 subst d2
 exact h r w v1 v2 v3 hR k
theorem op_iface {P : Program} {w0 : World} {G : Gs} {N : Nd} {S : List Ow} {f : Fr} {o : Oper} {K : Fr → List Ow → Prop} {t : TypeId} {x : Operand} {v : Value} (hop : o.op = .makeInterface t x) (hx : f.ev x = one v) (hc : P.concrete t = true) (hdst : dstOk N.n o.dst = true) (hk : K (f.put o.dst (one (.iface t v))) S) : OpS P w0 G N o f S K := by
 refine opS_val _ hdst (fun r act w hR hf => ⟨_, den_one _ _, ?_⟩) hk
 have h1 := hf.ev x
 rw [hx] at h1
 simp [execOp, hop, den_v h1, run_makeInterface w t v hc]
theorem call_blkT {P : Program} {w0 : World} {G : Gs} {fid : FuncId} {args : List AV} {S : List Ow} {K : AV → List Ow → Prop} (b : Blk) (y : Value) (hok : fnOk P fid = true)
  (h : ∀ r w us, Rel w0 G S r w → avdenL r args us → Calls P fid us.toArray w fun en w' => ∃ v1 v2 v3, en = .returned (.tuple #[.agg #[v1, v2, v3], y]) ∧ Rows3 w.heap.size w' v1 v2 v3 b ∧ Below w.heap.size w w')
  (hK : K (.tup [.agg [.row S.length, .row (S.length + 1), .row (S.length + 2)], .c (.v y)]) (S ++ blkRows b)) : CallS P w0 G fid args S K := by
 refine ⟨hok, fun r w us hR hd => ?_⟩
 refine (h r w us hR hd).mono fun en w' ⟨v1, v2, v3, he, h3, hB⟩ => ?_
 obtain ⟨k1, k2, k3, k4, k5⟩ := hR.rows3 hB h3
 refine ⟨.tup [.agg [.row S.length, .row (S.length + 1), .row (S.length + 2)], .c (.v y)], _, _, _, he, ⟨[.agg #[v1, v2, v3], y], rfl, .agg #[v1, v2, v3], _, rfl, ⟨[v1, v2, v3], rfl, ?_⟩, y, [], rfl, by simp only [Pc.den, CV.den], rfl⟩, k1, k2, hK⟩
 simp only [denL, CV.den]
 exact ⟨_, _, rfl, k3, _, _, rfl, k4, _, _, rfl, k5, rfl⟩
end Go.Proofs.YtnhdcclpjildjaaGreat
namespace Go.Proofs.YtnhdcclpjildjaaGreat
open Go.RowKit

theorem fetch_is {w w' : World} {m sb n p : Nat} {M : MemP} {l : List Slt} (hM : M.ok n p) (h : MadeTo w w' m sb p M p p l) {a : Int} (ha : 0 ≤ a) : fetchL l (imgTo M p) a = M.fet a := by
 have hnp := hM.np
 obtain ⟨k, hk⟩ : ∃ k : Nat, a = k := ⟨a.toNat, by omega⟩
 subst hk
 have e1 : ((k : Int) / 256).toNat = k / 256 := by omega
 have e2 : ((k : Int) % 256).toNat = k % 256 := by omega
 unfold fetchL MemP.fet MemP.right
 rw [e1, e2, hM.ld]
 cases hs : l[k / 256]? with
 | none =>
  have : p ≤ k / 256 := by
   rw [← h.len]
   rcases Nat.lt_or_ge (k / 256) l.length with h1 | h1
   ·rw [List.getElem?_eq_getElem h1] at hs; cases hs
   ·exact h1
  rw [if_neg]
  have h1 : ¬ (k : Int) < (n : Int) := by omega
  simp [h1]
 | some s =>
  have hlt : k / 256 < p := by
   rw [← h.len]
   rcases Nat.lt_or_ge (k / 256) l.length with h1 | h1
   ·exact h1
   ·rw [List.getElem?_eq_none h1] at hs; cases hs
  have hr := (h.slots _ s hs).1 hlt
  dsimp only
  have h1 : (k : Int) < (n : Int) := by omega
  unfold MemP.rightsAt at hr
  rw [hr]
  have himg : ((imgTo M p (k / 256))[k % 256]?).getD 0 = M.code k := by
   unfold imgTo MemP.img MemP.code
   rw [if_pos hlt, List.getElem?_take, if_pos (by omega), List.getElem?_drop]
   rw [show 256 * (k / 256) + k % 256 = k by omega]
   simp
  rw [himg]
  by_cases h2 : ((M.rights[k / 256]?).getD 0) / 4 % 2 = 1
  ·rw [if_pos h2, if_pos (by simp [h1, h2])]
  ·rw [if_neg h2, if_neg (by simp [h2])]
section
variable {w : World} {g n p : Nat} {gs : List Nat} {M : MemP}
theorem call_validR {w0 : World} {G : Gs} {S : List Ow} {K : AV → List Ow → Prop} (i1 i2 i3 : Nat) (b : Blk) (hb : b.ok) (hv : validB b = true) (h1 : S[i1]? = some (.row 35 1 b.at_.length (b.at_.map (.int .u32)))) (h2 : S[i2]? = some (.row 3 1 b.pages.length (b.pages.map (.int .i64)))) (h3 : S[i3]? = some (.row 45 5 b.ops.length (b.ops.flatMap opC))) (hK : K (one (.bool true)) S) : CallS Tryz.prog w0 G 41 [.p (.agg [.row i1, .row i2, .row i3])] S K := by
 refine callS_val (.bool true) (by kernel_rfl) (fun r w us hR hd => ?_) hK
 obtain ⟨u, l, rfl, d1, d2⟩ := hd
 obtain rfl : l = [] := d2
 obtain ⟨us, rfl, hl⟩ := den_agg d1
 simp only [denL, CV.den] at hl
 obtain ⟨u1, l1, rfl, k1, u2, l2, rfl, k2, u3, l3, rfl, k3, rfl⟩ := hl
 clear d1
 obtain ⟨A1, c1, rfl, s1, _⟩ := hR.rowAt h1 k1
 obtain ⟨A2, c2, rfl, s2, _⟩ := hR.rowAt h2 k2
 obtain ⟨A3, c3, rfl, s3, _⟩ := hR.rowAt h3 k3
 have := valid_ref A1 A2 A3 c1 c2 c3 b w hb s2 s3
 rw [valid_same b, hv] at this
 exact this
set_option maxRecDepth 100000 in
set_option maxHeartbeats 2000000 in
theorem lifted_walk (hU : ObjsAt w (g :: gs) (memS 0 n p M)) (hM : M.ok n p) (hp : 2 ≤ p ∧ p ≤ 1000) (pc most : Int) (hpc : word pc) :
  Calls Tryz.prog 15 #[.int .u32 pc, ptrV g, intV most] w fun e w' => ∃ v1 v2 v3, e = .returned (.tuple #[.agg #[v1, v2, v3], .bool true]) ∧ Rows3 w.heap.size w' v1 v2 v3 (liftM M pc most) ∧ Below w.heap.size w w' := by
 obtain ⟨hbok, hbv, _⟩ := liftM_ok hM pc most
 refine calls_satq [.int .u32 pc, ptrV g, intV most] Tryz.func15 Tryz.ntmps15 rfl (by simp) ?_
 refine satq_seqN ?_
 conv => whnf
 refine satq_in (satq_jumpG 1 rfl rfl rfl ?_)
 conv => whnf
 refine ⟨by kernel_rfl, fun r w1 us hR hd => ?_⟩
 obtain rfl := avals_den (xs := [ptrV g]) rfl hd
 have hB := hR.toBelow
 obtain ⟨q, vs, e1, e2, e3⟩ := hR.own 0 _ rfl
 obtain rfl := denL_vals_inv (us := [nilB, nilB, nilB]) e3
 have hqn : w.heap.size ≤ q := fresh_of hR e1
 refine (memory_walk (objs_later (memS_ob n p M) hU hB) hM hp).mono fun e w2 ⟨m, sb, l, he, hl⟩ => ?_
 have hq2 : w2.heap[q]? = some (.cells #[nilB, nilB, nilB] blT (0, 0)) := (hl.below.block q (heap_lt e2)).trans e2
 refine ⟨_, one (ptrV m), w2, ⟨[q], []⟩, [(0, one (.int .u32 pc)), (2, one (intV most)), (6, .p (.c (.ref 0 0)))], [.cells blT zerosC], envOne q, he, rel_own1 w2 hq2, fun a hf => frDen ⟨slot_same hf 0 rfl, slot_same hf 2 rfl, slot_moved hf 6 rfl (fun b hb => by rw [e1] at hb; injection hb with hb; subst hb; rfl), trivial⟩, den_one _ _, ?_⟩
 conv => whnf
 refine atq_on ?_
 refine satq_seqN ?_
 conv => whnf
 refine q_nil_v _ rfl rfl rfl rfl ?_
 conv => whnf
 (repeat ((first | apply k1 | apply k2 | apply k3 | apply k4 | refine k5 (by decide) ?_ | refine k6 (by decide) ?_); conv => whnf))
 conv => whnf
 have hfw : ∀ w', MemAt2 w' w1.heap.size m sb l (imgTo M p) → ∀ x, word x → Calls Tryz.prog 163 #[ptrV m, .int .u32 x] w' fun e w2 => e = .returned (fetV (M.fet x)) ∧ Below w'.heap.size w' w2 := fun w' hm' x hx => by
  have := fetchM_walk hm' x hx (fun s hs => by
   obtain ⟨k, hk, rfl⟩ := List.mem_iff_getElem.1 hs
   obtain ⟨_, _, h1, h2⟩ := hl.slots k _ (List.getElem?_eq_getElem hk)
   exact ⟨h1, h2⟩)
  rw [fetch_is hM hl hx.1] at this
  exact this
 refine satq_seqN ?_
 conv => whnf
 refine op_iface rfl rfl (by kernel_rfl) rfl ?_
 conv => whnf
 refine call_blk (fun b => b = liftM M pc most) (by kernel_rfl) (fun r w3 us hR hd => ?_) fun b hb => ?_
 ·obtain rfl := avals_den (xs := [.int .u32 pc, .iface 95 (ptrV m), intV most]) rfl hd
  have hm3 : MemAt2 w3 w1.heap.size m sb l (imgTo M p) := hl.mem.keep fun k hk hlt => hR.old k hlt fun hm => by
   rcases hm with hm | hm
   ·have : k = q := by simpa using hm
    have := heap_lt e2
    omega
   ·cases hm
  exact (lift_walk w3 M.fet (fun a b h => fet_byte hM a b h) m 95 (fun w => by kernel_rfl) (fun w' x hB' hx => hfw w' (hm3.later hB') x hx) pc most hpc).mono fun e w4 ⟨v1, v2, v3, he, h3, hB4⟩ => ⟨_, v1, v2, v3, rfl, he, h3, hB4⟩
 subst hb
 conv => whnf
 refine satq_mid (α := Unit) (fun _ => [(6, .p (.c (.ref 0 0))), (7, one (.bool true))]) (fun _ => [.cells blT [.row 1, .row 2, .row 3], .row 35 1 (liftM M pc most).at_.length ((liftM M pc most).at_.map (.int .u32)), .row 3 1 (liftM M pc most).pages.length ((liftM M pc most).pages.map (.int .i64)), .row 45 5 (liftM M pc most).ops.length ((liftM M pc most).ops.flatMap opC)]) ?_ fun _ => ?_
 ·refine satq_vcN ?_
  conv => whnf
  refine sat_anyG (.alt 0 (.alt 1 (.alt 2 (.alt 3 (.alt 4 .done .no) .no) .no) .no) (.alt 1 (.alt 0 (.alt 2 (.alt 3 (.alt 4 .done .no) .no) .no) (.alt 2 (.alt 0 (.alt 3 (.alt 4 .done .no) .no) .no) .no)) .no)) mixed (by kernel_rfl) (by kernel_rfl) ?_
  conv => whnf
  refine ⟨?_, ?_, trivial⟩
  ·conv => whnf
   refine ⟨?_, trivial⟩
   conv => whnf
   refine ⟨?_, trivial⟩
   conv => whnf
   refine call_validR 1 2 3 (liftM M pc most) hbok hbv rfl rfl rfl ?_
   conv => whnf
   refine ⟨?_, trivial⟩
   conv => whnf
   refine ⟨?_, trivial⟩
   conv => whnf
   exact atq_mid () (ent_drop (aI rfl (aI rfl trivial)) (aI sM (aI ((aI rfl (aI rfl (aI rfl rfl)))) (aI ((aI rfl (aI rfl (aI rfl rfl)))) (aI ((aI rfl (aI rfl (aI rfl rfl)))) trivial)))) rfl rfl)
  ·conv => whnf
   refine ⟨?_, ?_, trivial⟩
   ·conv => whnf
    refine ⟨?_, trivial⟩
    conv => whnf
    refine call_validR 1 2 3 (liftM M pc most) hbok hbv rfl rfl rfl ?_
    conv => whnf
    refine ⟨?_, trivial⟩
    conv => whnf
    refine ⟨?_, trivial⟩
    conv => whnf
    exact atq_mid () (ent_drop (aI rfl (aI rfl trivial)) (aI sM (aI ((aI rfl (aI rfl (aI rfl rfl)))) (aI ((aI rfl (aI rfl (aI rfl rfl)))) (aI ((aI rfl (aI rfl (aI rfl rfl)))) trivial)))) rfl rfl)
   ·conv => whnf
    refine call_validR 1 2 3 (liftM M pc most) hbok hbv rfl rfl rfl ?_
    conv => whnf
    refine ⟨?_, trivial⟩
    conv => whnf
    refine ⟨?_, trivial⟩
    conv => whnf
    refine ⟨?_, trivial⟩
    conv => whnf
    exact atq_mid () (ent_drop (aI rfl (aI rfl trivial)) (aI sM (aI ((aI rfl (aI rfl (aI rfl rfl)))) (aI ((aI rfl (aI rfl (aI rfl rfl)))) (aI ((aI rfl (aI rfl (aI rfl rfl)))) trivial)))) rfl rfl)
 refine satq_vcN ?_
 conv => whnf
 refine atq_ret ?_
 conv => whnf
 refine fin_rows3T (fs := [q]) 1 2 3 (liftM M pc most) (by decide) (by decide) (by decide) ⟨by simp, by simp, by simp⟩ rfl rfl rfl fun r w3 v1 v2 v3 hR h3 => ⟨v1, v2, v3, rfl, ?_, ?_⟩
 ·exact h3.base (Nat.le_trans hB.size hl.below.size)
 ·have hB2 := below_next hB hl.below
  exact ⟨hR.os.trans hB2.os, hR.tape.trans hB2.tape, hR.output.trans hB2.output, Nat.le_trans hB2.size hR.size, fun k hk => (hR.old k (Nat.lt_of_lt_of_le hk hB2.size) fun hm => by
   rcases hm with hm | hm
   ·have : k = q := by simpa using hm
    omega
   ·cases hm).trans (hB2.block k hk)⟩
end
end Go.Proofs.YtnhdcclpjildjaaGreat
namespace Go.Proofs.YtnhdcclpjildjaaGreat
open Go.RowKit

theorem cpuU_sh (k : Nat) (us : List Value) (n p : Nat) (M : MemP) : ShAll k (cpuU 0 us n p M) (cpuU k us n p M) := by
 refine ⟨⟨rfl, ?_⟩, ⟨rfl, ?_⟩, ⟨rfl, (sh_vals k _).symm⟩, ⟨rfl, (sh_vals k _).symm⟩, ⟨rfl, (sh_vals k _).symm⟩, ⟨rfl, (sh_vals k _).symm⟩, ⟨rfl, (sh_vals k _).symm⟩, trivial⟩
 ·rw [List.map_append, sh_vals]; rfl
 ·simp [CV.sh, Nat.add_assoc]
def stZ : List Value := [u32V 0, u32V 0, u32V 0, u32V 0, u32V 0, u32V 0, u32V 0, u32V 0, u32V 0, u32V 0, u32V 0, u32V 0, u32V 0, u32V 0, u32V 0, u32V 0, u32V 0, u32V 0, u32V 0, u32V 0, u32V 0, u32V 0, intV 0, intV 0]
set_option maxRecDepth 100000 in
theorem cpu_new (p : Nat) (w : World) (hp : 1 ≤ p ∧ p ≤ 64) :
  Calls Tryz.prog 34 #[intV (p : Int)] w fun e w' => ∃ g gs, e = .returned (ptrV g) ∧ NewObjs w w' (g :: gs) (cpuU 0 stZ (256 * p) p (MemP.zero p)) := by
 obtain ⟨n, hn⟩ : ∃ n, n = 256 * p := ⟨_, rfl⟩
 obtain ⟨M, hM⟩ : ∃ M, M = MemP.zero p := ⟨_, rfl⟩
 rw [← hn, ← hM]
 refine calls_satq [intV (p : Int)] Tryz.func34 Tryz.ntmps34 rfl (by simp) ?_
 refine satq_seqN ?_
 conv => whnf
 refine satq_seqN ?_
 conv => whnf
 refine call_newObjs (memS 0 n p M) (memS 0 n p M) rfl (by kernel_rfl) (memS_sh 0 n p M) (memS_ob n p M) (fun r w hR => by rw [hn, hM]; exact new_mem p w hp) ?_
 conv => whnf
 refine satq_as (f' := [(2, .p (.c (.ref 0 0)))]) (S' := cpuU 0 stZ n p M) (ent_ren [6, 0, 1, 2, 3, 4, 5] (aI rfl trivial) (aI ((Exists.intro _ (aI rfl sM))) (aI ((Exists.intro _ (aI rfl sM))) (aI ((Exists.intro _ (aI rfl (aI rfl (Or.inl (renL_vals _ _).symm))))) (aI ((Exists.intro _ (aI rfl (aI rfl (Or.inl (renL_vals _ _).symm))))) (aI ((Exists.intro _ (aI rfl (aI rfl (Or.inl (renL_vals _ _).symm))))) (aI ((Exists.intro _ (aI rfl (aI rfl (Or.inl (renL_vals _ _).symm))))) (aI ((Exists.intro _ (aI rfl (aI rfl (Or.inl (renL_vals _ _).symm))))) trivial))))))) rfl (by show sbnd 7 (cpuU 0 stZ n p M) = true; simp only [sbnd, Ow.bnd, bndL_vals, bndL, CV.bnd]; rfl) rfl rfl rfl) ?_
 refine satq_vcN ?_
 conv => whnf
 refine atq_ret ?_
 conv => whnf
 exact fin_newObjs 0 (cpuU 0 stZ n p M) (cpuU 0 stZ n p M) (by simp) (fun i _ => by rw [Nat.zero_add]) (cpuU_sh 0 stZ n p M) (cpuU_ob stZ n p M) fun w' g gs h => ⟨g, gs, rfl, h⟩
end Go.Proofs.YtnhdcclpjildjaaGreat
