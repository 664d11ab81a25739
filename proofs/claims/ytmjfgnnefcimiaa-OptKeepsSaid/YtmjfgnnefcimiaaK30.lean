/- Walks: the law OptKeeps: the passes leave the block as it is, and give the same again. Fold, Copies, Dead and Opt leave the block that is handed to them as it is, and give the same result for a copy of it: for every input, without any condition. -/
import Derived.Test.YtmjfgnnefcimiaaK1
import Derived.Test.YtmjfgnnefcimiaaK10
import Derived.Test.YtmjfgnnefcimiaaK11
import Derived.Test.YtmjfgnnefcimiaaK12
import Derived.Test.YtmjfgnnefcimiaaK14
import Derived.Test.YtmjfgnnefcimiaaK15
import Derived.Test.YtmjfgnnefcimiaaK16
import Derived.Test.YtmjfgnnefcimiaaK17
import Derived.Test.YtmjfgnnefcimiaaK18
import Derived.Test.YtmjfgnnefcimiaaK19
import Derived.Test.YtmjfgnnefcimiaaK20
import Derived.Test.YtmjfgnnefcimiaaK21
import Derived.Test.YtmjfgnnefcimiaaK22
import Derived.Test.YtmjfgnnefcimiaaK23
import Derived.Test.YtmjfgnnefcimiaaK24
import Derived.Test.YtmjfgnnefcimiaaK25
import Derived.Test.YtmjfgnnefcimiaaK26
import Derived.Test.YtmjfgnnefcimiaaK27
import Derived.Test.YtmjfgnnefcimiaaK28
import Derived.Test.YtmjfgnnefcimiaaK29
import Derived.Test.YtmjfgnnefcimiaaK3
import Derived.Test.YtmjfgnnefcimiaaK4
import Derived.Test.YtmjfgnnefcimiaaK5
namespace Go.Proofs.Ytmjfgnnefcimiaa
open Go.RowKit
def kpR (s1 s2 : Value) (i : Nat) : Bool → AV
  | true => .p (.agg [.v s1, .v s2, .row i])
  | false => .p (.c .any)
def kpB (i : Nat) : Bool → AV
  | true => .p (.c (.ref i 0))
  | false => .p (.c .any)
def kpV (l : List BOp) : Bool → Ow
  | true => .view viewT l.length (l.flatMap opC)
  | false => .gone
def kpX : Bool → Ow
  | true => .cells 32 [.v (.slice none 0 0), .v (.slice none 0 0), .v (.slice none 0 0)]
  | false => .gone
def kpO (s1 s2 : Value) (i : Nat) : Bool → Ow
  | true => .cells 32 [.v s1, .v s2, .row i]
  | false => .cells 32 [.v (.slice none 0 0), .v (.slice none 0 0), .v (.slice none 0 0)]
/-- The slots. -/
def kpF (h : Bool) (g6 g7 : Nat) (s1 s2 s3 : Value) (q0 q1 q2 q3 a b e d : Bool) : Fr :=
  [(5, one (.bool h)), (6, one (.pointer (some ⟨g6, 0, none⟩))), (7, one (.pointer (some ⟨g7, 0, none⟩))), (20, .p (.agg [.v s1, .v s2, .v s3])), (22, .p (.agg [.v s1, .v s2, .v s3])), (24, .p (.agg [.v s1, .v s2, .v s3])), (26, .p (.agg [.v s1, .v s2, .v s3])), (21, kpR s1 s2 0 q0), (23, kpR s1 s2 1 q1), (25, kpR s1 s2 2 q2), (27, kpR s1 s2 3 q3), (8, kpB 4 a), (9, kpB 5 b), (10, kpB 6 e), (11, kpB 7 d)]
def kpT (g6 g7 : Nat) (s1 s2 s3 : Value) : KSt → Fr
  | .l0 => [(5, one (.bool true)), (6, one (.pointer (some ⟨g6, 0, none⟩))), (7, one (.pointer (some ⟨g7, 0, none⟩)))]
  | .l1 => [(5, one (.bool true)), (6, one (.pointer (some ⟨g6, 0, none⟩))), (7, one (.pointer (some ⟨g7, 0, none⟩))), (20, .p (.agg [.v s1, .v s2, .v s3]))]
  | .l2 => [(5, one (.bool true)), (6, one (.pointer (some ⟨g6, 0, none⟩))), (7, one (.pointer (some ⟨g7, 0, none⟩))), (20, .p (.agg [.v s1, .v s2, .v s3])), (22, .p (.agg [.v s1, .v s2, .v s3]))]
  | .l3 => [(5, one (.bool true)), (6, one (.pointer (some ⟨g6, 0, none⟩))), (7, one (.pointer (some ⟨g7, 0, none⟩))), (20, .p (.agg [.v s1, .v s2, .v s3])), (22, .p (.agg [.v s1, .v s2, .v s3])), (24, .p (.agg [.v s1, .v s2, .v s3]))]
  | .c k a b e d => kpF true g6 g7 s1 s2 s3 (k.ge 0) (k.ge 1) (k.ge 2) (k.ge 3) a b e d
  | _ => kpF true g6 g7 s1 s2 s3 true true true true true true true true
def kpU (s1 s2 : Value) (L1 L2 L3 L4 : List BOp) : KSt → List Ow
  | .c k a b e d => [kpV L1 (k.ge 0), kpV L2 (k.ge 1), kpV L3 (k.ge 2), kpV L4 (k.ge 3), kpX a, kpX b, kpX e, kpX d]
  | .s1 => [kpV L1 true, kpV L2 true, kpV L3 true, kpV L4 true, kpO s1 s2 0 true, kpX true, kpX true, kpX true]
  | .s2 => [kpV L1 true, kpV L2 true, kpV L3 true, kpV L4 true, kpO s1 s2 0 true, kpO s1 s2 1 true, kpX true, kpX true]
  | .s3 => [kpV L1 true, kpV L2 true, kpV L3 true, kpV L4 true, kpO s1 s2 0 true, kpO s1 s2 1 true, kpO s1 s2 2 true, kpX true]
  | .s4 => [kpV L1 true, kpV L2 true, kpV L3 true, kpV L4 true, kpO s1 s2 0 true, kpO s1 s2 1 true, kpO s1 s2 2 true, kpO s1 s2 3 true]
  | _ => [.gone, .gone, .gone, .gone, .gone, .gone, .gone, .gone]
section
variable {w0 : World} {S : List Ow} {K : AV → List Ow → Prop} {b : Blk} {A1 A2 A3 D1 D2 : Option Addr} {n1 n2 n3 c1 c2 c3 d1 d2 : Nat}
/-- Two blocks of the same words are the same, wherever they lie; the second one's operations are in a view. -/
theorem call_same_two (i : Nat) (l1 : b.at_.length ≤ 1000000) (l2 : b.pages.length ≤ 1000000) (l3 : b.ops.length ≤ 1000000) (hn1 : b.at_.length = n1) (hn2 : b.pages.length = n2) (hn3 : b.ops.length = n3)
    (h1 : SlAt w0 w0.heap.size A1 (b.at_.map (.int .u32))) (h2 : SlAt w0 w0.heap.size A2 (b.pages.map (.int .i64))) (h3 : OpsAt w0 w0.heap.size A3 b.ops)
    (k1 : SlAt w0 w0.heap.size D1 (b.at_.map (.int .u32))) (k2 : SlAt w0 w0.heap.size D2 (b.pages.map (.int .i64))) (hi : S[i]? = some (.view viewT n3 (b.ops.flatMap opC)))
    (hK : K (one (.bool true)) S) : CallS Try.prog w0 Gs.nil 23 [.p (.agg [.v (.slice A1 n1 c1), .v (.slice A2 n2 c2), .v (.slice A3 n3 c3)]), .p (.agg [.v (.slice D1 n1 d1), .v (.slice D2 n2 d2), .row i])] S K := by
  subst hn1; subst hn2; subst hn3
  refine call_blkV2 (x := .bool true) i hi (by kernel_rfl) (fun r w' A4 c4 hR h4 e1 e2 => ?_) hK
  refine (same_ref A1 A2 A3 D1 D2 A4 c1 c2 c3 d1 d2 c4 b b w' l1 l2 l3 (sl_later h1 hR.toBelow) (sl_later h2 hR.toBelow) (sl_later h3 hR.toBelow) (sl_later k1 hR.toBelow) (sl_later k2 hR.toBelow) h4).mono fun e w'' ⟨h, hB⟩ => ⟨?_, hB⟩
  rw [h, sameB_self]
end
set_option maxRecDepth 100000 in
set_option maxHeartbeats 16000000 in
theorem keeps_law {mu : Blk → Nat} (hmu : ∀ b, b.ok → (onceP b).ops ≠ b.ops → mu (onceP b) < mu b) (A : Option Addr) (n c : Nat) (xs : List Int) (q0 q1 q2 : Int) (w : World) (hs : SlAt w w.heap.size A (xs.map (.int .i64))) (hl : xs.length = n) (hnc : n ≤ c) :
    Calls Try.prog 13 #[.slice A n c, .agg #[.int .i64 q0, .int .i64 q1, .int .i64 q2]] w fun e w' => e = .returned (.bool true) ∧ Below w.heap.size w w' := by
  refine calls_satq [.slice A n c, .agg #[.int .i64 q0, .int .i64 q1, .int .i64 q2]] Try.func13 Try.ntmps13 rfl (by simp) ?_
  refine satq_seq ?_
  conv => whnf
  refine satq_seq ?_
  conv => whnf
  refine call_con rfl (by kernel_rfl) (fun r w' hR => sanity_law w') ?_
  conv => whnf
  refine satq_restart fun r w1 hR => ?_
  obtain ⟨g3, us3, b3, d3, k3⟩ := own_cellsAt hR 0 rfl
  obtain rfl := denL_vals_inv (us := [.int .i64 q0, .int .i64 q1, .int .i64 q2]) d3
  have hB0 := hR.toBelow
  refine ⟨slotFr [(0, .slice A n c), (3, .pointer (some ⟨g3, 0, none⟩)), (5, .bool true)], fun a hf => slots_den ⟨slot_val hf rfl, slot_ref hf 3 rfl b3, slot_val hf rfl, trivial⟩, ?_⟩
  have hs1 := sl_later hs hB0
  clear hR b3 d3
  refine satq_mid (α := { y : Blk // TurnOk y }) (fun y => [(5, one (.bool true)), (6, .p (.c (.ref 3 0)))]) (fun y => blkRows y.1 ++ [.cells 32 [.row 0, .row 1, .row 2]]) ?_ fun y => ?_
  · refine satq_vc ?_
    refine sat_any (.q 0 (.q 2 (.alt 1 (.alt 3 (.alt 4 (.alt 5 .done .no) .no) (.alt 4 (.alt 3 (.alt 5 .done .no) .no) .no)) (.alt 4 (.alt 1 (.alt 3 (.alt 5 .done .no) .no) .no) .no)))) mixed (by kernel_rfl) (by kernel_rfl) ?_
    conv => whnf
    refine ⟨_, k3, rfl, ?_⟩
    conv => whnf
    refine ⟨?_, ?_, trivial⟩
    · conv => whnf
      refine call_blk MadeOk (by kernel_rfl) (fun r w' us hR hd => ?_) fun b hb => ?_
      · obtain rfl := avals_den (xs := [.slice A n c]) rfl hd
        exact made_walk A n c xs w' (sl_later hs1 hR.toBelow) hl hnc
      conv => whnf
      refine ⟨?_, ?_, trivial⟩
      · conv => whnf
        refine call_turned 0 1 2 b q0 q1 q2 rfl rfl rfl hb fun y hy => ?_
        conv => whnf
        refine ⟨?_, trivial⟩
        conv => whnf
        refine ⟨?_, trivial⟩
        conv => whnf
        exact atq_mid ⟨y, hy⟩ (ent_ren [3, 4, 5, 6] (aI rfl (aI rfl trivial)) (aI ((Exists.intro _ (aI rfl (aI rfl (aI rfl (aI rfl rfl)))))) (aI ((Exists.intro _ (aI rfl (aI rfl (aI rfl (aI rfl rfl)))))) (aI ((Exists.intro _ (aI rfl (aI rfl (aI rfl (aI rfl rfl)))))) (aI ((Exists.intro _ (aI rfl (aI rfl (Or.inl rfl))))) trivial)))) rfl rfl rfl rfl rfl)
      · conv => whnf
        refine ⟨?_, trivial⟩
        conv => whnf
        refine call_turned 0 1 2 b q0 q1 q2 rfl rfl rfl hb fun y hy => ?_
        conv => whnf
        refine ⟨?_, trivial⟩
        conv => whnf
        exact atq_mid ⟨y, hy⟩ (ent_ren [4, 5, 6, 3] (aI rfl (aI rfl trivial)) (aI ((Exists.intro _ (aI rfl (aI rfl (aI rfl (aI rfl rfl)))))) (aI ((Exists.intro _ (aI rfl (aI rfl (aI rfl (aI rfl rfl)))))) (aI ((Exists.intro _ (aI rfl (aI rfl (aI rfl (aI rfl rfl)))))) (aI ((Exists.intro _ (aI rfl (aI rfl (Or.inl rfl))))) trivial)))) rfl rfl rfl rfl rfl)
    · conv => whnf
      refine ⟨?_, trivial⟩
      conv => whnf
      refine call_blk MadeOk (by kernel_rfl) (fun r w' us hR hd => ?_) fun b hb => ?_
      · obtain rfl := avals_den (xs := [.slice A n c]) rfl hd
        exact made_walk A n c xs w' (sl_later hs1 hR.toBelow) hl hnc
      conv => whnf
      refine ⟨?_, trivial⟩
      conv => whnf
      refine call_turned 1 2 3 b q0 q1 q2 rfl rfl rfl hb fun y hy => ?_
      conv => whnf
      refine ⟨?_, trivial⟩
      conv => whnf
      exact atq_mid ⟨y, hy⟩ (ent_ren [4, 5, 6, 0] (aI rfl (aI rfl trivial)) (aI ((Exists.intro _ (aI rfl (aI rfl (aI rfl (aI rfl rfl)))))) (aI ((Exists.intro _ (aI rfl (aI rfl (aI rfl (aI rfl rfl)))))) (aI ((Exists.intro _ (aI rfl (aI rfl (aI rfl (aI rfl rfl)))))) (aI ((Exists.intro _ (aI rfl (aI rfl (Or.inl rfl))))) trivial)))) rfl rfl rfl rfl rfl)
  obtain ⟨b, hb⟩ := y
  dsimp only
  refine satq_restart fun r w2 hR => ?_
  obtain ⟨g6, A1, c1, A2, c2, A3, c3, b6, k6, s1, s2, s3, m1, m2⟩ := own_blkRows hR 3 0 1 2 b rfl rfl rfl rfl
  have hB1 : Below w.heap.size w w2 := hB0.trans (hR.toBelow.mono hB0.size)
  refine ⟨slotFr [(5, .bool true), (6, .pointer (some ⟨g6, 0, none⟩))], fun a hf => slots_den ⟨slot_val hf rfl, slot_ref hf 6 rfl b6, trivial⟩, ?_⟩
  clear hR b6 k3 hs1 hs
  refine satq_seq ?_
  conv => whnf
  refine ⟨_, k6, rfl, ?_⟩
  conv => whnf
  refine call_blk (fun y => y = b) (by kernel_rfl) (fun r w' us hR hd => ?_) fun y hy => ?_
  · obtain rfl := avals_den (xs := [.agg #[.slice A1 b.at_.length c1, .slice A2 b.pages.length c2, .slice A3 b.ops.length c3]]) rfl hd
    exact (own_walk b A1 A2 A3 c1 c2 c3 w' hb.ok (sl_later s1 hR.toBelow) (sl_later s2 hR.toBelow) (sl_later s3 hR.toBelow)).mono fun e w'' ⟨v1, v2, v3, he, hr, hB⟩ => ⟨b, v1, v2, v3, rfl, he, hr, hB⟩
  subst hy
  conv => whnf
  refine satq_restart fun r w3 hR => ?_
  obtain ⟨g7, D1, d1, D2, d2, D3, d3, b7, k7, t1, t2, t3, m3, m4⟩ := own_blkRows hR 3 0 1 2 y rfl rfl rfl rfl
  have hB2 : Below w.heap.size w w3 := hB1.trans (hR.toBelow.mono hB1.size)
  have k6' := cells_later k6 hR.toBelow
  refine ⟨slotFr [(5, .bool true), (6, .pointer (some ⟨g6, 0, none⟩)), (7, .pointer (some ⟨g7, 0, none⟩))], fun a hf => slots_den ⟨slot_val hf rfl, slot_val hf rfl, slot_ref hf 7 rfl b7, trivial⟩, ?_⟩
  have u1 := sl_later s1 hR.toBelow
  have u2 := sl_later s2 hR.toBelow
  have u3 := sl_later s3 hR.toBelow
  clear hR b7 k6 s1 s2 s3
  have p1 := fold_pass
  have z1 : y.ops = [] → foldAll y = [] := fold_nil
  have y1 := foldAll_length y
  have p2 := copies_pass
  have z2 : y.ops = [] → copyAll y = [] := copy_nil
  have y2 := copyAll_length y
  have p3 := dead_pass
  have z3 : y.ops = [] → deadAll y = [] := dead_nil
  have y3 := deadAll_length y
  have p4 := opt_pass hmu
  have z4 : y.ops = [] → optAll mu y = [] := opt_none
  have y4 : (optAll mu y).length ≤ y.ops.length := by
    cases hv : validB y
    · unfold optAll; rw [hv]; exact Nat.le_refl _
    · exact (opt_ok hmu hb.ok hv).2
  have ylen := hb.ok.lops
  generalize foldAll = F1 at p1 z1 y1
  generalize copyAll = F2 at p2 z2 y2
  generalize deadAll = F3 at p3 z3 y3
  generalize optAll mu = F4 at p4 z4 y4
  refine satq_mid (α := Unit) (fun _ => kpT g6 g7 (.slice A1 y.at_.length c1) (.slice A2 y.pages.length c2) (.slice A3 y.ops.length c3) .s4) (fun _ => kpU (.slice A1 y.at_.length c1) (.slice A2 y.pages.length c2) (F1 y) (F2 y) (F3 y) (F4 y) .s4) ?_ fun _ => ?_
  · refine satq_vc ?_
    refine sat_k (kpT g6 g7 (.slice A1 y.at_.length c1) (.slice A2 y.pages.length c2) (.slice A3 y.ops.length c3)) (kpU (.slice A1 y.at_.length c1) (.slice A2 y.pages.length c2) (F1 y) (F2 y) (F3 y) (F4 y)) mixed (by kernel_rfl) rfl (fun x => ?_) (ent_gone 8) ?_ ?_ ?_ ?_ ?_ ?_ ?_ ?_ ?_ ?_ ?_ ?_ ?_ ?_ ?_ ?_ ?_
    · cases x with
      | c k a b e d => cases k <;> cases a <;> cases b <;> cases e <;> cases d <;> kernel_rfl
      | _ => kernel_rfl
    · conv => whnf
      refine ⟨_, k6', rfl, ?_⟩
      conv => whnf
      exact ent_same rfl (aI rfl (aI rfl (aI rfl (aI rfl trivial)))) (aI trivial (aI trivial (aI trivial (aI trivial (aI trivial (aI trivial (aI trivial (aI trivial trivial))))))))
    · conv => whnf
      refine ⟨_, k6', rfl, ?_⟩
      conv => whnf
      exact ent_same rfl (aI rfl (aI rfl (aI rfl (aI rfl (aI rfl trivial))))) (aI trivial (aI trivial (aI trivial (aI trivial (aI trivial (aI trivial (aI trivial (aI trivial trivial))))))))
    · conv => whnf
      refine ⟨_, k6', rfl, ?_⟩
      conv => whnf
      exact ent_same rfl (aI rfl (aI rfl (aI rfl (aI rfl (aI rfl (aI rfl trivial)))))) (aI trivial (aI trivial (aI trivial (aI trivial (aI trivial (aI trivial (aI trivial (aI trivial trivial))))))))
    · conv => whnf
      refine ⟨_, k6', rfl, ?_⟩
      conv => whnf
      exact ent_same rfl (aI rfl (aI rfl (aI rfl (aI rfl (aI rfl (aI rfl (aI rfl (aI (by first | exact trivial | exact rfl) (aI (by first | exact trivial | exact rfl) (aI (by first | exact trivial | exact rfl) (aI (by first | exact trivial | exact rfl) (aI (by first | exact trivial | exact rfl) (aI (by first | exact trivial | exact rfl) (aI (by first | exact trivial | exact rfl) (aI (by first | exact trivial | exact rfl) trivial))))))))))))))) (aI trivial (aI trivial (aI trivial (aI trivial (aI trivial (aI trivial (aI trivial (aI trivial trivial))))))))
    · intro a b e d
      cases a <;> cases b <;> cases e <;> cases d <;> (
        conv => whnf
        refine call_pass_pl p1 (by kernel_rfl) hb.ok z1 rfl rfl rfl u1 u2 u3 m1 m2 ?_
        conv => whnf
        exact ent_ren [8, 1, 2, 3, 4, 5, 6, 7] (aI rfl (aI rfl (aI rfl (aI rfl (aI rfl (aI rfl (aI rfl (aI (by first | exact trivial | exact rfl) (aI (by first | exact trivial | exact rfl) (aI (by first | exact trivial | exact rfl) (aI (by first | exact trivial | exact rfl) (aI (by first | exact trivial | exact rfl) (aI (by first | exact trivial | exact rfl) (aI (by first | exact trivial | exact rfl) (aI (by first | exact trivial | exact rfl) trivial))))))))))))))) (aI (by first | exact ⟨_, rfl, trivial⟩ | exact ⟨_, rfl, rfl, rfl, rfl⟩ | exact ⟨_, rfl, rfl, Or.inl rfl⟩) (aI (by first | exact ⟨_, rfl, trivial⟩ | exact ⟨_, rfl, rfl, rfl, rfl⟩ | exact ⟨_, rfl, rfl, Or.inl rfl⟩) (aI (by first | exact ⟨_, rfl, trivial⟩ | exact ⟨_, rfl, rfl, rfl, rfl⟩ | exact ⟨_, rfl, rfl, Or.inl rfl⟩) (aI (by first | exact ⟨_, rfl, trivial⟩ | exact ⟨_, rfl, rfl, rfl, rfl⟩ | exact ⟨_, rfl, rfl, Or.inl rfl⟩) (aI (by first | exact ⟨_, rfl, trivial⟩ | exact ⟨_, rfl, rfl, rfl, rfl⟩ | exact ⟨_, rfl, rfl, Or.inl rfl⟩) (aI (by first | exact ⟨_, rfl, trivial⟩ | exact ⟨_, rfl, rfl, rfl, rfl⟩ | exact ⟨_, rfl, rfl, Or.inl rfl⟩) (aI (by first | exact ⟨_, rfl, trivial⟩ | exact ⟨_, rfl, rfl, rfl, rfl⟩ | exact ⟨_, rfl, rfl, Or.inl rfl⟩) (aI (by first | exact ⟨_, rfl, trivial⟩ | exact ⟨_, rfl, rfl, rfl, rfl⟩ | exact ⟨_, rfl, rfl, Or.inl rfl⟩) trivial)))))))) rfl rfl rfl rfl rfl)
    · intro a b e d
      cases a <;> cases b <;> cases e <;> cases d <;> (
        conv => whnf
        refine call_pass_pl p2 (by kernel_rfl) hb.ok z2 rfl rfl rfl u1 u2 u3 m1 m2 ?_
        conv => whnf
        exact ent_ren [0, 8, 2, 3, 4, 5, 6, 7] (aI rfl (aI rfl (aI rfl (aI rfl (aI rfl (aI rfl (aI rfl (aI (by first | exact trivial | exact rfl) (aI (by first | exact trivial | exact rfl) (aI (by first | exact trivial | exact rfl) (aI (by first | exact trivial | exact rfl) (aI (by first | exact trivial | exact rfl) (aI (by first | exact trivial | exact rfl) (aI (by first | exact trivial | exact rfl) (aI (by first | exact trivial | exact rfl) trivial))))))))))))))) (aI (by first | exact ⟨_, rfl, trivial⟩ | exact ⟨_, rfl, rfl, rfl, rfl⟩ | exact ⟨_, rfl, rfl, Or.inl rfl⟩) (aI (by first | exact ⟨_, rfl, trivial⟩ | exact ⟨_, rfl, rfl, rfl, rfl⟩ | exact ⟨_, rfl, rfl, Or.inl rfl⟩) (aI (by first | exact ⟨_, rfl, trivial⟩ | exact ⟨_, rfl, rfl, rfl, rfl⟩ | exact ⟨_, rfl, rfl, Or.inl rfl⟩) (aI (by first | exact ⟨_, rfl, trivial⟩ | exact ⟨_, rfl, rfl, rfl, rfl⟩ | exact ⟨_, rfl, rfl, Or.inl rfl⟩) (aI (by first | exact ⟨_, rfl, trivial⟩ | exact ⟨_, rfl, rfl, rfl, rfl⟩ | exact ⟨_, rfl, rfl, Or.inl rfl⟩) (aI (by first | exact ⟨_, rfl, trivial⟩ | exact ⟨_, rfl, rfl, rfl, rfl⟩ | exact ⟨_, rfl, rfl, Or.inl rfl⟩) (aI (by first | exact ⟨_, rfl, trivial⟩ | exact ⟨_, rfl, rfl, rfl, rfl⟩ | exact ⟨_, rfl, rfl, Or.inl rfl⟩) (aI (by first | exact ⟨_, rfl, trivial⟩ | exact ⟨_, rfl, rfl, rfl, rfl⟩ | exact ⟨_, rfl, rfl, Or.inl rfl⟩) trivial)))))))) rfl rfl rfl rfl rfl)
    · intro a b e d
      cases a <;> cases b <;> cases e <;> cases d <;> (
        conv => whnf
        refine call_pass_pl p3 (by kernel_rfl) hb.ok z3 rfl rfl rfl u1 u2 u3 m1 m2 ?_
        conv => whnf
        exact ent_ren [0, 1, 8, 3, 4, 5, 6, 7] (aI rfl (aI rfl (aI rfl (aI rfl (aI rfl (aI rfl (aI rfl (aI (by first | exact trivial | exact rfl) (aI (by first | exact trivial | exact rfl) (aI (by first | exact trivial | exact rfl) (aI (by first | exact trivial | exact rfl) (aI (by first | exact trivial | exact rfl) (aI (by first | exact trivial | exact rfl) (aI (by first | exact trivial | exact rfl) (aI (by first | exact trivial | exact rfl) trivial))))))))))))))) (aI (by first | exact ⟨_, rfl, trivial⟩ | exact ⟨_, rfl, rfl, rfl, rfl⟩ | exact ⟨_, rfl, rfl, Or.inl rfl⟩) (aI (by first | exact ⟨_, rfl, trivial⟩ | exact ⟨_, rfl, rfl, rfl, rfl⟩ | exact ⟨_, rfl, rfl, Or.inl rfl⟩) (aI (by first | exact ⟨_, rfl, trivial⟩ | exact ⟨_, rfl, rfl, rfl, rfl⟩ | exact ⟨_, rfl, rfl, Or.inl rfl⟩) (aI (by first | exact ⟨_, rfl, trivial⟩ | exact ⟨_, rfl, rfl, rfl, rfl⟩ | exact ⟨_, rfl, rfl, Or.inl rfl⟩) (aI (by first | exact ⟨_, rfl, trivial⟩ | exact ⟨_, rfl, rfl, rfl, rfl⟩ | exact ⟨_, rfl, rfl, Or.inl rfl⟩) (aI (by first | exact ⟨_, rfl, trivial⟩ | exact ⟨_, rfl, rfl, rfl, rfl⟩ | exact ⟨_, rfl, rfl, Or.inl rfl⟩) (aI (by first | exact ⟨_, rfl, trivial⟩ | exact ⟨_, rfl, rfl, rfl, rfl⟩ | exact ⟨_, rfl, rfl, Or.inl rfl⟩) (aI (by first | exact ⟨_, rfl, trivial⟩ | exact ⟨_, rfl, rfl, rfl, rfl⟩ | exact ⟨_, rfl, rfl, Or.inl rfl⟩) trivial)))))))) rfl rfl rfl rfl rfl)
    · intro a b e d
      cases a <;> cases b <;> cases e <;> cases d <;> (
        conv => whnf
        refine call_pass_pl p4 (by kernel_rfl) hb.ok z4 rfl rfl rfl u1 u2 u3 m1 m2 ?_
        conv => whnf
        exact ent_ren [0, 1, 2, 8, 4, 5, 6, 7] (aI rfl (aI rfl (aI rfl (aI rfl (aI rfl (aI rfl (aI rfl (aI (by first | exact trivial | exact rfl) (aI (by first | exact trivial | exact rfl) (aI (by first | exact trivial | exact rfl) (aI (by first | exact trivial | exact rfl) (aI (by first | exact trivial | exact rfl) (aI (by first | exact trivial | exact rfl) (aI (by first | exact trivial | exact rfl) (aI (by first | exact trivial | exact rfl) trivial))))))))))))))) (aI (by first | exact ⟨_, rfl, trivial⟩ | exact ⟨_, rfl, rfl, rfl, rfl⟩ | exact ⟨_, rfl, rfl, Or.inl rfl⟩) (aI (by first | exact ⟨_, rfl, trivial⟩ | exact ⟨_, rfl, rfl, rfl, rfl⟩ | exact ⟨_, rfl, rfl, Or.inl rfl⟩) (aI (by first | exact ⟨_, rfl, trivial⟩ | exact ⟨_, rfl, rfl, rfl, rfl⟩ | exact ⟨_, rfl, rfl, Or.inl rfl⟩) (aI (by first | exact ⟨_, rfl, trivial⟩ | exact ⟨_, rfl, rfl, rfl, rfl⟩ | exact ⟨_, rfl, rfl, Or.inl rfl⟩) (aI (by first | exact ⟨_, rfl, trivial⟩ | exact ⟨_, rfl, rfl, rfl, rfl⟩ | exact ⟨_, rfl, rfl, Or.inl rfl⟩) (aI (by first | exact ⟨_, rfl, trivial⟩ | exact ⟨_, rfl, rfl, rfl, rfl⟩ | exact ⟨_, rfl, rfl, Or.inl rfl⟩) (aI (by first | exact ⟨_, rfl, trivial⟩ | exact ⟨_, rfl, rfl, rfl, rfl⟩ | exact ⟨_, rfl, rfl, Or.inl rfl⟩) (aI (by first | exact ⟨_, rfl, trivial⟩ | exact ⟨_, rfl, rfl, rfl, rfl⟩ | exact ⟨_, rfl, rfl, Or.inl rfl⟩) trivial)))))))) rfl rfl rfl rfl rfl)
    · intro k b e d
      cases k <;> cases b <;> cases e <;> cases d <;> (
        conv => whnf
        exact ent_ren [0, 1, 2, 3, 8, 5, 6, 7] (aI rfl (aI rfl (aI rfl (aI rfl (aI rfl (aI rfl (aI rfl (aI (by first | exact trivial | exact rfl) (aI (by first | exact trivial | exact rfl) (aI (by first | exact trivial | exact rfl) (aI (by first | exact trivial | exact rfl) (aI (by first | exact trivial | exact rfl) (aI (by first | exact trivial | exact rfl) (aI (by first | exact trivial | exact rfl) (aI (by first | exact trivial | exact rfl) trivial))))))))))))))) (aI (by first | exact ⟨_, rfl, trivial⟩ | exact ⟨_, rfl, rfl, rfl, rfl⟩ | exact ⟨_, rfl, rfl, Or.inl rfl⟩) (aI (by first | exact ⟨_, rfl, trivial⟩ | exact ⟨_, rfl, rfl, rfl, rfl⟩ | exact ⟨_, rfl, rfl, Or.inl rfl⟩) (aI (by first | exact ⟨_, rfl, trivial⟩ | exact ⟨_, rfl, rfl, rfl, rfl⟩ | exact ⟨_, rfl, rfl, Or.inl rfl⟩) (aI (by first | exact ⟨_, rfl, trivial⟩ | exact ⟨_, rfl, rfl, rfl, rfl⟩ | exact ⟨_, rfl, rfl, Or.inl rfl⟩) (aI (by first | exact ⟨_, rfl, trivial⟩ | exact ⟨_, rfl, rfl, rfl, rfl⟩ | exact ⟨_, rfl, rfl, Or.inl rfl⟩) (aI (by first | exact ⟨_, rfl, trivial⟩ | exact ⟨_, rfl, rfl, rfl, rfl⟩ | exact ⟨_, rfl, rfl, Or.inl rfl⟩) (aI (by first | exact ⟨_, rfl, trivial⟩ | exact ⟨_, rfl, rfl, rfl, rfl⟩ | exact ⟨_, rfl, rfl, Or.inl rfl⟩) (aI (by first | exact ⟨_, rfl, trivial⟩ | exact ⟨_, rfl, rfl, rfl, rfl⟩ | exact ⟨_, rfl, rfl, Or.inl rfl⟩) trivial)))))))) rfl rfl rfl rfl rfl)
    · intro k a e d
      cases k <;> cases a <;> cases e <;> cases d <;> (
        conv => whnf
        exact ent_ren [0, 1, 2, 3, 4, 8, 6, 7] (aI rfl (aI rfl (aI rfl (aI rfl (aI rfl (aI rfl (aI rfl (aI (by first | exact trivial | exact rfl) (aI (by first | exact trivial | exact rfl) (aI (by first | exact trivial | exact rfl) (aI (by first | exact trivial | exact rfl) (aI (by first | exact trivial | exact rfl) (aI (by first | exact trivial | exact rfl) (aI (by first | exact trivial | exact rfl) (aI (by first | exact trivial | exact rfl) trivial))))))))))))))) (aI (by first | exact ⟨_, rfl, trivial⟩ | exact ⟨_, rfl, rfl, rfl, rfl⟩ | exact ⟨_, rfl, rfl, Or.inl rfl⟩) (aI (by first | exact ⟨_, rfl, trivial⟩ | exact ⟨_, rfl, rfl, rfl, rfl⟩ | exact ⟨_, rfl, rfl, Or.inl rfl⟩) (aI (by first | exact ⟨_, rfl, trivial⟩ | exact ⟨_, rfl, rfl, rfl, rfl⟩ | exact ⟨_, rfl, rfl, Or.inl rfl⟩) (aI (by first | exact ⟨_, rfl, trivial⟩ | exact ⟨_, rfl, rfl, rfl, rfl⟩ | exact ⟨_, rfl, rfl, Or.inl rfl⟩) (aI (by first | exact ⟨_, rfl, trivial⟩ | exact ⟨_, rfl, rfl, rfl, rfl⟩ | exact ⟨_, rfl, rfl, Or.inl rfl⟩) (aI (by first | exact ⟨_, rfl, trivial⟩ | exact ⟨_, rfl, rfl, rfl, rfl⟩ | exact ⟨_, rfl, rfl, Or.inl rfl⟩) (aI (by first | exact ⟨_, rfl, trivial⟩ | exact ⟨_, rfl, rfl, rfl, rfl⟩ | exact ⟨_, rfl, rfl, Or.inl rfl⟩) (aI (by first | exact ⟨_, rfl, trivial⟩ | exact ⟨_, rfl, rfl, rfl, rfl⟩ | exact ⟨_, rfl, rfl, Or.inl rfl⟩) trivial)))))))) rfl rfl rfl rfl rfl)
    · intro k a b d
      cases k <;> cases a <;> cases b <;> cases d <;> (
        conv => whnf
        exact ent_ren [0, 1, 2, 3, 4, 5, 8, 7] (aI rfl (aI rfl (aI rfl (aI rfl (aI rfl (aI rfl (aI rfl (aI (by first | exact trivial | exact rfl) (aI (by first | exact trivial | exact rfl) (aI (by first | exact trivial | exact rfl) (aI (by first | exact trivial | exact rfl) (aI (by first | exact trivial | exact rfl) (aI (by first | exact trivial | exact rfl) (aI (by first | exact trivial | exact rfl) (aI (by first | exact trivial | exact rfl) trivial))))))))))))))) (aI (by first | exact ⟨_, rfl, trivial⟩ | exact ⟨_, rfl, rfl, rfl, rfl⟩ | exact ⟨_, rfl, rfl, Or.inl rfl⟩) (aI (by first | exact ⟨_, rfl, trivial⟩ | exact ⟨_, rfl, rfl, rfl, rfl⟩ | exact ⟨_, rfl, rfl, Or.inl rfl⟩) (aI (by first | exact ⟨_, rfl, trivial⟩ | exact ⟨_, rfl, rfl, rfl, rfl⟩ | exact ⟨_, rfl, rfl, Or.inl rfl⟩) (aI (by first | exact ⟨_, rfl, trivial⟩ | exact ⟨_, rfl, rfl, rfl, rfl⟩ | exact ⟨_, rfl, rfl, Or.inl rfl⟩) (aI (by first | exact ⟨_, rfl, trivial⟩ | exact ⟨_, rfl, rfl, rfl, rfl⟩ | exact ⟨_, rfl, rfl, Or.inl rfl⟩) (aI (by first | exact ⟨_, rfl, trivial⟩ | exact ⟨_, rfl, rfl, rfl, rfl⟩ | exact ⟨_, rfl, rfl, Or.inl rfl⟩) (aI (by first | exact ⟨_, rfl, trivial⟩ | exact ⟨_, rfl, rfl, rfl, rfl⟩ | exact ⟨_, rfl, rfl, Or.inl rfl⟩) (aI (by first | exact ⟨_, rfl, trivial⟩ | exact ⟨_, rfl, rfl, rfl, rfl⟩ | exact ⟨_, rfl, rfl, Or.inl rfl⟩) trivial)))))))) rfl rfl rfl rfl rfl)
    · intro k a b e
      cases k <;> cases a <;> cases b <;> cases e <;> (
        conv => whnf
        exact ent_ren [0, 1, 2, 3, 4, 5, 6, 8] (aI rfl (aI rfl (aI rfl (aI rfl (aI rfl (aI rfl (aI rfl (aI (by first | exact trivial | exact rfl) (aI (by first | exact trivial | exact rfl) (aI (by first | exact trivial | exact rfl) (aI (by first | exact trivial | exact rfl) (aI (by first | exact trivial | exact rfl) (aI (by first | exact trivial | exact rfl) (aI (by first | exact trivial | exact rfl) (aI (by first | exact trivial | exact rfl) trivial))))))))))))))) (aI (by first | exact ⟨_, rfl, trivial⟩ | exact ⟨_, rfl, rfl, rfl, rfl⟩ | exact ⟨_, rfl, rfl, Or.inl rfl⟩) (aI (by first | exact ⟨_, rfl, trivial⟩ | exact ⟨_, rfl, rfl, rfl, rfl⟩ | exact ⟨_, rfl, rfl, Or.inl rfl⟩) (aI (by first | exact ⟨_, rfl, trivial⟩ | exact ⟨_, rfl, rfl, rfl, rfl⟩ | exact ⟨_, rfl, rfl, Or.inl rfl⟩) (aI (by first | exact ⟨_, rfl, trivial⟩ | exact ⟨_, rfl, rfl, rfl, rfl⟩ | exact ⟨_, rfl, rfl, Or.inl rfl⟩) (aI (by first | exact ⟨_, rfl, trivial⟩ | exact ⟨_, rfl, rfl, rfl, rfl⟩ | exact ⟨_, rfl, rfl, Or.inl rfl⟩) (aI (by first | exact ⟨_, rfl, trivial⟩ | exact ⟨_, rfl, rfl, rfl, rfl⟩ | exact ⟨_, rfl, rfl, Or.inl rfl⟩) (aI (by first | exact ⟨_, rfl, trivial⟩ | exact ⟨_, rfl, rfl, rfl, rfl⟩ | exact ⟨_, rfl, rfl, Or.inl rfl⟩) (aI (by first | exact ⟨_, rfl, trivial⟩ | exact ⟨_, rfl, rfl, rfl, rfl⟩ | exact ⟨_, rfl, rfl, Or.inl rfl⟩) trivial)))))))) rfl rfl rfl rfl rfl)
    · conv => whnf
      exact ent_same rfl (aI rfl (aI rfl (aI rfl (aI rfl (aI rfl (aI rfl (aI rfl (aI (by first | exact trivial | exact rfl) (aI (by first | exact trivial | exact rfl) (aI (by first | exact trivial | exact rfl) (aI (by first | exact trivial | exact rfl) (aI (by first | exact trivial | exact rfl) (aI (by first | exact trivial | exact rfl) (aI (by first | exact trivial | exact rfl) (aI (by first | exact trivial | exact rfl) trivial))))))))))))))) (aI (by first | exact ⟨rfl, Or.inl rfl⟩ | exact ⟨rfl, rfl, rfl⟩) (aI (by first | exact ⟨rfl, Or.inl rfl⟩ | exact ⟨rfl, rfl, rfl⟩) (aI (by first | exact ⟨rfl, Or.inl rfl⟩ | exact ⟨rfl, rfl, rfl⟩) (aI (by first | exact ⟨rfl, Or.inl rfl⟩ | exact ⟨rfl, rfl, rfl⟩) (aI (by first | exact ⟨rfl, Or.inl rfl⟩ | exact ⟨rfl, rfl, rfl⟩) (aI (by first | exact ⟨rfl, Or.inl rfl⟩ | exact ⟨rfl, rfl, rfl⟩) (aI (by first | exact ⟨rfl, Or.inl rfl⟩ | exact ⟨rfl, rfl, rfl⟩) (aI (by first | exact ⟨rfl, Or.inl rfl⟩ | exact ⟨rfl, rfl, rfl⟩) trivial))))))))
    · conv => whnf
      exact ent_same rfl (aI rfl (aI rfl (aI rfl (aI rfl (aI rfl (aI rfl (aI rfl (aI (by first | exact trivial | exact rfl) (aI (by first | exact trivial | exact rfl) (aI (by first | exact trivial | exact rfl) (aI (by first | exact trivial | exact rfl) (aI (by first | exact trivial | exact rfl) (aI (by first | exact trivial | exact rfl) (aI (by first | exact trivial | exact rfl) (aI (by first | exact trivial | exact rfl) trivial))))))))))))))) (aI (by first | exact ⟨rfl, Or.inl rfl⟩ | exact ⟨rfl, rfl, rfl⟩) (aI (by first | exact ⟨rfl, Or.inl rfl⟩ | exact ⟨rfl, rfl, rfl⟩) (aI (by first | exact ⟨rfl, Or.inl rfl⟩ | exact ⟨rfl, rfl, rfl⟩) (aI (by first | exact ⟨rfl, Or.inl rfl⟩ | exact ⟨rfl, rfl, rfl⟩) (aI (by first | exact ⟨rfl, Or.inl rfl⟩ | exact ⟨rfl, rfl, rfl⟩) (aI (by first | exact ⟨rfl, Or.inl rfl⟩ | exact ⟨rfl, rfl, rfl⟩) (aI (by first | exact ⟨rfl, Or.inl rfl⟩ | exact ⟨rfl, rfl, rfl⟩) (aI (by first | exact ⟨rfl, Or.inl rfl⟩ | exact ⟨rfl, rfl, rfl⟩) trivial))))))))
    · conv => whnf
      exact ent_same rfl (aI rfl (aI rfl (aI rfl (aI rfl (aI rfl (aI rfl (aI rfl (aI (by first | exact trivial | exact rfl) (aI (by first | exact trivial | exact rfl) (aI (by first | exact trivial | exact rfl) (aI (by first | exact trivial | exact rfl) (aI (by first | exact trivial | exact rfl) (aI (by first | exact trivial | exact rfl) (aI (by first | exact trivial | exact rfl) (aI (by first | exact trivial | exact rfl) trivial))))))))))))))) (aI (by first | exact ⟨rfl, Or.inl rfl⟩ | exact ⟨rfl, rfl, rfl⟩) (aI (by first | exact ⟨rfl, Or.inl rfl⟩ | exact ⟨rfl, rfl, rfl⟩) (aI (by first | exact ⟨rfl, Or.inl rfl⟩ | exact ⟨rfl, rfl, rfl⟩) (aI (by first | exact ⟨rfl, Or.inl rfl⟩ | exact ⟨rfl, rfl, rfl⟩) (aI (by first | exact ⟨rfl, Or.inl rfl⟩ | exact ⟨rfl, rfl, rfl⟩) (aI (by first | exact ⟨rfl, Or.inl rfl⟩ | exact ⟨rfl, rfl, rfl⟩) (aI (by first | exact ⟨rfl, Or.inl rfl⟩ | exact ⟨rfl, rfl, rfl⟩) (aI (by first | exact ⟨rfl, Or.inl rfl⟩ | exact ⟨rfl, rfl, rfl⟩) trivial))))))))
    · conv => whnf
      exact ent_same rfl (aI rfl (aI rfl (aI rfl (aI rfl (aI rfl (aI rfl (aI rfl (aI (by first | exact trivial | exact rfl) (aI (by first | exact trivial | exact rfl) (aI (by first | exact trivial | exact rfl) (aI (by first | exact trivial | exact rfl) (aI (by first | exact trivial | exact rfl) (aI (by first | exact trivial | exact rfl) (aI (by first | exact trivial | exact rfl) (aI (by first | exact trivial | exact rfl) trivial))))))))))))))) (aI (by first | exact ⟨rfl, Or.inl rfl⟩ | exact ⟨rfl, rfl, rfl⟩) (aI (by first | exact ⟨rfl, Or.inl rfl⟩ | exact ⟨rfl, rfl, rfl⟩) (aI (by first | exact ⟨rfl, Or.inl rfl⟩ | exact ⟨rfl, rfl, rfl⟩) (aI (by first | exact ⟨rfl, Or.inl rfl⟩ | exact ⟨rfl, rfl, rfl⟩) (aI (by first | exact ⟨rfl, Or.inl rfl⟩ | exact ⟨rfl, rfl, rfl⟩) (aI (by first | exact ⟨rfl, Or.inl rfl⟩ | exact ⟨rfl, rfl, rfl⟩) (aI (by first | exact ⟨rfl, Or.inl rfl⟩ | exact ⟨rfl, rfl, rfl⟩) (aI (by first | exact ⟨rfl, Or.inl rfl⟩ | exact ⟨rfl, rfl, rfl⟩) trivial))))))))
    · conv => whnf
      exact atq_mid () ent_refl
  refine satq_restart fun r w4 hR => ?_
  obtain ⟨g8, A8, c8, b8, k8, s8, m81, m82⟩ := own_blkView hR 4 0 (l := F1 y) rfl rfl
  obtain ⟨g9, A9, c9, b9, k9, s9, m91, m92⟩ := own_blkView hR 5 1 (l := F2 y) rfl rfl
  obtain ⟨g10, A10, c10, b10, k10, s10, m101, m102⟩ := own_blkView hR 6 2 (l := F3 y) rfl rfl
  obtain ⟨g11, A11, c11, b11, k11, s11, m111, m112⟩ := own_blkView hR 7 3 (l := F4 y) rfl rfl
  have hB3 : Below w.heap.size w w4 := hB2.trans (hR.toBelow.mono hB2.size)
  have k6 := cells_later k6' hR.toBelow
  have k7' := cells_later k7 hR.toBelow
  refine ⟨slotFr [(5, .bool true), (6, .pointer (some ⟨g6, 0, none⟩)), (7, .pointer (some ⟨g7, 0, none⟩)), (8, .pointer (some ⟨g8, 0, none⟩)), (9, .pointer (some ⟨g9, 0, none⟩)), (10, .pointer (some ⟨g10, 0, none⟩)), (11, .pointer (some ⟨g11, 0, none⟩))], fun a hf => slots_den ⟨slot_val hf rfl, slot_val hf rfl, slot_val hf rfl, slot_ref hf 8 rfl b8, slot_ref hf 9 rfl b9, slot_ref hf 10 rfl b10, slot_ref hf 11 rfl b11, trivial⟩, ?_⟩
  have v1 := sl_later u1 hR.toBelow
  have v2 := sl_later u2 hR.toBelow
  have v3 := sl_later u3 hR.toBelow
  have x1 := sl_later t1 hR.toBelow
  have x2 := sl_later t2 hR.toBelow
  have x3 := sl_later t3 hR.toBelow
  clear hR b8 b9 b10 b11 k6' k7 u1 u2 u3 t1 t2 t3
  refine satq_seq ?_
  refine sat_any (.q 0 (.q 1 (.alt 2 (.alt 3 (.q 4 (.q 5 (.q 6 (.alt 7 (.alt 8 (.q 9 (.q 10 (.q 11 (.q 12 (.alt 13 (.alt 14 (.q 15 (.q 16 (.q 17 (.q 18 (.alt 19 (.alt 20 (.q 21 (.q 22 .done)) .no) .no))))) .no) .no))))) .no) .no)))) .no) .no))) mixed (by kernel_rfl) (by kernel_rfl) ?_
  conv => whnf
  refine ⟨_, k8, rfl, ?_⟩
  conv => whnf
  refine ⟨_, k7', rfl, ?_⟩
  conv => whnf
  refine ⟨?_, trivial⟩
  conv => whnf
  refine call_pass_pl p1 (by kernel_rfl) hb.ok z1 rfl rfl rfl x1 x2 x3 m3 m4 ?_
  conv => whnf
  refine ⟨?_, trivial⟩
  conv => whnf
  refine call_same_two (b := ⟨y.at_, y.pages, F1 y⟩) 0 hb.ok.lat hb.ok.lpages (Nat.le_trans y1 ylen) rfl rfl rfl v1 v2 s8 x1 x2 rfl ?_
  conv => whnf
  refine ⟨_, k9, rfl, ?_⟩
  conv => whnf
  refine ⟨_, k7', rfl, ?_⟩
  conv => whnf
  refine ⟨?_, trivial⟩
  conv => whnf
  refine call_pass_pl p2 (by kernel_rfl) hb.ok z2 rfl rfl rfl x1 x2 x3 m3 m4 ?_
  conv => whnf
  refine ⟨?_, trivial⟩
  conv => whnf
  refine call_same_two (b := ⟨y.at_, y.pages, F2 y⟩) 1 hb.ok.lat hb.ok.lpages (Nat.le_trans y2 ylen) rfl rfl rfl v1 v2 s9 x1 x2 rfl ?_
  conv => whnf
  refine ⟨_, k10, rfl, ?_⟩
  conv => whnf
  refine ⟨_, k7', rfl, ?_⟩
  conv => whnf
  refine ⟨?_, trivial⟩
  conv => whnf
  refine call_pass_pl p3 (by kernel_rfl) hb.ok z3 rfl rfl rfl x1 x2 x3 m3 m4 ?_
  conv => whnf
  refine ⟨?_, trivial⟩
  conv => whnf
  refine call_same_two (b := ⟨y.at_, y.pages, F3 y⟩) 2 hb.ok.lat hb.ok.lpages (Nat.le_trans y3 ylen) rfl rfl rfl v1 v2 s10 x1 x2 rfl ?_
  conv => whnf
  refine ⟨_, k11, rfl, ?_⟩
  conv => whnf
  refine ⟨_, k7', rfl, ?_⟩
  conv => whnf
  refine ⟨?_, trivial⟩
  conv => whnf
  refine call_pass_pl p4 (by kernel_rfl) hb.ok z4 rfl rfl rfl x1 x2 x3 m3 m4 ?_
  conv => whnf
  refine ⟨?_, trivial⟩
  conv => whnf
  refine call_same_two (b := ⟨y.at_, y.pages, F4 y⟩) 3 hb.ok.lat hb.ok.lpages (Nat.le_trans y4 ylen) rfl rfl rfl v1 v2 s11 x1 x2 rfl ?_
  conv => whnf
  refine satq_vc ?_
  conv => whnf
  refine ⟨true, fun _ => ?_, ?_⟩
  · conv => whnf
    exact ⟨rfl, rfl, rfl, rfl, rfl⟩
  conv => whnf
  refine ⟨true, fun _ => ?_, ?_⟩
  · conv => whnf
    refine ⟨_, k6, rfl, ?_⟩
    conv => whnf
    refine ⟨_, k7', rfl, ?_⟩
    conv => whnf
    refine call_con rfl (by kernel_rfl) (fun r w' hR => same_ref A1 A2 A3 D1 D2 D3 c1 c2 c3 d1 d2 d3 y y w' hb.ok.lat hb.ok.lpages hb.ok.lops (sl_later v1 hR.toBelow) (sl_later v2 hR.toBelow) (sl_later v3 hR.toBelow) (sl_later x1 hR.toBelow) (sl_later x2 hR.toBelow) (sl_later x3 hR.toBelow)) ?_
    rw [sameB_self]
    conv => whnf
    exact ⟨rfl, rfl, rfl, rfl, rfl⟩
  conv => whnf
  refine atq_ret ?_
  conv => whnf
  exact fin_val rfl fun w' hB => ⟨rfl, hB3.trans (hB.mono hB3.size)⟩
end Go.Proofs.Ytmjfgnnefcimiaa
namespace Go.Proofs.Ytmjfgnnefcimiaa
open Go.ChangeShapes Go.WideShapes Go.ChangeAt Go.RowKit

set_option maxRecDepth 100000 in
theorem optKeeps_lifted (os : Os) (started : os.Started) (H : Type) (enc : TypeId × Value → H) :
    ReturnsInHanded {} Try.checked os 13 .any (Rows.optKeepsSpec.pre6 enc Try.prog Try.f13 Rows.optKeepsRow.domain false) (Rows.optKeepsSpec.post enc Try.prog Try.f13 false true false false) := by
  refine returnsInHanded_of_change (C := Try.checked) ownK started (by kernel_rfl) Try.func13
    (ChangeSpec.witness6 (enc := enc) (C := Try.checked) false ⟨#[], #[.slice none 0 0, .agg #[.int .i64 0, .int .i64 0, .int .i64 0]], []⟩ 8 (by kernel_rfl) (by kernel_rfl) (by kernel_rfl) (by kernel_rfl)) ?_
  intro W base args ds gs before hval0 hW hcnd _
  have hval : ∀ (j : Nat) t v, Try.f13.params[j]? = some t → args[j]? = some v → Value.okWide Try.prog W .any base t v := hval0
  have hW' := hW
  obtain ⟨p, q, hA0, hV, rfl, hfz, hnd⟩ := hW
  have hA : DataW.TrodAll enc Try.prog W 0 (fun _ => true) true Try.f13.params.toList args.toList ds p := hA0
  rw [Try.params13] at hA hval
  obtain ⟨v0, vs0, d0, ds0, p0, q0, hargs, rfl, rfl, h0, r0⟩ := trodAll_cons hA
  obtain ⟨v1, vs1, d1, ds1, p1, q1, rfl, rfl, rfl, h1, r1⟩ := trodAll_cons r0
  obtain ⟨rfl, rfl, rfl⟩ := trodAll_nil r1
  obtain rfl : args = #[v0, v1] := by cases args; simp_all
  obtain ⟨rfl, rfl⟩ := trodVars_none hV
  obtain ⟨a0, len0, cap0, rfl⟩ := okWide_slice Try.underlying22 (hval 0 22 v0 rfl rfl)
  have k0 := h0
  have k1 := h1
  have lt0 : ∀ x ∈ p0, x.block < W.heap.size := by obtain ⟨m, hm⟩ := k0; exact DataW.trod_lt m _ _ _ hm
  have lt1 : ∀ x ∈ p1, x.block < W.heap.size := by obtain ⟨m, hm⟩ := k1; exact DataW.trod_lt m _ _ _ hm
  obtain ⟨xs, w0, hl, hnc⟩ := open_sl h0
  obtain ⟨x, y, z, rfl⟩ := open_q (hval 1 23 v1 rfl rfl) h1
  clear hA0 hval0
  refine (keeps_law once_mu a0 len0 cap0 xs x y z W w0 hl hnc).mono fun e W' ⟨he, bel⟩ => ?_
  subst he
  exact ⟨_, rfl, _, _, _, [], _, [], hW', trodAll_mk1 (shut_bool Try.underlying4 _), (trodAll_cons_mk (Below.trod laidOutP (by kernel_rfl) (of_decide_eq_true (by kernel_rfl)) k0 bel lt0) (trodAll_cons_mk (Below.trod laidOutP (by kernel_rfl) (of_decide_eq_true (by kernel_rfl)) k1 bel lt1) trodAll_mk0)), rfl, bel.frame _, fun h => by cases h⟩
theorem optKeeps_holds : Rows.OptKeepsSaid :=
  OpenClaim.holds_of_wide 13 Try.f13 rfl rfl rfl rfl rfl rfl rfl ⟨rfl, rfl, rfl, rfl, rfl⟩ rfl rfl rfl rfl rfl (by kernel_rfl) Try.func13 (by kernel_rfl)
    (of_decide_eq_true (by kernel_rfl)) (by unfold Func.isWrapper; first | (rw [if_pos (by decide +kernel)]; kernel_rfl) | (rw [if_neg (by decide +kernel)]; exact ⟨rfl, rfl⟩))
    (fun os started H enc _ => optKeeps_lifted os started H enc)
end Go.Proofs.Ytmjfgnnefcimiaa
