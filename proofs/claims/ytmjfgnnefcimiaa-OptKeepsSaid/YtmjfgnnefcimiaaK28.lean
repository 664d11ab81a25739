/- Walks: a block with one thing turned. Walks: the law OptFixed: none of the passes changes what Opt leaves. Plain: the evaluation of a block; each pass of the optimizer keeps it. -/
import Derived.Test.YtmjfgnnefcimiaaK1
import Derived.Test.YtmjfgnnefcimiaaK10
import Derived.Test.YtmjfgnnefcimiaaK11
import Derived.Test.YtmjfgnnefcimiaaK12
import Derived.Test.YtmjfgnnefcimiaaK14
import Derived.Test.YtmjfgnnefcimiaaK15
import Derived.Test.YtmjfgnnefcimiaaK16
import Derived.Test.YtmjfgnnefcimiaaK17
import Derived.Test.YtmjfgnnefcimiaaK18
import Derived.Test.YtmjfgnnefcimiaaK19
import Derived.Test.YtmjfgnnefcimiaaK20
import Derived.Test.YtmjfgnnefcimiaaK21
import Derived.Test.YtmjfgnnefcimiaaK23
import Derived.Test.YtmjfgnnefcimiaaK24
import Derived.Test.YtmjfgnnefcimiaaK25
import Derived.Test.YtmjfgnnefcimiaaK26
import Derived.Test.YtmjfgnnefcimiaaK27
import Derived.Test.YtmjfgnnefcimiaaK3
import Derived.Test.YtmjfgnnefcimiaaK4
import Derived.Test.YtmjfgnnefcimiaaK5
namespace Go.Proofs.Ytmjfgnnefcimiaa
open Go.RowKit

theorem and_mask (x : Int) : 0 ≤ bits .and .i64 x 65535 ∧ bits .and .i64 x 65535 ≤ 65535 := by
  have h : (BitVec.ofInt 64 x &&& BitVec.ofInt 64 65535).toNat ≤ 65535 := by
    rw [BitVec.toNat_and]
    exact Nat.le_trans Nat.and_le_right (by decide)
  have e : bits .and .i64 x 65535 = IntKind.i64.wrap ((BitVec.ofInt 64 x &&& BitVec.ofInt 64 65535).toNat : Int) := rfl
  rw [e, wr64 (by omega)]
  omega
theorem ops_setField : ∀ {l : List BOp} {i : Nat} {o : BOp} (j : Nat) (u : Value) (o' : BOp), l[i]? = some o → j < 5 → opC o' = (opC o).set j u → (l.flatMap opC).set (i * 5 + j) u = (l.set i o').flatMap opC
  | [], i, o, j, u, o', h, _, _ => by simp at h
  | x :: l, 0, o, j, u, o', h, hj, he => by
    simp at h; subst h
    rw [Nat.zero_mul, Nat.zero_add, List.flatMap_cons, List.set_append_left _ _ (by rw [opC_length]; exact hj), ← he]
    simp
  | x :: l, i + 1, o, j, u, o', h, hj, he => by
    rw [List.flatMap_cons, show (i + 1) * 5 + j = (opC x).length + (i * 5 + j) by rw [opC_length]; omega, set_right, ops_setField j u o' (by simpa using h) hj he]
    simp
theorem ops_setF {l : List BOp} {i k : Nat} {o : BOp} (j : Nat) (u : Value) (o' : BOp) (hk : k = i * 5 + j) (h : l[i]? = some o) (hj : j < 5) (he : opC o' = (opC o).set j u) : setAll (l.flatMap opC) k [u] = (l.set i o').flatMap opC := by
  subst hk; exact ops_setField j u o' h hj he
theorem row_get {l : List BOp} {i k j : Nat} {o : BOp} {u : Value} (h : l[i]? = some o) (hu : (opC o)[j]? = some u) (hj : j < 5) (hk : k = i * 5 + j) : (List.map CV.v (List.flatMap opC l))[k]? = some (.v u) := by
  subst hk
  rw [List.getElem?_map, flat_at l i j o h hj, hu]; rfl
theorem ops_take : ∀ (l : List BOp) (k : Nat), (l.flatMap opC).take (k * 5) = (l.take k).flatMap opC
  | [], k => by simp
  | x :: l, 0 => by simp
  | x :: l, k + 1 => by
    rw [List.flatMap_cons, show (k + 1) * 5 = (opC x).length + k * 5 by rw [opC_length]; omega, List.take_length_add_append, ops_take l k]; simp
theorem ops_drop : ∀ (l : List BOp) (k : Nat), (l.flatMap opC).drop (k * 5) = (l.drop k).flatMap opC
  | [], k => by simp
  | x :: l, 0 => by simp
  | x :: l, k + 1 => by
    rw [List.flatMap_cons, show (k + 1) * 5 = (opC x).length + k * 5 by rw [opC_length]; omega, List.drop_length_add_append, ops_drop l k]; simp
theorem rel_as {w0 : World} {G : Gs} {S S2 : List Ow} {r : Env} {w : World} (h : Rel w0 G S r w) (hl : S2.length = S.length) (ho : ∀ (i : Nat) (o : Ow), S2[i]? = some o → o.holds r w i) : Rel w0 G S2 r w :=
  ⟨h.os, h.tape, h.output, h.size, h.old, ho, h.inj, h.new, fun i hi => h.outB i (by omega), fun i hi => h.outV i (by omega), h.first⟩
/-- A block's operations, looked at closer: where they lie. -/
theorem ops_conc {w0 : World} {G : Gs} {S : List Ow} {r : Env} {w : World} (h : Rel w0 G S r w) {n : Nat} {l : List BOp} (h5 : S[5]? = some (.row 53 5 n (l.flatMap opC))) (h6 : S[6]? = some (.cells 32 [.row 3, .row 4, .row 5])) (hn : 0 < n) :
    ∃ (ob C : Nat) (cur : List Value), n ≤ C ∧ C ≤ maxLen ∧ cur.length = C * 5 ∧ cur.take (n * 5) = l.flatMap opC ∧ Rel w0 G ((S.set 5 (objOw ob (.cells cur.toArray 53 (0, 0)))).set 6 (.cells 32 [.row 3, .row 4, .v (.slice (some ⟨ob, 0, none⟩) n C)])) r w := by
  obtain ⟨v, f1, f2, f3⟩ := h.own 5 _ h5
  obtain ⟨b, us, g1, g2, g3⟩ := h.own 6 _ h6
  simp only [denL, CV.den] at g3
  obtain ⟨u1, l1, rfl, e1, u2, l2, rfl, e2, u3, l3, rfl, e3, rfl⟩ := g3
  rw [e3] at f1; injection f1 with f1; subst f1
  rcases f3.2 with ⟨_, h0⟩ | ⟨ob, C, ⟨cur⟩, k1, _, k3, k4, k5, k6, k7⟩
  · omega
  · refine ⟨ob, C, cur, k4, k5, by simpa using k6, k7, rel_as h (by simp) fun i o ho => ?_⟩
    rw [List.getElem?_set] at ho
    split at ho
    · rename_i hi; subst hi
      split at ho
      · injection ho with ho; subst ho
        exact ⟨b, [u1, u2, u3], g1, g2, by simp only [denL, CV.den]; exact ⟨_, _, rfl, e1, _, _, rfl, e2, _, _, rfl, k1, rfl⟩⟩
      · cases ho
    · rw [List.getElem?_set] at ho
      split at ho
      · rename_i hi; subst hi
        split at ho
        · injection ho with ho; subst ho
          exact ⟨ob, by rw [← f2, k1]; rfl, ⟨rfl, k3⟩, fun w' hw => ⟨rfl, hw.trans k3⟩⟩
        · cases ho
      · exact h.own i o ho
structure TurnOk (b : Blk) : Prop where
  ok : b.ok
  l1 : b.at_.length ≤ 1000
  l2 : b.pages.length ≤ 1000
  l3 : b.ops.length ≤ 1000
theorem turn_ops {b : Blk} (h : TurnOk b) {l : List BOp} (hl : ∀ o ∈ l, o.ok) (hn : l.length ≤ 1000) : TurnOk ⟨b.at_, b.pages, l⟩ := ⟨⟨h.ok.at_, h.ok.pages, hl, h.ok.lat, h.ok.lpages, Nat.le_trans hn (by omega)⟩, h.l1, h.l2, hn⟩
theorem turn_set {b : Blk} (h : TurnOk b) (i : Nat) {o : BOp} (ho : o.ok) : TurnOk ⟨b.at_, b.pages, b.ops.set i o⟩ := turn_ops h (fun p hp => by
  rcases List.mem_or_eq_of_mem_set hp with hp | rfl
  · exact h.ok.ops p hp
  · exact ho) (by rw [List.length_set]; exact h.l3)
abbrev blkZ : Ow := .cells 32 [.v (.slice none 0 0), .v (.slice none 0 0), .v (.slice none 0 0)]
abbrev blkC : Ow := .cells 32 [.row 3, .row 4, .row 5]
set_option maxRecDepth 100000 in
theorem turned_walk (b : Blk) (A1 A2 A3 : Option Addr) (c1 c2 c3 : Nat) (q0 q1 q2 : Int) (w : World) (hb : b.ok) (hl1 : b.at_.length ≤ 900) (hl2 : b.pages.length ≤ 900) (hl3 : b.ops.length ≤ 900) (h1 : SlAt w w.heap.size A1 (b.at_.map (.int .u32))) (h2 : SlAt w w.heap.size A2 (b.pages.map (.int .i64))) (h3 : OpsAt w w.heap.size A3 b.ops) :
    Calls Try.prog 21 #[.agg #[.slice A1 b.at_.length c1, .slice A2 b.pages.length c2, .slice A3 b.ops.length c3], .agg #[.int .i64 q0, .int .i64 q1, .int .i64 q2]] w fun e w' => ∃ b' v1 v2 v3, TurnOk b' ∧ e = .returned (.agg #[v1, v2, v3]) ∧ Rows3 w.heap.size w' v1 v2 v3 b' ∧ Below w.heap.size w w' := by
  have hT : TurnOk b := ⟨hb, by omega, by omega, by omega⟩
  refine calls_satq [.agg #[.slice A1 b.at_.length c1, .slice A2 b.pages.length c2, .slice A3 b.ops.length c3], .agg #[.int .i64 q0, .int .i64 q1, .int .i64 q2]] Try.func21 Try.ntmps21 rfl (by simp) ?_
  refine satq_seq ?_
  conv => whnf
  refine satq_seq ?_
  conv => whnf
  refine call_blk (fun b' => b' = b) (by kernel_rfl) (fun r w' us hR hd => ?_) fun b' hb' => ?_
  · obtain rfl := avals_den (xs := [.agg #[.slice A1 b.at_.length c1, .slice A2 b.pages.length c2, .slice A3 b.ops.length c3]]) rfl hd
    refine (own_walk b A1 A2 A3 c1 c2 c3 w' hb (sl_later h1 hR.toBelow) (sl_later h2 hR.toBelow) (sl_later h3 hR.toBelow)).mono fun e w'' ⟨v1, v2, v3, he, hr, hB⟩ => ⟨b, v1, v2, v3, rfl, he, hr, hB⟩
  subst hb'
  conv => whnf
  refine satq_seq ?_
  conv => whnf
  refine ⟨fun _ => ?_, fun hne => ?_⟩
  · conv => whnf
    refine atq_ret ?_
    conv => whnf
    exact fin_rows3 3 4 5 b' (by omega) (by omega) (by omega) (.inl ⟨rfl, rfl⟩) (.inl ⟨rfl, rfl⟩) (.inl ⟨rfl, rfl⟩) fun w' v1 v2 v3 h3 hB => ⟨b', v1, v2, v3, hT, rfl, h3, hB⟩
  have hpos : 0 < b'.ops.length := by
    rcases Nat.eq_zero_or_pos b'.ops.length with h | h
    · rw [h] at hne; simp at hne
    · exact h
  conv => whnf
  refine satq_seq ?_
  conv => whnf
  refine ⟨⟨by omega, by omega⟩, ?_⟩
  conv => whnf
  obtain ⟨n, hn⟩ : ∃ n, bits .and .i64 q2 65535 = n := ⟨_, rfl⟩
  have hn0 := (and_mask q2).1
  have hn1 := (and_mask q2).2
  rw [hn] at hn0 hn1
  refine ⟨n, hn, ?_⟩
  conv => whnf
  refine satq_seq ?_
  conv => whnf
  refine ⟨⟨by omega, by omega⟩, ?_⟩
  conv => whnf
  obtain ⟨n1, hn1'⟩ : ∃ n1, bits .and .i64 q1 65535 = n1 := ⟨_, rfl⟩
  have hn10 := (and_mask q1).1
  rw [hn1'] at hn10
  refine ⟨n1, hn1', ?_⟩
  conv => whnf
  obtain ⟨i, hi, hil⟩ : ∃ i : Nat, n1.tmod (b'.ops.length : Int) = (i : Int) ∧ i < b'.ops.length := by
    have e1 := Int.tmod_nonneg (b'.ops.length : Int) hn10
    have e2 := Int.tmod_lt_of_pos n1 (b := (b'.ops.length : Int)) (by omega)
    exact ⟨(n1.tmod (b'.ops.length : Int)).toNat, by omega, by omega⟩
  refine ⟨by omega, (i : Int), hi, ?_⟩
  conv => whnf
  obtain ⟨o, ho⟩ : ∃ o, b'.ops[i]? = some o := ⟨_, List.getElem?_eq_getElem hil⟩
  have hoo : o.ok := hb.ops o (List.mem_of_getElem? ho)
  refine satq_mid (α := { y : Blk // TurnOk y }) (fun y => [(4, .p (.c (.ref 2 0))), (5, .p (.c (.ref 6 0)))]) (fun y => [.gone, .gone, blkZ] ++ blkRows y.1 ++ [blkC]) ?_ fun y => ?_
  · refine satq_seq ?_
    conv => whnf
    refine ⟨⟨by omega, by omega⟩, ?_⟩
    conv => whnf
    refine ⟨by omega, _, rfl, ?_⟩
    conv => whnf
    refine ⟨_, rfl, ?_⟩
    conv => whnf
    refine ⟨by omega, _, rfl, ?_⟩
    conv => whnf
    have m28 : 0 ≤ n.tmod 28 ∧ n.tmod 28 < 28 := ⟨Int.tmod_nonneg _ hn0, Int.tmod_lt_of_pos _ (by omega)⟩
    have m30 : 0 ≤ n.tmod 30 ∧ n.tmod 30 < 30 := ⟨Int.tmod_nonneg _ hn0, Int.tmod_lt_of_pos _ (by omega)⟩
    refine satq_block ?_
    refine satq_seq ?_
    conv => whnf
    refine satq_cond rfl (fun _ => ?_) (fun _ => ?_)
    · refine satq_vc ?_
      conv => whnf
      refine ⟨by omega, _, rfl, ?_⟩
      conv => whnf
      refine ⟨⟨by omega, by omega⟩, ?_⟩
      conv => whnf
      refine ⟨?_, ?_⟩
      · show (i : Int).toNat * 5 + 0 + 1 ≤ (b'.ops.flatMap opC).length
        rw [ops_length, Int.toNat_natCast]; omega
      conv => whnf
      refine atq_block ?_
      exact atq_mid ⟨⟨b'.at_, b'.pages, b'.ops.set i (⟨n.tmod 28, o.d, o.a, o.b, o.n⟩ : BOp)⟩, turn_set hT i ⟨mid_small (by dsimp only; omega), hoo.d, hoo.a, hoo.b, hoo.n⟩⟩ (ent_drop (aI rfl (aI rfl trivial)) (aI ((by trivial)) (aI ((by trivial)) (aI ((aI rfl (Or.inl rfl))) (aI ((aI rfl (aI rfl (aI rfl rfl)))) (aI ((aI rfl (aI rfl (aI rfl rfl)))) (aI ((aI rfl (aI rfl (aI ((List.length_set).symm) (by exact ops_setF (l := b'.ops) (i := i) (o := o) 0 (.int .i64 (n.tmod 28)) (⟨n.tmod 28, o.d, o.a, o.b, o.n⟩ : BOp) (by rw [Int.toNat_natCast]; rfl) ho (by omega) rfl))))) (aI ((aI rfl (Or.inl rfl))) trivial))))))) rfl rfl)
    refine satq_seq ?_
    conv => whnf
    refine satq_cond rfl (fun _ => ?_) (fun _ => ?_)
    · refine satq_vc ?_
      conv => whnf
      refine ⟨by omega, _, rfl, ?_⟩
      conv => whnf
      refine ⟨_, wr64 (by omega), ?_⟩
      conv => whnf
      refine ⟨⟨by omega, by omega⟩, ?_⟩
      conv => whnf
      refine ⟨?_, ?_⟩
      · show (i : Int).toNat * 5 + 1 + 1 ≤ (b'.ops.flatMap opC).length
        rw [ops_length, Int.toNat_natCast]; omega
      conv => whnf
      refine atq_block ?_
      exact atq_mid ⟨⟨b'.at_, b'.pages, b'.ops.set i (⟨o.code, n.tmod 30 - 1, o.a, o.b, o.n⟩ : BOp)⟩, turn_set hT i ⟨hoo.code, mid_small (by dsimp only; omega), hoo.a, hoo.b, hoo.n⟩⟩ (ent_drop (aI rfl (aI rfl trivial)) (aI ((by trivial)) (aI ((by trivial)) (aI ((aI rfl (Or.inl rfl))) (aI ((aI rfl (aI rfl (aI rfl rfl)))) (aI ((aI rfl (aI rfl (aI rfl rfl)))) (aI ((aI rfl (aI rfl (aI ((List.length_set).symm) (by exact ops_setF (l := b'.ops) (i := i) (o := o) 1 (.int .i64 (n.tmod 30 - 1)) (⟨o.code, n.tmod 30 - 1, o.a, o.b, o.n⟩ : BOp) (by rw [Int.toNat_natCast]; rfl) ho (by omega) rfl))))) (aI ((aI rfl (Or.inl rfl))) trivial))))))) rfl rfl)
    refine satq_seq ?_
    conv => whnf
    refine satq_cond rfl (fun _ => ?_) (fun _ => ?_)
    · refine satq_vc ?_
      conv => whnf
      refine ⟨by omega, _, rfl, ?_⟩
      conv => whnf
      refine ⟨_, wr64 (by omega), ?_⟩
      conv => whnf
      refine ⟨⟨by omega, by omega⟩, ?_⟩
      conv => whnf
      refine ⟨?_, ?_⟩
      · show (i : Int).toNat * 5 + 2 + 1 ≤ (b'.ops.flatMap opC).length
        rw [ops_length, Int.toNat_natCast]; omega
      conv => whnf
      refine atq_block ?_
      exact atq_mid ⟨⟨b'.at_, b'.pages, b'.ops.set i (⟨o.code, o.d, n.tmod 30 - 1, o.b, o.n⟩ : BOp)⟩, turn_set hT i ⟨hoo.code, hoo.d, mid_small (by dsimp only; omega), hoo.b, hoo.n⟩⟩ (ent_drop (aI rfl (aI rfl trivial)) (aI ((by trivial)) (aI ((by trivial)) (aI ((aI rfl (Or.inl rfl))) (aI ((aI rfl (aI rfl (aI rfl rfl)))) (aI ((aI rfl (aI rfl (aI rfl rfl)))) (aI ((aI rfl (aI rfl (aI ((List.length_set).symm) (by exact ops_setF (l := b'.ops) (i := i) (o := o) 2 (.int .i64 (n.tmod 30 - 1)) (⟨o.code, o.d, n.tmod 30 - 1, o.b, o.n⟩ : BOp) (by rw [Int.toNat_natCast]; rfl) ho (by omega) rfl))))) (aI ((aI rfl (Or.inl rfl))) trivial))))))) rfl rfl)
    refine satq_seq ?_
    conv => whnf
    refine satq_cond rfl (fun _ => ?_) (fun _ => ?_)
    · refine satq_vc ?_
      conv => whnf
      refine ⟨by omega, _, rfl, ?_⟩
      conv => whnf
      refine ⟨_, wr64 (by omega), ?_⟩
      conv => whnf
      refine ⟨⟨by omega, by omega⟩, ?_⟩
      conv => whnf
      refine ⟨?_, ?_⟩
      · show (i : Int).toNat * 5 + 3 + 1 ≤ (b'.ops.flatMap opC).length
        rw [ops_length, Int.toNat_natCast]; omega
      conv => whnf
      refine atq_block ?_
      exact atq_mid ⟨⟨b'.at_, b'.pages, b'.ops.set i (⟨o.code, o.d, o.a, n.tmod 30 - 1, o.n⟩ : BOp)⟩, turn_set hT i ⟨hoo.code, hoo.d, hoo.a, mid_small (by dsimp only; omega), hoo.n⟩⟩ (ent_drop (aI rfl (aI rfl trivial)) (aI ((by trivial)) (aI ((by trivial)) (aI ((aI rfl (Or.inl rfl))) (aI ((aI rfl (aI rfl (aI rfl rfl)))) (aI ((aI rfl (aI rfl (aI rfl rfl)))) (aI ((aI rfl (aI rfl (aI ((List.length_set).symm) (by exact ops_setF (l := b'.ops) (i := i) (o := o) 3 (.int .i64 (n.tmod 30 - 1)) (⟨o.code, o.d, o.a, n.tmod 30 - 1, o.n⟩ : BOp) (by rw [Int.toNat_natCast]; rfl) ho (by omega) rfl))))) (aI ((aI rfl (Or.inl rfl))) trivial))))))) rfl rfl)
    refine satq_seq ?_
    conv => whnf
    refine satq_cond rfl (fun _ => ?_) (fun _ => ?_)
    · refine satq_vc ?_
      refine sat_tail 16 mixed (by kernel_rfl) ?_
      conv => whnf
      refine ⟨⟨by omega, by omega⟩, ?_⟩
      conv => whnf
      rw [row_get (j := 4) ho rfl (by omega)]
      rotate_left
      · rw [Int.toNat_natCast]; rfl
      conv => whnf
      refine ⟨by omega, _, rfl, ?_⟩
      conv => whnf
      refine ⟨_, wr32 _, ?_⟩
      conv => whnf
      refine ⟨_, wr32 _, ?_⟩
      conv => whnf
      refine ⟨_, wr32 _, ?_⟩
      conv => whnf
      refine ⟨⟨by omega, by omega⟩, ?_⟩
      conv => whnf
      refine ⟨?_, ?_⟩
      · show (i : Int).toNat * 5 + 4 + 1 ≤ (b'.ops.flatMap opC).length
        rw [ops_length, Int.toNat_natCast]; omega
      conv => whnf
      refine atq_block ?_
      exact atq_mid ⟨⟨b'.at_, b'.pages, b'.ops.set i (⟨o.code, o.d, o.a, o.b, (((o.n + n.tmod 3 % 4294967296) % 4294967296 - 1) % 4294967296)⟩ : BOp)⟩, turn_set hT i ⟨hoo.code, hoo.d, hoo.a, hoo.b, word_mod _⟩⟩ (ent_drop (aI rfl (aI rfl trivial)) (aI ((by trivial)) (aI ((by trivial)) (aI ((aI rfl (Or.inl rfl))) (aI ((aI rfl (aI rfl (aI rfl rfl)))) (aI ((aI rfl (aI rfl (aI rfl rfl)))) (aI ((aI rfl (aI rfl (aI ((List.length_set).symm) (by exact ops_setF (l := b'.ops) (i := i) (o := o) 4 (.int .u32 (((o.n + n.tmod 3 % 4294967296) % 4294967296 - 1) % 4294967296)) (⟨o.code, o.d, o.a, o.b, (((o.n + n.tmod 3 % 4294967296) % 4294967296 - 1) % 4294967296)⟩ : BOp) (by rw [Int.toNat_natCast]; rfl) ho (by omega) rfl))))) (aI ((aI rfl (Or.inl rfl))) trivial))))))) rfl rfl)
    refine satq_seq ?_
    conv => whnf
    refine satq_cond rfl (fun _ => ?_) (fun _ => ?_)
    · refine satq_conc fun r w' hR => ?_
      obtain ⟨ob, C, cur, k1, k2, k3, k4, hR2⟩ := ops_conc hR (l := b'.ops) rfl rfl hpos
      refine ⟨_, _, hR2, fun a ha => ha, ?_⟩
      clear hR hR2
      have hxs : ∀ (j : Nat) (u : Value), (b'.ops.flatMap opC)[j]? = some u → cur[j]? = some u := fun j u hj => by
        rw [← k4, List.getElem?_take] at hj
        split at hj
        · exact hj
        · cases hj
      refine satq_seq ?_
      conv => whnf
      refine ⟨((i + 1 : Nat) : Int), by rw [wr64 (by omega)]; omega, ?_⟩
      conv => whnf
      refine op_slice_v (i + 1) b'.ops.length 5 rfl rfl rfl rfl rfl (.inr ⟨_, .i64, rfl, rfl⟩) (.inl ⟨rfl, rfl⟩) (by omega) k1 rfl ?_
      conv => whnf
      refine satq_vc ?_
      conv => whnf
      refine op_slice_hi (q := .i64) i rfl rfl rfl rfl rfl (by omega) rfl ?_
      conv => whnf
      refine op_app_obj 5 ob i C 5 cur ((b'.ops.drop (i + 1)).flatMap opC) rfl rfl rfl rfl rfl rfl (by omega) (by decide) rfl rfl rfl (Nat.zero_le _) k3 (by omega) k2 (by rw [ops_length, List.length_drop]) (fun j u hj => ?_) (ops_one _) (by omega) rfl ?_
      · rw [← ops_drop, List.getElem?_drop] at hj
        have hlt : (i + 1) * 5 + j < b'.ops.length * 5 := by
          rcases Nat.lt_or_ge ((i + 1) * 5 + j) (b'.ops.length * 5) with h | h
          · exact h
          · rw [List.getElem?_eq_none (by rw [ops_length]; omega)] at hj; cases hj
        rw [if_neg (by omega)]
        exact ⟨(i + 1) * 5, by rw [Option.map_some, addr_add, Nat.zero_add], hxs _ _ hj⟩
      conv => whnf
      refine atq_block ?_
      have e0 : cur.take (i * 5) = (b'.ops.take i).flatMap opC := by rw [← ops_take, ← k4, List.take_take, Nat.min_eq_left (by omega)]
      exact atq_mid ⟨⟨b'.at_, b'.pages, b'.ops.take i ++ b'.ops.drop (i + 1)⟩, turn_ops hT (fun p hp => by
        rcases List.mem_append.1 hp with hp | hp
        · exact hb.ops p (List.mem_of_mem_take hp)
        · exact hb.ops p (List.mem_of_mem_drop hp)) (by simp; omega)⟩ (ent_drop (aI rfl (aI rfl trivial)) (aI ((by trivial)) (aI ((by trivial)) (aI ((aI rfl (Or.inl rfl))) (aI ((aI rfl (aI rfl (aI rfl rfl)))) (aI ((aI rfl (aI rfl (aI rfl rfl)))) (aI ((aI rfl (aI rfl (aI (by simp; omega) (by rw [e0]; simp))))) (aI ((aI rfl (Or.inl rfl))) trivial))))))) rfl rfl)
    refine satq_seq ?_
    conv => whnf
    refine satq_cond rfl (fun _ => ?_) (fun _ => ?_)
    · refine satq_seq ?_
      conv => whnf
      refine ⟨⟨by omega, by omega⟩, ?_⟩
      conv => whnf
      rw [cut_ops ho]
      rotate_left
      · rw [Int.toNat_natCast]; rfl
      · rfl
      conv => whnf
      refine satq_conc fun r w' hR => ?_
      obtain ⟨ob, C, cur, k1, k2, k3, k4, hR2⟩ := ops_conc hR (l := b'.ops) rfl rfl hpos
      refine ⟨_, _, hR2, fun a ha => ha, ?_⟩
      clear hR hR2
      have hxs : ∀ (j : Nat) (u : Value), (b'.ops.flatMap opC)[j]? = some u → cur[j]? = some u := fun j u hj => by
        rw [← k4, List.getElem?_take] at hj
        split at hj
        · exact hj
        · cases hj
      refine satq_seq ?_
      conv => whnf
      refine satq_as (ent_row 10 53 5 rfl) ?_
      refine satq_seq ?_
      conv => whnf
      refine op_slice_hi (q := .i64) i rfl rfl rfl rfl rfl (by omega) rfl ?_
      conv => whnf
      refine op_app_from 5 8 ob 5 cur ((b'.ops.take i).flatMap opC) rfl rfl rfl rfl rfl rfl (by omega) (by decide) rfl rfl rfl rfl (Nat.zero_le _) (by rw [ops_length, List.length_take, Nat.min_eq_left (by omega)]) (fun j u hj => ?_) (ops_one _) (by omega) rfl ?_
      · rw [← ops_take, List.getElem?_take] at hj
        split at hj
        · exact ⟨0, rfl, by rw [Nat.zero_add]; exact hxs _ _ hj⟩
        · cases hj
      conv => whnf
      refine satq_seq ?_
      conv => whnf
      refine appK_sound rfl ?_ rfl
      conv => whnf
      refine ⟨by omega, ?_⟩
      conv => whnf
      refine satq_vc ?_
      conv => whnf
      refine op_slice_v i b'.ops.length 5 rfl rfl rfl rfl rfl (.inr ⟨_, .i64, rfl, rfl⟩) (.inl ⟨rfl, rfl⟩) (by omega) k1 rfl ?_
      conv => whnf
      refine op_app_from 5 8 ob 5 cur ((b'.ops.drop i).flatMap opC) rfl rfl rfl rfl rfl rfl (by omega) (by decide) rfl rfl rfl rfl (Nat.zero_le _) (by rw [ops_length, List.length_drop]) (fun j u hj => ?_) (ops_one _) (by omega) rfl ?_
      · rw [← ops_drop, List.getElem?_drop] at hj
        rw [if_neg (by omega)]
        exact ⟨i * 5, by rw [Option.map_some, addr_add, Nat.zero_add], hxs _ _ hj⟩
      conv => whnf
      refine atq_block ?_
      exact atq_mid ⟨⟨b'.at_, b'.pages, b'.ops.take i ++ o :: b'.ops.drop i⟩, turn_ops hT (fun p hp => by
        rcases List.mem_append.1 hp with hp | hp
        · exact hb.ops p (List.mem_of_mem_take hp)
        · rcases List.mem_cons.1 hp with rfl | hp
          · exact hoo
          · exact hb.ops p (List.mem_of_mem_drop hp)) (by simp; omega)⟩
        (ent_ren [0, 1, 2, 3, 4, 8, 6] (aI rfl (aI rfl trivial)) (aI ((Exists.intro _ (aI rfl (by trivial)))) (aI ((Exists.intro _ (aI rfl (by trivial)))) (aI ((Exists.intro _ (aI rfl (aI rfl (Or.inl rfl))))) (aI ((Exists.intro _ (aI rfl (aI rfl (aI rfl (aI rfl rfl)))))) (aI ((Exists.intro _ (aI rfl (aI rfl (aI rfl (aI rfl rfl)))))) (aI ((Exists.intro _ (aI rfl (aI rfl (aI rfl (aI (by simp; omega) (by simp [opC]))))))) (aI ((Exists.intro _ (aI rfl (aI rfl (Or.inl rfl))))) trivial))))))) rfl rfl rfl rfl rfl)
    refine satq_seq ?_
    conv => whnf
    refine satq_cond rfl (fun _ => ?_) (fun _ => ?_)
    · refine satq_seq ?_
      conv => whnf
      obtain ⟨k, hk, hkl⟩ : ∃ k : Nat, n.tmod (b'.ops.length : Int) = (k : Int) ∧ k < b'.ops.length := by
        have e1 := Int.tmod_nonneg (b'.ops.length : Int) hn0
        have e2 := Int.tmod_lt_of_pos n (b := (b'.ops.length : Int)) (by omega)
        exact ⟨(n.tmod (b'.ops.length : Int)).toNat, by omega, by omega⟩
      obtain ⟨o2, ho2⟩ : ∃ o, b'.ops[k]? = some o := ⟨_, List.getElem?_eq_getElem hkl⟩
      refine ⟨by omega, (k : Int), hk, ?_⟩
      conv => whnf
      refine satq_seq ?_
      conv => whnf
      refine ⟨⟨by omega, by omega⟩, ?_⟩
      conv => whnf
      rw [cut_ops ho]
      rotate_left
      · rw [Int.toNat_natCast]; rfl
      · rfl
      conv => whnf
      refine satq_vc ?_
      conv => whnf
      refine sat_tail 9 mixed (by kernel_rfl) ?_
      conv => whnf
      refine ⟨⟨by omega, by omega⟩, ?_⟩
      conv => whnf
      rw [cut_ops ho2]
      rotate_left
      · rw [Int.toNat_natCast]; rfl
      · rfl
      conv => whnf
      refine ⟨⟨by omega, by omega⟩, ?_⟩
      conv => whnf
      refine ⟨?_, ?_⟩
      · show (i : Int).toNat * 5 + 5 ≤ (b'.ops.flatMap opC).length
        rw [ops_length, Int.toNat_natCast]; omega
      conv => whnf
      refine ⟨⟨by omega, by omega⟩, ?_⟩
      conv => whnf
      refine ⟨?_, ?_⟩
      · show (k : Int).toNat * 5 + 5 ≤ (setAll (b'.ops.flatMap opC) ((i : Int).toNat * 5) (opC o2)).length
        rw [setAll_length, ops_length, Int.toNat_natCast]; omega
      conv => whnf
      refine atq_block ?_
      have e1 : setAll (List.flatMap opC b'.ops) ((i : Int).toNat * 5) (opC o2) = (b'.ops.set i o2).flatMap opC := ops_setAt (l := b'.ops) o2 (congrArg (· * 5) (Int.toNat_natCast i)) hil
      have e2 : setAll (setAll (List.flatMap opC b'.ops) ((i : Int).toNat * 5) (opC o2)) ((k : Int).toNat * 5) (opC o) = ((b'.ops.set i o2).set k o).flatMap opC := by
        rw [e1]; exact ops_setAt (l := b'.ops.set i o2) o (congrArg (· * 5) (Int.toNat_natCast k)) (by rw [List.length_set]; exact hkl)
      exact atq_mid ⟨⟨b'.at_, b'.pages, (b'.ops.set i o2).set k o⟩, turn_set (turn_set hT i (hb.ops o2 (List.mem_of_getElem? ho2))) k hoo⟩ (ent_drop (aI rfl (aI rfl trivial)) (aI ((by trivial)) (aI ((by trivial)) (aI ((aI rfl (Or.inl rfl))) (aI ((aI rfl (aI rfl (aI rfl rfl)))) (aI ((aI rfl (aI rfl (aI rfl rfl)))) (aI ((aI rfl (aI rfl (aI (by simp) (e2))))) (aI ((aI rfl (Or.inl rfl))) trivial))))))) rfl rfl)
    refine satq_seq ?_
    conv => whnf
    refine satq_cond rfl (fun _ => ?_) (fun _ => ?_)
    · refine satq_vc ?_
      conv => whnf
      refine ⟨_, wr32 _, ?_⟩
      conv => whnf
      refine appK_sound rfl ?_ rfl
      conv => whnf
      refine ⟨by omega, ?_⟩
      conv => whnf
      refine atq_block ?_
      exact atq_mid ⟨⟨b'.at_ ++ [n % 4294967296], b'.pages, b'.ops⟩, ⟨⟨fun x hx => by
        rcases List.mem_append.1 hx with hx | hx
        · exact hb.at_ x hx
        · simp at hx; subst hx; exact word_mod _, hb.pages, hb.ops, by simp; omega, hb.lpages, hb.lops⟩, by simp; omega, by show b'.pages.length ≤ _; omega, by show b'.ops.length ≤ _; omega⟩⟩ (ent_drop (aI rfl (aI rfl trivial)) (aI ((by trivial)) (aI ((by trivial)) (aI ((aI rfl (Or.inl rfl))) (aI ((aI rfl (aI rfl (aI (by simp) (by simp))))) (aI ((aI rfl (aI rfl (aI rfl rfl)))) (aI ((aI rfl (aI rfl (aI rfl rfl)))) (aI ((aI rfl (Or.inl rfl))) trivial))))))) rfl rfl)
    refine satq_seq ?_
    conv => whnf
    refine satq_cond rfl (fun _ => ?_) (fun _ => ?_)
    · refine satq_vc ?_
      conv => whnf
      have m5 : 0 ≤ n.tmod 5000 ∧ n.tmod 5000 < 5000 := ⟨Int.tmod_nonneg _ hn0, Int.tmod_lt_of_pos _ (by omega)⟩
      refine ⟨by omega, _, rfl, ?_⟩
      conv => whnf
      refine ⟨_, wr64 (by omega), ?_⟩
      conv => whnf
      refine appK_sound rfl ?_ rfl
      conv => whnf
      refine ⟨by omega, ?_⟩
      conv => whnf
      refine atq_block ?_
      exact atq_mid ⟨⟨b'.at_, b'.pages ++ [n.tmod 5000 - 400], b'.ops⟩, ⟨⟨hb.at_, fun x hx => by
        rcases List.mem_append.1 hx with hx | hx
        · exact hb.pages x hx
        · simp at hx; subst hx; unfold mid; omega, hb.ops, hb.lat, by simp; omega, hb.lops⟩, by show b'.at_.length ≤ _; omega, by simp; omega, by show b'.ops.length ≤ _; omega⟩⟩ (ent_drop (aI rfl (aI rfl trivial)) (aI ((by trivial)) (aI ((by trivial)) (aI ((aI rfl (Or.inl rfl))) (aI ((aI rfl (aI rfl (aI rfl rfl)))) (aI ((aI rfl (aI rfl (aI (by simp) (by simp))))) (aI ((aI rfl (aI rfl (aI rfl rfl)))) (aI ((aI rfl (Or.inl rfl))) trivial))))))) rfl rfl)
    · refine satq_vc ?_
      refine sat_tail 8 mixed (by kernel_rfl) ?_
      conv => whnf
      refine ⟨_, wr64 (by omega), ?_⟩
      conv => whnf
      obtain ⟨k, hk, hkl⟩ : ∃ k : Nat, n.tmod ((b'.at_.length : Int) + 1) = (k : Int) ∧ k ≤ b'.at_.length := by
        have e1 := Int.tmod_nonneg ((b'.at_.length : Int) + 1) hn0
        have e2 := Int.tmod_lt_of_pos n (b := ((b'.at_.length : Int) + 1)) (by omega)
        exact ⟨(n.tmod ((b'.at_.length : Int) + 1)).toNat, by omega, by omega⟩
      refine ⟨by omega, (k : Int), hk, ?_⟩
      conv => whnf
      refine op_reslice (size := 1) 3 k rfl rfl rfl rfl rfl rfl (q := .i64) rfl hkl (Nat.zero_le _) rfl ?_
      conv => whnf
      refine atq_block ?_
      exact atq_mid ⟨⟨b'.at_.take k, b'.pages, b'.ops⟩, ⟨⟨fun x hx => hb.at_ x (List.mem_of_mem_take hx), hb.pages, hb.ops, by rw [List.length_take]; omega, hb.lpages, hb.lops⟩, by show (b'.at_.take k).length ≤ _; rw [List.length_take]; omega, by show b'.pages.length ≤ _; omega, by show b'.ops.length ≤ _; omega⟩⟩ (ent_drop (aI rfl (aI rfl trivial)) (aI ((by trivial)) (aI ((by trivial)) (aI ((aI rfl (Or.inl rfl))) (aI ((aI rfl (aI rfl (aI (by simp; omega) (by simp))))) (aI ((aI rfl (aI rfl (aI rfl rfl)))) (aI ((aI rfl (aI rfl (aI rfl rfl)))) (aI ((aI rfl (Or.inl rfl))) trivial))))))) rfl rfl)
  obtain ⟨y, hy⟩ := y
  dsimp only
  refine satq_vc ?_
  conv => whnf
  refine atq_ret ?_
  conv => whnf
  exact fin_rows3 3 4 5 y (by omega) (by omega) (by omega) (.inl ⟨rfl, rfl⟩) (.inl ⟨rfl, rfl⟩) (.inl ⟨rfl, rfl⟩) fun w' v1 v2 v3 h3 hB => ⟨y, v1, v2, v3, hy, rfl, h3, hB⟩
end Go.Proofs.Ytmjfgnnefcimiaa
namespace Go.Proofs.Ytmjfgnnefcimiaa
open Go.RowKit

theorem opt_none {mu : Blk → Nat} {b : Blk} (h : b.ops = []) : optAll mu b = [] := by
  have hv : validB b = false := by
    cases hv : validB b
    · rfl
    · have := (valid_pos hv).1; rw [h] at this; simp at this
  unfold optAll; rw [hv]; exact h
section
variable {w0 : World} {S : List Ow} {K : AV → List Ow → Prop} {b : Blk} {A1 A2 A3 : Option Addr} {n1 n2 n3 c1 c2 c3 : Nat}
end
/-- A block of plain slices and a view that a cell holds, seen as plain memory. -/
theorem own_blkView {w0 : World} {G : Gs} {S : List Ow} {r : Env} {w : World} (hR : Rel w0 G S r w) (i io : Nat) {t : TypeId} {s1 s2 : Value} {l : List BOp} (hi : S[i]? = some (.cells t [.v s1, .v s2, .row io])) (ho : S[io]? = some (.view viewT l.length (l.flatMap opC))) :
    ∃ g A3 c3, r.blk i = some g ∧ CellsAt w Gs.nil g 0 [s1, s2, .slice A3 l.length c3] ∧ OpsAt w w.heap.size A3 l ∧ l.length ≤ c3 ∧ c3 ≤ maxLen := by
  obtain ⟨g, us, h1, h2, h3⟩ := own_cellsAt hR i hi
  simp only [denL, CV.den] at h2
  obtain ⟨u1, l1, rfl, rfl, u2, l2, rfl, rfl, u3, l3, rfl, e3, rfl⟩ := h2
  obtain ⟨A3, c3, rfl, s3, k1, k2, _⟩ := viewAt hR ho e3
  exact ⟨g, A3, c3, h1, h3, s3, k1, k2⟩
theorem cells_later {w w' : World} {g o : Nat} {xs : List Value} (h : CellsAt w Gs.nil g o xs) (hB : Below w.heap.size w w') : CellsAt w' Gs.nil g o xs := ⟨Nat.lt_of_lt_of_le h.1 hB.size, h.2.1, fun j u hj => (hB.cell h.1).trans (h.2.2 j u hj)⟩
end Go.Proofs.Ytmjfgnnefcimiaa
namespace Go.Proofs.Ytmjfgnnefcimiaa
open Go.RowKit

def getV (vs : List Int) (i : Int) : Int := (vs[i.toNat]?).getD 0
def szN (c : Int) : Nat := if c = 17 ∨ c = 19 then 1 else 4
/-- What an operation leaves: the variables, whether the block goes on, the memory. -/
structure Ap where
  vs : List Int
  stays : Bool
  mem : MemP
def applyP (o : BOp) (vs : List Int) (M : MemP) : Ap :=
  if o.code = 1 then ⟨vs.set o.d.toNat o.n, true, M⟩
  else if o.code = 2 then ⟨vs.set o.d.toNat (getV vs o.a), true, M⟩
  else if o.code = 16 ∨ o.code = 17 then (match M.bad ((getV vs o.a + o.n) % 4294967296) 1 0 (szN o.code) with
    | none => ⟨vs.set o.d.toNat (M.load ((getV vs o.a + o.n) % 4294967296) 0 (szN o.code)), true, M⟩
    | some _ => ⟨vs, false, M⟩)
  else if o.code = 18 ∨ o.code = 19 then ⟨vs, (M.bad ((getV vs o.a + o.n) % 4294967296) 2 0 (szN o.code)).isNone, M.storeM ((getV vs o.a + o.n) % 4294967296) (szN o.code) (getV vs o.b)⟩
  else if o.code = 21 then ⟨vs, getV vs o.a != 0, M⟩
  else if o.code = 22 then ⟨vs, false, M⟩
  else if isBin o.code = true then ⟨vs.set o.d.toNat (wordOp o.code (getV vs o.a) (getV vs o.b)), true, M⟩
  else ⟨vs, true, M⟩
structure Outc where
  leaves : Bool
  index : Int
  done : Int
  pc : Int
  vars : List Int
def Outc.zero : Outc := ⟨false, 0, 0, 0, List.replicate 28 0⟩
structure EvR where
  out : Outc
  mem : MemP
def markI (o : BOp) (i : Int) : Int := if o.code = 20 then o.n else i
def evalL (ats : List Int) : List BOp → Int → List Int → MemP → EvR
  | [], _, _, M => ⟨Outc.zero, M⟩
  | o :: l, i, vs, M =>
    if o.code = 24 ∨ (o.code = 23 ∧ getV vs o.a ≠ 0) then ⟨⟨false, 0, ats.length, o.n, guestsL vs⟩, M⟩
    else if o.code = 25 then ⟨⟨false, 0, ats.length, getV vs o.a, guestsL vs⟩, M⟩
    else if (applyP o vs M).stays = true then evalL ats l (markI o i) (applyP o vs M).vs (applyP o vs M).mem
    else ⟨⟨true, markI o i, markI o i, (ats[(markI o i).toNat]?).getD 0, guestsL vs⟩, (applyP o vs M).mem⟩
def evalBlk (b : Blk) (vs : List Int) (M : MemP) : EvR := if validB b = true then evalL b.at_ b.ops 0 vs M else ⟨Outc.zero, M⟩
structure VarsOk (vs : List Int) : Prop where
  len : vs.length = 28
  word : ∀ x ∈ vs, word x
theorem getV_word {vs : List Int} (h : VarsOk vs) (i : Int) : word (getV vs i) := by
  unfold getV
  cases hi : vs[i.toNat]? with
  | none => exact word0
  | some x => exact h.word x (List.mem_of_getElem? hi)
theorem getV_set_ne {vs : List Int} {d v x : Int} (hd : 0 ≤ d) (hv : 0 ≤ v) (hne : v ≠ d) : getV (vs.set d.toNat x) v = getV vs v := by
  unfold getV; rw [List.getElem?_set_ne (by omega)]
theorem getV_set {vs : List Int} (h : VarsOk vs) {d x : Int} (hd : 0 ≤ d ∧ d < 28) : getV (vs.set d.toNat x) d = x := by
  unfold getV; rw [List.getElem?_set_self (by rw [h.len]; omega)]; rfl
theorem set_ok {vs : List Int} (h : VarsOk vs) (i : Nat) {x : Int} (hx : Go.Proofs.Ytmjfgnnefcimiaa.word x) : VarsOk (vs.set i x) := ⟨by rw [List.length_set]; exact h.len, fun y hy => by
  rcases List.mem_or_eq_of_mem_set hy with h1 | h1
  · exact h.word y h1
  · rw [h1]; exact hx⟩
theorem set_getV {vs : List Int} (h : VarsOk vs) {d : Int} (hd : 0 ≤ d ∧ d < 28) : vs.set d.toNat (getV vs d) = vs := by
  have hlt : d.toNat < vs.length := by rw [h.len]; omega
  unfold getV
  rw [List.getElem?_eq_getElem hlt]
  exact List.set_getElem_self hlt
theorem applyP_ok {o : BOp} {vs : List Int} {M : MemP} (h : VarsOk vs) (hn : word o.n) : VarsOk (applyP o vs M).vs := by
  unfold applyP
  split
  · exact set_ok h _ hn
  split
  · exact set_ok h _ (getV_word h _)
  split
  · split
    · exact set_ok h _ (load_word M _ _ _)
    · exact h
  split
  · exact h
  split
  · exact h
  split
  · exact h
  split
  · exact set_ok h _ (wordOp_word (getV_word h _) (getV_word h _))
  · exact h
/-- The fields of a well-formed operation. -/
theorem formed_d {o : BOp} (hf : formedB o = true) (hD : hasD o.code = true) : 0 ≤ o.d ∧ o.d < 28 ∧ writes o = o.d := by
  have h2 := (formed_split.1 hf).2.1
  rw [hD] at h2
  simp [fieldB] at h2
  refine ⟨by omega, by omega, ?_⟩
  unfold writes; rw [hD]; rfl
theorem formed_a {o : BOp} (hf : formedB o = true) : 0 ≤ o.a ∧ o.a < 28 := by
  have h := (formed_split.1 hf).2.2.1
  cases hA : hasA o.code <;> rw [hA] at h <;> simp [fieldB] at h <;> omega
theorem formed_b {o : BOp} (hf : formedB o = true) : 0 ≤ o.b ∧ o.b < 28 := by
  have h := (formed_split.1 hf).2.2.2.1
  cases hB : hasB o.code <;> rw [hB] at h <;> simp [fieldB] at h <;> omega
theorem formed_d' {o : BOp} (hf : formedB o = true) : 0 ≤ o.d ∧ o.d < 28 := by
  have h := (formed_split.1 hf).2.1
  cases hD : hasD o.code <;> rw [hD] at h <;> simp [fieldB] at h <;> omega
/-- What an operation does to the variables: at most it sets the one that it writes. -/
theorem applyP_vs {o : BOp} (hf : formedB o = true) (vs : List Int) (M : MemP) : (applyP o vs M).vs = vs ∨ (hasD o.code = true ∧ writes o = o.d ∧ ∃ x, (applyP o vs M).vs = vs.set o.d.toNat x) := by
  have hD : hasD o.code = true → writes o = o.d := fun h => (formed_d hf h).2.2
  have hd : 1 ≤ o.code → o.code ≤ 17 → hasD o.code = true := fun h1 h2 => by unfold hasD; rw [decide_eq_true_eq]; exact ⟨h1, h2⟩
  unfold applyP
  split
  · rename_i h; have := hd (by omega) (by omega); exact .inr ⟨this, hD this, _, rfl⟩
  split
  · rename_i h; have := hd (by omega) (by omega); exact .inr ⟨this, hD this, _, rfl⟩
  split
  · rename_i h; have := hd (by omega) (by omega)
    split
    · exact .inr ⟨this, hD this, _, rfl⟩
    · exact .inl rfl
  split
  · exact .inl rfl
  split
  · exact .inl rfl
  split
  · exact .inl rfl
  split
  · rename_i h
    have h' : 3 ≤ o.code ∧ o.code ≤ 15 := by unfold isBin at h; simpa using h
    have := hd (by omega) (by omega); exact .inr ⟨this, hD this, _, rfl⟩
  · exact .inl rfl
theorem applyP_other {o : BOp} (hf : formedB o = true) (vs : List Int) (M : MemP) {v : Int} (hv : 0 ≤ v) (hne : writes o ≠ v) : getV (applyP o vs M).vs v = getV vs v := by
  rcases applyP_vs hf vs M with h | ⟨h1, h2, x, h⟩
  · rw [h]
  · rw [h]
    have := formed_d' hf
    exact getV_set_ne this.1 hv (fun e => hne (by rw [h2, e]))
/-- A pure operation: one variable is set. -/
theorem applyP_const {o : BOp} (h : o.code = 1) (vs : List Int) (M : MemP) : applyP o vs M = ⟨vs.set o.d.toNat o.n, true, M⟩ := by unfold applyP; rw [if_pos h]
theorem applyP_move {o : BOp} (h : o.code = 2) (vs : List Int) (M : MemP) : applyP o vs M = ⟨vs.set o.d.toNat (getV vs o.a), true, M⟩ := by unfold applyP; rw [if_neg (by omega), if_pos h]
theorem applyP_bin {o : BOp} (h : isBin o.code = true) (vs : List Int) (M : MemP) : applyP o vs M = ⟨vs.set o.d.toNat (wordOp o.code (getV vs o.a) (getV vs o.b)), true, M⟩ := by
  have h' : 3 ≤ o.code ∧ o.code ≤ 15 := by unfold isBin at h; simpa using h
  unfold applyP; rw [if_neg (by omega), if_neg (by omega), if_neg (by omega), if_neg (by omega), if_neg (by omega), if_neg (by omega), if_pos h]
theorem applyP_none {o : BOp} (h : o.code = 20 ∨ o.code = 23) (vs : List Int) (M : MemP) : applyP o vs M = ⟨vs, true, M⟩ := by
  have hb : ¬ isBin o.code = true := by unfold isBin; rw [decide_eq_true_eq]; omega
  unfold applyP; rw [if_neg (by omega), if_neg (by omega), if_neg (by omega), if_neg (by omega), if_neg (by omega), if_neg (by omega), if_neg hb]
theorem applyP_guard {o : BOp} (h : o.code = 21) (vs : List Int) (M : MemP) : applyP o vs M = ⟨vs, getV vs o.a != 0, M⟩ := by
  unfold applyP; rw [if_neg (by omega), if_neg (by omega), if_neg (by omega), if_neg (by omega), if_pos h]
theorem evalL_go {ats : List Int} {o : BOp} {l : List BOp} {i : Int} {vs : List Int} {M : MemP} (h1 : ¬ (o.code = 24 ∨ (o.code = 23 ∧ getV vs o.a ≠ 0))) (h2 : o.code ≠ 25) (h3 : (applyP o vs M).stays = true) : evalL ats (o :: l) i vs M = evalL ats l (markI o i) (applyP o vs M).vs (applyP o vs M).mem := by
  show (if _ then _ else _) = _
  rw [if_neg h1, if_neg h2, if_pos h3]
/-- An operation in the place of another that does the same. -/
theorem evalL_head {ats : List Int} {o p : BOp} {l m : List BOp} {i : Int} {vs : List Int} {M : MemP} (hc : p.code = o.code) (hn : p.n = o.n) (ha : getV vs p.a = getV vs o.a) (hA : applyP p vs M = applyP o vs M) (hl : evalL ats l (markI o i) (applyP o vs M).vs (applyP o vs M).mem = evalL ats m (markI o i) (applyP o vs M).vs (applyP o vs M).mem) : evalL ats (p :: l) i vs M = evalL ats (o :: m) i vs M := by
  have hm : markI p i = markI o i := by unfold markI; rw [hc, hn]
  show (if _ then _ else _) = (if _ then _ else _)
  rw [hc, hn, ha, hA, hm, hl]

/-! Fold. -/
def FoldSem (f : Int → Option Int) (vs : List Int) : Prop := ∀ v x, 0 ≤ v → v < 28 → f v = some x → getV vs v = x
theorem foldSem_none (vs : List Int) : FoldSem noneF vs := nofun
theorem foldSem_mark {f : Int → Option Int} {vs : List Int} (h : FoldSem f vs) (o : BOp) : FoldSem (foldMark f o) vs := by
  unfold foldMark
  split
  · intro v x h0 h1 hv
    unfold fdel at hv
    split at hv
    · cases hv
    · exact h v x h0 h1 hv
  · exact h
theorem foldSem_upd {f : Int → Option Int} {vs : List Int} (h : FoldSem f vs) (hv : VarsOk vs) {p : BOp} (hf : formedB p = true) (M : MemP) : FoldSem (foldUpd f p) (applyP p vs M).vs := by
  have key : FoldSem (if 0 ≤ writes p then mdel f (writes p) else f) (applyP p vs M).vs := by
    intro v x h0 h1 hx
    have hne : writes p ≠ v ∧ f v = some x := by
      split at hx
      · unfold mdel at hx
        split at hx
        · cases hx
        · rename_i hne; exact ⟨fun e => hne (by rw [e]), hx⟩
      · exact ⟨fun e => by omega, hx⟩
    rw [applyP_other hf vs M h0 hne.1]
    exact h v x h0 h1 hne.2
  unfold foldUpd
  split
  · rename_i hc
    have hc' : p.code = 1 := by simpa using hc
    have hD : hasD p.code = true := by rw [hc']; rfl
    obtain ⟨d0, d1, dw⟩ := formed_d hf hD
    intro v x h0 h1 hx
    unfold mput at hx
    split at hx
    · rename_i he
      injection hx with hx
      rw [applyP_const hc', he, dw, ← hx]
      exact getV_set hv ⟨d0, d1⟩
    · exact key v x h0 h1 hx
  · exact key
theorem wordOp_zero {c a : Int} (hc : memI c [3, 4, 6, 7, 8, 9, 10] = true) (ha : word a) : wordOp c a 0 = a := by
  have ha' : 0 ≤ a ∧ a < 4294967296 := ha
  have hz : ((0 : Int) % 32).toNat = 0 := rfl
  have h1 : (2 : Int) ^ 0 = 1 := rfl
  simp only [memI, List.any_cons, List.any_nil, Bool.or_false, Bool.or_eq_true, beq_iff_eq] at hc
  rcases hc with h | h | h | h | h | h | h <;> subst h
  · show (a + 0) % 4294967296 = a; omega
  · show (a - 0) % 4294967296 = a; omega
  · show orI a 0 = a; unfold orI; simp; omega
  · show xorI a 0 = a; unfold xorI; simp; omega
  · show a * 2 ^ ((0 : Int) % 32).toNat % 4294967296 = a; rw [hz, h1]; omega
  · show a / 2 ^ ((0 : Int) % 32).toNat = a; rw [hz, h1]; omega
  · show signedI a / 2 ^ ((0 : Int) % 32).toNat % 4294967296 = a
    rw [hz, h1]
    unfold signedI
    split <;> omega
theorem const_formed {d n : Int} (hd : fieldB true d = true) : formedB ⟨1, d, 0, 0, n⟩ = true := formed_split.2 ⟨rfl, hd, rfl, rfl, rfl⟩
theorem move_formed {d a : Int} (hd : fieldB true d = true) (ha : fieldB true a = true) : formedB ⟨2, d, a, 0, 0⟩ = true := formed_split.2 ⟨rfl, hd, ha, rfl, rfl⟩
theorem field_d {o : BOp} (hf : formedB o = true) (hD : hasD o.code = true) : fieldB true o.d = true := by have := (formed_split.1 hf).2.1; rwa [hD] at this
theorem field_a {o : BOp} (hf : formedB o = true) (hA : hasA o.code = true) : fieldB true o.a = true := by have := (formed_split.1 hf).2.2.1; rwa [hA] at this
theorem fold_eval (ats : List Int) : ∀ (l : List BOp) (f : Int → Option Int) (i : Int) (vs : List Int) (M : MemP), VarsOk vs → FoldSem f vs → (∀ o ∈ l, formedB o = true) → (∀ o ∈ l, o.ok) → evalL ats (foldRun f l) i vs M = evalL ats l i vs M
  | [], _, _, _, _, _, _, _, _ => rfl
  | o :: l, f, i, vs, M, hv, hs, hf, hok => by
    have hfo := hf o (by simp)
    have hoo := hok o (by simp)
    have hfl : ∀ p ∈ l, formedB p = true := fun p hp => hf p (by simp [hp])
    have hol : ∀ p ∈ l, p.ok := fun p hp => hok p (by simp [hp])
    have hs1 := foldSem_mark hs o
    have ha := formed_a hfo
    have hb := formed_b hfo
    have haw := getV_word hv o.a
    generalize hg : foldMark f o = f1 at hs1
    have ih : ∀ (g : Int → Option Int) (j : Int) (us : List Int) (Q : MemP), VarsOk us → FoldSem g us → evalL ats (foldRun g l) j us Q = evalL ats l j us Q := fun g j us Q h1 h2 => fold_eval ats l g j us Q h1 h2 hfl hol
    -- a pure operation in the place of this one
    have pure : ∀ p : BOp, formedB p = true → word p.n → p.code = 1 ∨ p.code = 2 → 1 ≤ o.code ∧ o.code ≤ 15 → applyP p vs M = applyP o vs M → evalL ats (p :: (if (p.code == 24) = true then [] else foldRun (foldUpd f1 p) l)) i vs M = evalL ats (o :: l) i vs M := by
      intro p hp hpn hc ho hA
      have h24 : ¬ (p.code == 24) = true := by rw [beq_iff_eq]; omega
      have hst : (applyP p vs M).stays = true := by
        rcases hc with h | h
        · rw [applyP_const h]
        · rw [applyP_move h]
      rw [if_neg h24, evalL_go (by omega) (by omega) hst, evalL_go (by omega) (by omega) (by rw [← hA]; exact hst), ih _ _ _ _ (applyP_ok hv hpn) (foldSem_upd hs1 hv hp M), hA]
      have e1 : markI p i = i := if_neg (by omega)
      have e2 : markI o i = i := if_neg (by omega)
      rw [e1, e2]
    have e0 : foldRun f (o :: l) = if (foldB f1 o).2 then (foldB f1 o).1 :: (if (foldB f1 o).1.code == 24 then [] else foldRun (foldUpd f1 (foldB f1 o).1) l) else foldRun f1 l := by rw [← hg]; rfl
    rw [e0]
    have some_of : ∀ {v : Int}, (f1 v).isSome = true → 0 ≤ v → v < 28 → getV vs v = (f1 v).getD 0 := fun {v} h h0 h1 => by
      obtain ⟨x, hx⟩ := Option.isSome_iff_exists.1 h
      rw [hs1 v x h0 h1 hx, hx]; rfl
    have f1w : ∀ {v : Int}, (f1 v).isSome = true → 0 ≤ v → v < 28 → word ((f1 v).getD 0) := fun {v} h h0 h1 => by rw [← some_of h h0 h1]; exact getV_word hv v
    unfold foldB
    by_cases c1 : (o.code == 2 && (f1 o.a).isSome) = true
    · rw [if_pos c1]
      simp only [Bool.and_eq_true, beq_iff_eq] at c1
      have hD : hasD o.code = true := by rw [c1.1]; rfl
      refine pure _ (const_formed (field_d hfo hD)) (f1w c1.2 ha.1 ha.2) (.inl rfl) (by omega) ?_
      rw [applyP_const (by rfl), applyP_move c1.1, some_of c1.2 ha.1 ha.2]
    rw [if_neg c1]
    by_cases c2 : (isBin o.code && (f1 o.a).isSome && (f1 o.b).isSome) = true
    · rw [if_pos c2]
      simp only [Bool.and_eq_true] at c2
      have h' : 3 ≤ o.code ∧ o.code ≤ 15 := by have := c2.1.1; unfold isBin at this; simpa using this
      have hD : hasD o.code = true := by unfold hasD; rw [decide_eq_true_eq]; omega
      refine pure _ (const_formed (field_d hfo hD)) (wordOp_word (f1w c2.1.2 ha.1 ha.2) (f1w c2.2 hb.1 hb.2)) (.inl rfl) (by omega) ?_
      rw [applyP_const (by rfl), applyP_bin c2.1.1, some_of c2.1.2 ha.1 ha.2, some_of c2.2 hb.1 hb.2]
    rw [if_neg c2]
    by_cases c3 : ((f1 o.b).isSome && (f1 o.b).getD 0 == 0 && memI o.code [3, 4, 6, 7, 8, 9, 10]) = true
    · rw [if_pos c3]
      simp only [Bool.and_eq_true, beq_iff_eq] at c3
      have hm := c3.2
      simp only [memI, List.any_cons, List.any_nil, Bool.or_false, Bool.or_eq_true, beq_iff_eq] at hm
      have hbin : isBin o.code = true := by unfold isBin; rw [decide_eq_true_eq]; omega
      have hD : hasD o.code = true := by unfold hasD; rw [decide_eq_true_eq]; omega
      have hA' : hasA o.code = true := by unfold hasA; rw [decide_eq_true_eq]; omega
      refine pure _ (move_formed (field_d hfo hD) (field_a hfo hA')) word0 (.inr rfl) (by omega) ?_
      rw [applyP_move (by rfl), applyP_bin hbin, some_of c3.1.1 hb.1 hb.2, c3.1.2, wordOp_zero c3.2 haw]
    rw [if_neg c3]
    by_cases c4 : (o.code == 21 && (f1 o.a).isSome && (f1 o.a).getD 0 != 0) = true
    · rw [if_pos c4]
      simp only [Bool.and_eq_true, beq_iff_eq] at c4
      have e : applyP o vs M = ⟨vs, true, M⟩ := by rw [applyP_guard c4.1.1, some_of c4.1.2 ha.1 ha.2, c4.2]
      show evalL ats (foldRun f1 l) i vs M = _
      rw [evalL_go (by omega) (by omega) (by rw [e]), e, ih _ _ _ _ hv hs1, show markI o i = i from if_neg (by omega)]
    rw [if_neg c4]
    by_cases c5 : (o.code == 23 && (f1 o.a).isSome) = true
    · rw [if_pos c5]
      simp only [Bool.and_eq_true, beq_iff_eq] at c5
      by_cases hz : ((f1 o.a).getD 0 != 0) = true
      · rw [hz]
        show evalL ats (⟨24, 0, 0, 0, o.n⟩ :: _) i vs M = _
        have hz' : getV vs o.a ≠ 0 := by rw [some_of c5.2 ha.1 ha.2]; simpa using hz
        show (if _ then _ else _) = (if _ then _ else _)
        rw [if_pos (.inl rfl), if_pos (.inr ⟨c5.1, hz'⟩)]
      · have hz2 : ((f1 o.a).getD 0 != 0) = false := by simpa using hz
        rw [hz2]
        have hz' : getV vs o.a = 0 := by rw [some_of c5.2 ha.1 ha.2]; simpa using hz
        have e : applyP o vs M = ⟨vs, true, M⟩ := applyP_none (.inr c5.1) vs M
        show evalL ats (foldRun f1 l) i vs M = _
        rw [evalL_go (by omega) (by omega) (by rw [e]), e, ih _ _ _ _ hv hs1, show markI o i = i from if_neg (by omega)]
    rw [if_neg c5]
    by_cases c6 : (o.code == 25 && (f1 o.a).isSome) = true
    · rw [if_pos c6]
      simp only [Bool.and_eq_true, beq_iff_eq] at c6
      show evalL ats (⟨24, 0, 0, 0, (f1 o.a).getD 0⟩ :: _) i vs M = _
      show (if _ then _ else _) = (if _ then _ else _)
      rw [if_pos (.inl rfl), if_neg (by omega), if_pos c6.1, some_of c6.2 ha.1 ha.2]
    rw [if_neg c6]
    show evalL ats (o :: (if (o.code == 24) = true then [] else foldRun (foldUpd f1 o) l)) i vs M = _
    by_cases h24 : o.code = 24
    · show (if _ then _ else _) = (if _ then _ else _)
      rw [if_pos (.inl h24), if_pos (.inl h24)]
    · rw [if_neg (show ¬ (o.code == 24) = true by simpa using h24)]
      exact evalL_head rfl rfl rfl rfl (ih _ _ _ _ (applyP_ok hv hoo.n) (foldSem_upd hs1 hv hfo M))

/-! Copies. -/
def CopySem (s : Int → Option Int) (vs : List Int) : Prop := ∀ v w, s v = some w → (0 ≤ w ∧ w < 28 ∧ w ≠ 19) ∧ (0 ≤ v → v < 28 → getV vs v = getV vs w)
theorem copySem_none (vs : List Int) : CopySem noneF vs := nofun
theorem copySem_mark {s : Int → Option Int} {vs : List Int} (h : CopySem s vs) (o : BOp) : CopySem (copyMark s o) vs := by
  unfold copyMark
  split
  · intro v w hv
    obtain ⟨h1, _⟩ := Option.filter_eq_some_iff.1 hv
    unfold fdel at h1
    split at h1
    · cases h1
    · exact h v w h1
  · exact h
theorem origS_sem {s : Int → Option Int} {vs : List Int} (h : CopySem s vs) (x : Bool) {v : Int} (h0 : 0 ≤ v) (h1 : v < 28) : getV vs (origS s x v) = getV vs v ∧ 0 ≤ origS s x v ∧ origS s x v < 28 := by
  rcases origS_cases s x v with e | ⟨_, e⟩
  · rw [e]; exact ⟨rfl, h0, h1⟩
  · obtain ⟨h2, h3⟩ := h _ _ e
    exact ⟨(h3 h0 h1).symm, h2.1, h2.2.1⟩
theorem copySem_upd {s : Int → Option Int} {vs : List Int} (h : CopySem s vs) (hv : VarsOk vs) {p : BOp} (hf : formedB p = true) (hk : copySkip p = false) (M : MemP) : CopySem (copyUpd s p) (applyP p vs M).vs := by
  unfold copyUpd
  by_cases hw : writes p < 0
  · rw [if_pos hw]
    intro v w hs
    obtain ⟨h1, h2⟩ := h v w hs
    refine ⟨h1, fun v0 v1 => ?_⟩
    rw [applyP_other hf vs M v0 (by omega), applyP_other hf vs M h1.1 (by omega)]
    exact h2 v0 v1
  rw [if_neg hw]
  have key : ∀ v w, copyKill s (writes p) v = some w → (0 ≤ w ∧ w < 28 ∧ w ≠ 19) ∧ (0 ≤ v → v < 28 → getV (applyP p vs M).vs v = getV (applyP p vs M).vs w) := by
    intro v w hs
    unfold copyKill at hs
    obtain ⟨h1, h2⟩ := Option.filter_eq_some_iff.1 hs
    have h2 : w ≠ writes p := by simpa using h2
    unfold mdel at h1
    split at h1
    · cases h1
    · rename_i hne
      obtain ⟨h3, h4⟩ := h v w h1
      refine ⟨h3, fun v0 v1 => ?_⟩
      rw [applyP_other hf vs M v0 (fun e => hne e.symm), applyP_other hf vs M h3.1 (fun e => h2 e.symm)]
      exact h4 v0 v1
  split
  · rename_i hc
    have hc' : p.code = 2 := by simpa using hc
    have hD : hasD p.code = true := by rw [hc']; rfl
    obtain ⟨d0, d1, dw⟩ := formed_d hf hD
    have ha := formed_a hf
    have hne : p.d ≠ p.a := by
      unfold copySkip at hk
      rw [hc, Bool.true_and] at hk
      simpa using hk
    intro v w hs
    unfold mput at hs
    split at hs
    · rename_i he
      injection hs with hs
      subst hs
      have hA := (formed_split.1 hf).2.2.1
      rw [hc'] at hA
      have hA : 0 ≤ p.a ∧ p.a < 28 ∧ p.a ≠ 19 := by simpa [fieldB, hasA] using hA
      refine ⟨hA, fun _ _ => ?_⟩
      rw [he, dw, applyP_move hc']
      show getV (vs.set p.d.toNat (getV vs p.a)) p.d = getV (vs.set p.d.toNat (getV vs p.a)) p.a
      rw [getV_set hv ⟨d0, d1⟩, getV_set_ne d0 ha.1 (fun e => hne e.symm)]
    · exact key v w hs
  · exact key
theorem applyP_cong {o p : BOp} {vs us : List Int} (M : MemP) (hc : p.code = o.code) (hd : p.d = o.d) (hn : p.n = o.n) (ha : getV us p.a = getV vs o.a) (hb : getV us p.b = getV vs o.b) (hv : us = vs) : applyP p us M = applyP o vs M := by
  subst hv
  unfold applyP
  rw [hc, hd, hn, ha, hb]
theorem copyOp_formed' {f : Int → Option Int} (hI : ∀ v w, f v = some w → 0 ≤ w ∧ w < 28 ∧ w ≠ 19) {o : BOp} (hf : formedB o = true) : formedB (copyOp f o) = true := by
  obtain ⟨h1, h2, h3, h4, h5⟩ := formed_split.1 hf
  refine formed_split.2 ⟨h1, h2, ?_, ?_, h5⟩
  · show fieldB (hasA o.code) (origS f (memI o.a (reads o) && o.code != 20) o.a) = true
    rcases origS_cases f (memI o.a (reads o) && o.code != 20) o.a with e | ⟨e1, e2⟩
    · rw [e]; exact h3
    · cases hA : hasA o.code
      · exfalso
        simp only [Bool.and_eq_true] at e1
        have hB : hasB o.code = false := by
          cases hB : hasB o.code
          · rfl
          · rw [hasA_of_B hB] at hA; cases hA
        have hr : reads o = [] := by unfold reads; rw [hA, hB]; rfl
        rw [hr] at e1; simp [memI] at e1
      · unfold fieldB; rw [if_pos rfl, decide_eq_true_eq]; exact hI _ _ e2
  · show fieldB (hasB o.code) (origS f (twoB o.code) o.b) = true
    rcases origS_cases f (twoB o.code) o.b with e | ⟨e1, e2⟩
    · rw [e]; exact h4
    · rw [twoB_hasB] at e1
      rw [e1]
      unfold fieldB; rw [if_pos rfl, decide_eq_true_eq]; exact hI _ _ e2
theorem copy_eval (ats : List Int) : ∀ (l : List BOp) (s : Int → Option Int) (i : Int) (vs : List Int) (M : MemP), VarsOk vs → CopySem s vs → (∀ o ∈ l, formedB o = true) → (∀ o ∈ l, o.ok) → evalL ats (copyRun s l) i vs M = evalL ats l i vs M
  | [], _, _, _, _, _, _, _, _ => rfl
  | o :: l, s, i, vs, M, hv, hs, hf, hok => by
    have hfo := hf o (by simp)
    have hoo := hok o (by simp)
    have hs1 := copySem_mark hs o
    have ha := formed_a hfo
    have hb := formed_b hfo
    generalize hg : copyMark s o = s1 at hs1
    have ih : ∀ (g : Int → Option Int) (j : Int) (us : List Int) (Q : MemP), VarsOk us → CopySem g us → evalL ats (copyRun g l) j us Q = evalL ats l j us Q := fun g j us Q h1 h2 => copy_eval ats l g j us Q h1 h2 (fun p hp => hf p (by simp [hp])) (fun p hp => hok p (by simp [hp]))
    have e0 : copyRun s (o :: l) = if copySkip (copyOp s1 o) then copyRun s1 l else copyOp s1 o :: copyRun (copyUpd s1 (copyOp s1 o)) l := by rw [← hg]; rfl
    rw [e0]
    obtain ⟨a1, a2, a3⟩ := origS_sem hs1 (memI o.a (reads o) && o.code != 20) ha.1 ha.2
    obtain ⟨b1, b2, b3⟩ := origS_sem hs1 (twoB o.code) hb.1 hb.2
    have hA : applyP (copyOp s1 o) vs M = applyP o vs M := applyP_cong M rfl rfl rfl a1 b1 rfl
    by_cases hk : copySkip (copyOp s1 o) = true
    · rw [if_pos hk]
      unfold copySkip at hk
      simp only [Bool.and_eq_true, beq_iff_eq] at hk
      have hc : o.code = 2 := hk.1
      have hda : o.d = (copyOp s1 o).a := hk.2
      have hD : hasD o.code = true := by rw [hc]; rfl
      obtain ⟨d0, d1, _⟩ := formed_d hfo hD
      have e : applyP o vs M = ⟨vs, true, M⟩ := by
        rw [applyP_move hc]
        have : getV vs o.a = getV vs o.d := by rw [hda]; exact a1.symm
        rw [this, set_getV hv ⟨d0, d1⟩]
      rw [evalL_go (by omega) (by omega) (by rw [e]), e, ih _ _ _ _ hv hs1, show markI o i = i from if_neg (by omega)]
    · rw [if_neg hk]
      have hpf : formedB (copyOp s1 o) = true := copyOp_formed' (fun v w h => (hs1 v w h).1) hfo
      refine evalL_head rfl rfl a1 hA (ih _ _ _ _ (applyP_ok hv hoo.n) ?_)
      rw [← hA]
      exact copySem_upd hs1 hv hpf (by simpa using hk) M
end Go.Proofs.Ytmjfgnnefcimiaa
