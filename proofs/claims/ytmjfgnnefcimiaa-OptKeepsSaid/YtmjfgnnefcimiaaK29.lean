/- Walks: the law's maker of blocks; a copy of a block. Walks: sanity. Walks: a block with one thing turned. Walks: calls that the laws have in common. -/
import Derived.Test.YtmjfgnnefcimiaaK1
import Derived.Test.YtmjfgnnefcimiaaK12
import Derived.Test.YtmjfgnnefcimiaaK13
import Derived.Test.YtmjfgnnefcimiaaK14
import Derived.Test.YtmjfgnnefcimiaaK15
import Derived.Test.YtmjfgnnefcimiaaK16
import Derived.Test.YtmjfgnnefcimiaaK17
import Derived.Test.YtmjfgnnefcimiaaK18
import Derived.Test.YtmjfgnnefcimiaaK19
import Derived.Test.YtmjfgnnefcimiaaK20
import Derived.Test.YtmjfgnnefcimiaaK21
import Derived.Test.YtmjfgnnefcimiaaK22
import Derived.Test.YtmjfgnnefcimiaaK23
import Derived.Test.YtmjfgnnefcimiaaK26
import Derived.Test.YtmjfgnnefcimiaaK27
import Derived.Test.YtmjfgnnefcimiaaK28
import Derived.Test.YtmjfgnnefcimiaaK3
import Derived.Test.YtmjfgnnefcimiaaK5
import Derived.Test.YtmjfgnnefcimiaaK6
namespace Go.Proofs.Ytmjfgnnefcimiaa
open Go.RowKit

theorem op_slice_hi {P : Program} {w0 : World} {G : Gs} {N : Nd} {o : Oper} {f : Fr} {S : List Ow} {K : Fr → List Ow → Prop} {t e : TypeId} {i : TypeInfo} {x y : Operand} {q : IntKind} {A : Option Addr} {n c : Nat} (h : Nat) (hop : o.op = .slice t x none (some y) none) (ht : P.underlying t = some (.slice e)) (hif : P.info? e = some i) (hx : f.ev x = one (.slice A n c))
    (hy : f.ev y = one (.int q (h : Int))) (hhc : h ≤ c) (hdst : dstOk N.n o.dst = true) (hk : K (f.put o.dst (one (.slice A h c))) S) : OpS P w0 G N o f S K := by
  refine op_slice_v 0 h i.size hop ht hif rfl hx (.inl ⟨rfl, rfl⟩) (.inr ⟨y, q, rfl, hy⟩) (Nat.zero_le _) hhc hdst ?_
  have hA : (if c = 0 then A else A.map (·.add (0 * i.size))) = A := by
    split
    · rfl
    · cases A with
      | none => rfl
      | some p => simp [Addr.add]
  rw [hA]; exact hk
set_option maxRecDepth 100000 in
theorem made_walk (A : Option Addr) (n c : Nat) (xs : List Int) (w : World) (hs : SlAt w w.heap.size A (xs.map (.int .i64))) (hl : xs.length = n) (hnc : n ≤ c) :
    Calls Try.prog 15 #[.slice A n c] w fun e w' => ∃ b v1 v2 v3, MadeOk b ∧ e = .returned (.agg #[v1, v2, v3]) ∧ Rows3 w.heap.size w' v1 v2 v3 b ∧ Below w.heap.size w w' := by
  obtain ⟨h, hh, hh1, hh2⟩ : ∃ h : Nat, (if (150 : Int) < (n : Int) then (150 : Int) else (n : Int)) = (h : Int) ∧ h ≤ n ∧ h ≤ 150 := by
    by_cases hn : (150 : Int) < (n : Int)
    · exact ⟨150, by rw [if_pos hn]; rfl, by omega, by omega⟩
    · exact ⟨n, by rw [if_neg hn], by omega, by omega⟩
  refine calls_val [.slice A n c] Try.func15 Try.ntmps15 rfl (by simp) ?_
  conv => whnf
  refine op_min rfl rfl rfl rfl ?_
  rw [hh]
  conv => whnf
  refine op_slice_hi (q := .i64) h rfl rfl rfl rfl rfl (by omega) rfl ?_
  conv => whnf
  refine call_blk MadeOk (by kernel_rfl) (fun r w' us hR hd => ?_) fun b hb => ?_
  · obtain rfl := avals_den (xs := [.slice A h c]) rfl hd
    have hs' : SlAt w w.heap.size A ((xs.take h).map (.int .i64)) := fun j u hj => hs j u (by
      rw [List.map_take, List.getElem?_take] at hj
      split at hj
      · exact hj
      · cases hj)
    exact made15_walk A h c (xs.take h) w' (sl_later hs' hR.toBelow) (by rw [List.length_take]; omega) (by omega)
  conv => whnf
  exact fin_rows3 1 2 3 b (by omega) (by omega) (by omega) (.inl ⟨rfl, rfl⟩) (.inl ⟨rfl, rfl⟩) (.inl ⟨rfl, rfl⟩) fun w' v1 v2 v3 h3 hB => ⟨_, v1, v2, v3, hb, rfl, h3, hB⟩
set_option maxRecDepth 100000 in
theorem own_walk (b : Blk) (A1 A2 A3 : Option Addr) (c1 c2 c3 : Nat) (w : World) (hb : b.ok) (h1 : SlAt w w.heap.size A1 (b.at_.map (.int .u32))) (h2 : SlAt w w.heap.size A2 (b.pages.map (.int .i64))) (h3 : OpsAt w w.heap.size A3 b.ops) :
    Calls Try.prog 33 #[.agg #[.slice A1 b.at_.length c1, .slice A2 b.pages.length c2, .slice A3 b.ops.length c3]] w fun e w' => ∃ v1 v2 v3, e = .returned (.agg #[v1, v2, v3]) ∧ Rows3 w.heap.size w' v1 v2 v3 b ∧ Below w.heap.size w w' := by
  have old : ∀ {A : Option Addr} {xs : List Value}, SlAt w w.heap.size A xs → SlOld w Gs.nil A xs := fun h j u hj => by
    obtain ⟨bb, off, e1, e2, e3⟩ := h j u hj
    exact ⟨bb, off, e1, e2, by simp, e3⟩
  have hl1 := hb.lat
  have hl2 := hb.lpages
  have hl3 := hb.lops
  refine calls_val [.agg #[.slice A1 b.at_.length c1, .slice A2 b.pages.length c2, .slice A3 b.ops.length c3]] Try.func33 Try.ntmps33 rfl (by simp) ?_
  conv => whnf
  refine appK_sound rfl ?_ rfl
  conv => whnf
  refine ⟨b.at_.map (.int .u32), old h1, (List.length_map _).trans (Nat.mul_one _).symm, fun u hu => by obtain ⟨x, _, rfl⟩ := List.mem_map.1 hu; rfl, by omega, ?_⟩
  conv => whnf
  refine appK_sound rfl ?_ rfl
  conv => whnf
  refine ⟨b.pages.map (.int .i64), old h2, (List.length_map _).trans (Nat.mul_one _).symm, fun u hu => by obtain ⟨x, _, rfl⟩ := List.mem_map.1 hu; rfl, by omega, ?_⟩
  conv => whnf
  refine appK_sound rfl ?_ rfl
  conv => whnf
  refine ⟨b.ops.flatMap opC, old h3, ops_length _, ops_one _, by omega, ?_⟩
  conv => whnf
  exact fin_rows3 3 4 5 b (by omega) (by omega) (by omega) (.inl ⟨rfl, rfl⟩) (.inl ⟨rfl, rfl⟩) (.inl ⟨rfl, rfl⟩) fun w' v1 v2 v3 h3 hB => ⟨v1, v2, v3, rfl, h3, hB⟩
end Go.Proofs.Ytmjfgnnefcimiaa
namespace Go.Proofs.Ytmjfgnnefcimiaa
open Go.RowKit

set_option maxRecDepth 100000 in
theorem sanity_true {mu : Blk → Nat} (hmu : ∀ b, b.ok → (onceP b).ops ≠ b.ops → mu (onceP b) < mu b) (w : World) : Calls Try.prog 14 #[] w fun e w' => e = .returned (.bool true) ∧ Below w.heap.size w w' := by
  refine calls_satq [] Try.func14 Try.ntmps14 rfl (by simp) ?_
  refine satq_seq ?_
  conv => whnf
  refine satq_seq ?_
  conv => whnf
  refine satq_seq ?_
  conv => whnf
  refine satq_seq ?_
  conv => whnf
  refine call_block 2 3 [opTwo, opThree, ⟨3, 3, 1, 2, 0⟩] rfl rfl (by decide) ?_
  conv => whnf
  refine call_passV fold_pass (by kernel_rfl) 3 4 blk1 rfl rfl blk1_ok rfl fold_nil ?_
  conv => whnf
  refine satq_seq ?_
  conv => whnf
  refine satq_seq ?_
  conv => whnf
  refine satq_seq ?_
  conv => whnf
  refine call_block 9 3 [⟨2, 20, 1, 0, 0⟩, ⟨3, 2, 20, 20, 0⟩, ⟨2, 3, 20, 0, 0⟩] rfl rfl (by decide) ?_
  conv => whnf
  refine call_passV (opt_pass hmu) (by kernel_rfl) 10 11 blk2 rfl rfl blk2_ok rfl (fun h => by cases h) ?_
  conv => whnf
  refine satq_seq ?_
  conv => whnf
  refine call_block 14 2 [⟨3, 2, 1, 1, 0⟩, ⟨2, 3, 1, 0, 0⟩] rfl rfl (by decide) ?_
  conv => whnf
  refine satq_ent (f' := [(1, .p (.c (.ref 0 0))), (2, .p (.c (.ref 1 0))), (3, .p (.c (.ref 2 0))), (6, .p (.c (.ref 5 0))), (7, .p (.c (.ref 8 0)))])
    (S' := [.cells 53 ((opC opTwo).map .v), .cells 53 ((opC opThree).map .v), .cells 32 [.row 3, .v (.slice none 0 0), .row 4], .view viewT 1 [.int .u32 0], .view viewT (foldAll blk1).length ((foldAll blk1).flatMap opC),
      .cells 32 [.row 6, .v (.slice none 0 0), .row 7], .view viewT 1 [.int .u32 0], .view viewT (optAll mu blk2).length ((optAll mu blk2).flatMap opC), .cells 32 [.row 9, .v (.slice none 0 0), .row 10], .view viewT 1 [.int .u32 0], .view viewT blkW.length (blkW.flatMap opC)])
    (ent_ren [0, 1, 6, 3, 5, 13, 10, 12, 17, 15, 16] (aI rfl (aI rfl (aI rfl (aI rfl (aI rfl trivial))))) (aI ((Exists.intro _ (aI rfl (aI rfl (Or.inl rfl))))) (aI ((Exists.intro _ (aI rfl (aI rfl (Or.inl rfl))))) (aI ((Exists.intro _ (aI rfl (aI rfl (Or.inl rfl))))) (aI ((Exists.intro _ (aI rfl (aI rfl (aI rfl rfl))))) (aI ((Exists.intro _ (aI rfl (aI rfl (aI rfl rfl))))) (aI ((Exists.intro _ (aI rfl (aI rfl (Or.inl rfl))))) (aI ((Exists.intro _ (aI rfl (aI rfl (aI rfl rfl))))) (aI ((Exists.intro _ (aI rfl (aI rfl (aI rfl rfl))))) (aI ((Exists.intro _ (aI rfl (aI rfl (Or.inl rfl))))) (aI ((Exists.intro _ (aI rfl (aI rfl (aI rfl rfl))))) (aI ((Exists.intro _ (aI rfl (aI rfl (aI rfl rfl))))) trivial))))))))))) rfl rfl rfl rfl rfl) ?_
  refine satq_restart fun r w1 hR => ?_
  obtain ⟨g1, us1, b1, d1, k1⟩ := own_cellsAt hR 0 rfl
  obtain rfl := denL_vals_inv d1
  obtain ⟨g2, us2, b2, d2, k2⟩ := own_cellsAt hR 1 rfl
  obtain rfl := denL_vals_inv d2
  obtain ⟨g3, A1, c1, A3, c3, b3, k3, s1, s3, m1, m2⟩ := own_blkAt hR 2 3 4 (l := foldAll blk1) rfl rfl rfl
  obtain ⟨g6, B1, e1, B3, e3, b6, k6, t1, t3, n1, n2⟩ := own_blkAt hR 5 6 7 (l := optAll mu blk2) rfl rfl rfl
  obtain ⟨g7, C1, f1, C3, f3, b7, k7, v1, v3, o1, o2⟩ := own_blkAt hR 8 9 10 (l := blkW) rfl rfl rfl
  have hB0 := hR.toBelow
  refine ⟨slotFr [(1, .pointer (some ⟨g1, 0, none⟩)), (2, .pointer (some ⟨g2, 0, none⟩)), (3, .pointer (some ⟨g3, 0, none⟩)), (6, .pointer (some ⟨g6, 0, none⟩)), (7, .pointer (some ⟨g7, 0, none⟩))], fun a hf => slots_den ⟨slot_ref hf 1 rfl b1, slot_ref hf 2 rfl b2, slot_ref hf 3 rfl b3, slot_ref hf 6 rfl b6, slot_ref hf 7 rfl b7, trivial⟩, ?_⟩
  clear hR b1 b2 b3 b6 b7
  refine satq_vc ?_
  conv => whnf
  refine sat_mix [true, true, true, true, false, false, false, true, true, true, false, true, true, true, false, false, true, true, true] mixed (by kernel_rfl) (by kernel_rfl) ?_
  conv => whnf
  refine ⟨_, k3, rfl, ?_⟩
  conv => whnf
  refine ⟨_, k1, rfl, ?_⟩
  conv => whnf
  refine ⟨_, k2, rfl, ?_⟩
  conv => whnf
  refine call_block 0 3 [opTwo, opThree, ⟨1, 3, 0, 0, 5⟩] rfl rfl (by decide) ?_
  conv => whnf
  refine call_sameV 1 2 s1 s3 (by rw [blk1_fold]; decide) rfl rfl blk1_fold ?_
  conv => whnf
  refine ⟨_, k6, rfl, ?_⟩
  conv => whnf
  refine ⟨_, k7, rfl, ?_⟩
  conv => whnf
  refine call_same_plain t1 t3 v1 v3 (by rw [opt_blk2 hmu]; decide) (opt_blk2 hmu) ?_
  conv => whnf
  refine ⟨_, k7, rfl, ?_⟩
  conv => whnf
  refine call_live ⟨[0], [], blkW⟩ rfl rfl rfl blkW_ok (by intro j u hj; simp at hj) v3 ?_
  conv => whnf
  rw [blkW_live]
  conv => whnf
  refine atq_ret ?_
  conv => whnf
  exact fin_val rfl fun w' hB => ⟨rfl, hB0.trans (hB.mono hB0.size)⟩
end Go.Proofs.Ytmjfgnnefcimiaa
namespace Go.Proofs.Ytmjfgnnefcimiaa
open Go.RowKit

theorem and_mask (x : Int) : 0 ≤ bits .and .i64 x 65535 ∧ bits .and .i64 x 65535 ≤ 65535 := by
  have h : (BitVec.ofInt 64 x &&& BitVec.ofInt 64 65535).toNat ≤ 65535 := by
    rw [BitVec.toNat_and]
    exact Nat.le_trans Nat.and_le_right (by decide)
  have e : bits .and .i64 x 65535 = IntKind.i64.wrap ((BitVec.ofInt 64 x &&& BitVec.ofInt 64 65535).toNat : Int) := rfl
  rw [e, wr64 (by omega)]
  omega
theorem ops_setField : ∀ {l : List BOp} {i : Nat} {o : BOp} (j : Nat) (u : Value) (o' : BOp), l[i]? = some o → j < 5 → opC o' = (opC o).set j u → (l.flatMap opC).set (i * 5 + j) u = (l.set i o').flatMap opC
  | [], i, o, j, u, o', h, _, _ => by simp at h
  | x :: l, 0, o, j, u, o', h, hj, he => by
    simp at h; subst h
    rw [Nat.zero_mul, Nat.zero_add, List.flatMap_cons, List.set_append_left _ _ (by rw [opC_length]; exact hj), ← he]
    simp
  | x :: l, i + 1, o, j, u, o', h, hj, he => by
    rw [List.flatMap_cons, show (i + 1) * 5 + j = (opC x).length + (i * 5 + j) by rw [opC_length]; omega, set_right, ops_setField j u o' (by simpa using h) hj he]
    simp
theorem ops_setF {l : List BOp} {i k : Nat} {o : BOp} (j : Nat) (u : Value) (o' : BOp) (hk : k = i * 5 + j) (h : l[i]? = some o) (hj : j < 5) (he : opC o' = (opC o).set j u) : setAll (l.flatMap opC) k [u] = (l.set i o').flatMap opC := by
  subst hk; exact ops_setField j u o' h hj he
theorem row_get {l : List BOp} {i k j : Nat} {o : BOp} {u : Value} (h : l[i]? = some o) (hu : (opC o)[j]? = some u) (hj : j < 5) (hk : k = i * 5 + j) : (List.map CV.v (List.flatMap opC l))[k]? = some (.v u) := by
  subst hk
  rw [List.getElem?_map, flat_at l i j o h hj, hu]; rfl
theorem ops_take : ∀ (l : List BOp) (k : Nat), (l.flatMap opC).take (k * 5) = (l.take k).flatMap opC
  | [], k => by simp
  | x :: l, 0 => by simp
  | x :: l, k + 1 => by
    rw [List.flatMap_cons, show (k + 1) * 5 = (opC x).length + k * 5 by rw [opC_length]; omega, List.take_length_add_append, ops_take l k]; simp
theorem ops_drop : ∀ (l : List BOp) (k : Nat), (l.flatMap opC).drop (k * 5) = (l.drop k).flatMap opC
  | [], k => by simp
  | x :: l, 0 => by simp
  | x :: l, k + 1 => by
    rw [List.flatMap_cons, show (k + 1) * 5 = (opC x).length + k * 5 by rw [opC_length]; omega, List.drop_length_add_append, ops_drop l k]; simp
theorem rel_as {w0 : World} {G : Gs} {S S2 : List Ow} {r : Env} {w : World} (h : Rel w0 G S r w) (hl : S2.length = S.length) (ho : ∀ (i : Nat) (o : Ow), S2[i]? = some o → o.holds r w i) : Rel w0 G S2 r w :=
  ⟨h.os, h.tape, h.output, h.size, h.old, ho, h.inj, h.new, fun i hi => h.outB i (by omega), fun i hi => h.outV i (by omega), h.first⟩
/-- A block's operations, looked at closer: where they lie. -/
theorem ops_conc {w0 : World} {G : Gs} {S : List Ow} {r : Env} {w : World} (h : Rel w0 G S r w) {n : Nat} {l : List BOp} (h5 : S[5]? = some (.row 53 5 n (l.flatMap opC))) (h6 : S[6]? = some (.cells 32 [.row 3, .row 4, .row 5])) (hn : 0 < n) :
    ∃ (ob C : Nat) (cur : List Value), n ≤ C ∧ C ≤ maxLen ∧ cur.length = C * 5 ∧ cur.take (n * 5) = l.flatMap opC ∧ Rel w0 G ((S.set 5 (objOw ob (.cells cur.toArray 53 (0, 0)))).set 6 (.cells 32 [.row 3, .row 4, .v (.slice (some ⟨ob, 0, none⟩) n C)])) r w := by
  obtain ⟨v, f1, f2, f3⟩ := h.own 5 _ h5
  obtain ⟨b, us, g1, g2, g3⟩ := h.own 6 _ h6
  simp only [denL, CV.den] at g3
  obtain ⟨u1, l1, rfl, e1, u2, l2, rfl, e2, u3, l3, rfl, e3, rfl⟩ := g3
  rw [e3] at f1; injection f1 with f1; subst f1
  rcases f3.2 with ⟨_, h0⟩ | ⟨ob, C, ⟨cur⟩, k1, _, k3, k4, k5, k6, k7⟩
  · omega
  · refine ⟨ob, C, cur, k4, k5, by simpa using k6, k7, rel_as h (by simp) fun i o ho => ?_⟩
    rw [List.getElem?_set] at ho
    split at ho
    · rename_i hi; subst hi
      split at ho
      · injection ho with ho; subst ho
        exact ⟨b, [u1, u2, u3], g1, g2, by simp only [denL, CV.den]; exact ⟨_, _, rfl, e1, _, _, rfl, e2, _, _, rfl, k1, rfl⟩⟩
      · cases ho
    · rw [List.getElem?_set] at ho
      split at ho
      · rename_i hi; subst hi
        split at ho
        · injection ho with ho; subst ho
          exact ⟨ob, by rw [← f2, k1]; rfl, ⟨rfl, k3⟩, fun w' hw => ⟨rfl, hw.trans k3⟩⟩
        · cases ho
      · exact h.own i o ho
structure TurnOk (b : Blk) : Prop where
  ok : b.ok
  l1 : b.at_.length ≤ 1000
  l2 : b.pages.length ≤ 1000
  l3 : b.ops.length ≤ 1000
theorem turn_ops {b : Blk} (h : TurnOk b) {l : List BOp} (hl : ∀ o ∈ l, o.ok) (hn : l.length ≤ 1000) : TurnOk ⟨b.at_, b.pages, l⟩ := ⟨⟨h.ok.at_, h.ok.pages, hl, h.ok.lat, h.ok.lpages, Nat.le_trans hn (by omega)⟩, h.l1, h.l2, hn⟩
theorem turn_set {b : Blk} (h : TurnOk b) (i : Nat) {o : BOp} (ho : o.ok) : TurnOk ⟨b.at_, b.pages, b.ops.set i o⟩ := turn_ops h (fun p hp => by
  rcases List.mem_or_eq_of_mem_set hp with hp | rfl
  · exact h.ok.ops p hp
  · exact ho) (by rw [List.length_set]; exact h.l3)
abbrev blkZ : Ow := .cells 32 [.v (.slice none 0 0), .v (.slice none 0 0), .v (.slice none 0 0)]
abbrev blkC : Ow := .cells 32 [.row 3, .row 4, .row 5]
set_option maxRecDepth 100000 in
theorem turned_walk (b : Blk) (A1 A2 A3 : Option Addr) (c1 c2 c3 : Nat) (q0 q1 q2 : Int) (w : World) (hb : b.ok) (hl1 : b.at_.length ≤ 900) (hl2 : b.pages.length ≤ 900) (hl3 : b.ops.length ≤ 900) (h1 : SlAt w w.heap.size A1 (b.at_.map (.int .u32))) (h2 : SlAt w w.heap.size A2 (b.pages.map (.int .i64))) (h3 : OpsAt w w.heap.size A3 b.ops) :
    Calls Try.prog 21 #[.agg #[.slice A1 b.at_.length c1, .slice A2 b.pages.length c2, .slice A3 b.ops.length c3], .agg #[.int .i64 q0, .int .i64 q1, .int .i64 q2]] w fun e w' => ∃ b' v1 v2 v3, TurnOk b' ∧ e = .returned (.agg #[v1, v2, v3]) ∧ Rows3 w.heap.size w' v1 v2 v3 b' ∧ Below w.heap.size w w' := by
  have hT : TurnOk b := ⟨hb, by omega, by omega, by omega⟩
  refine calls_satq [.agg #[.slice A1 b.at_.length c1, .slice A2 b.pages.length c2, .slice A3 b.ops.length c3], .agg #[.int .i64 q0, .int .i64 q1, .int .i64 q2]] Try.func21 Try.ntmps21 rfl (by simp) ?_
  refine satq_seq ?_
  conv => whnf
  refine satq_seq ?_
  conv => whnf
  refine call_blk (fun b' => b' = b) (by kernel_rfl) (fun r w' us hR hd => ?_) fun b' hb' => ?_
  · obtain rfl := avals_den (xs := [.agg #[.slice A1 b.at_.length c1, .slice A2 b.pages.length c2, .slice A3 b.ops.length c3]]) rfl hd
    refine (own_walk b A1 A2 A3 c1 c2 c3 w' hb (sl_later h1 hR.toBelow) (sl_later h2 hR.toBelow) (sl_later h3 hR.toBelow)).mono fun e w'' ⟨v1, v2, v3, he, hr, hB⟩ => ⟨b, v1, v2, v3, rfl, he, hr, hB⟩
  subst hb'
  conv => whnf
  refine satq_seq ?_
  conv => whnf
  refine ⟨fun _ => ?_, fun hne => ?_⟩
  · conv => whnf
    refine atq_ret ?_
    conv => whnf
    exact fin_rows3 3 4 5 b' (by omega) (by omega) (by omega) (.inl ⟨rfl, rfl⟩) (.inl ⟨rfl, rfl⟩) (.inl ⟨rfl, rfl⟩) fun w' v1 v2 v3 h3 hB => ⟨b', v1, v2, v3, hT, rfl, h3, hB⟩
  have hpos : 0 < b'.ops.length := by
    rcases Nat.eq_zero_or_pos b'.ops.length with h | h
    · rw [h] at hne; simp at hne
    · exact h
  conv => whnf
  refine satq_seq ?_
  conv => whnf
  refine ⟨⟨by omega, by omega⟩, ?_⟩
  conv => whnf
  obtain ⟨n, hn⟩ : ∃ n, bits .and .i64 q2 65535 = n := ⟨_, rfl⟩
  have hn0 := (and_mask q2).1
  have hn1 := (and_mask q2).2
  rw [hn] at hn0 hn1
  refine ⟨n, hn, ?_⟩
  conv => whnf
  refine satq_seq ?_
  conv => whnf
  refine ⟨⟨by omega, by omega⟩, ?_⟩
  conv => whnf
  obtain ⟨n1, hn1'⟩ : ∃ n1, bits .and .i64 q1 65535 = n1 := ⟨_, rfl⟩
  have hn10 := (and_mask q1).1
  rw [hn1'] at hn10
  refine ⟨n1, hn1', ?_⟩
  conv => whnf
  obtain ⟨i, hi, hil⟩ : ∃ i : Nat, n1.tmod (b'.ops.length : Int) = (i : Int) ∧ i < b'.ops.length := by
    have e1 := Int.tmod_nonneg (b'.ops.length : Int) hn10
    have e2 := Int.tmod_lt_of_pos n1 (b := (b'.ops.length : Int)) (by omega)
    exact ⟨(n1.tmod (b'.ops.length : Int)).toNat, by omega, by omega⟩
  refine ⟨by omega, (i : Int), hi, ?_⟩
  conv => whnf
  obtain ⟨o, ho⟩ : ∃ o, b'.ops[i]? = some o := ⟨_, List.getElem?_eq_getElem hil⟩
  have hoo : o.ok := hb.ops o (List.mem_of_getElem? ho)
  refine satq_mid (α := { y : Blk // TurnOk y }) (fun y => [(4, .p (.c (.ref 2 0))), (5, .p (.c (.ref 6 0)))]) (fun y => [.gone, .gone, blkZ] ++ blkRows y.1 ++ [blkC]) ?_ fun y => ?_
  · refine satq_seq ?_
    conv => whnf
    refine ⟨⟨by omega, by omega⟩, ?_⟩
    conv => whnf
    refine ⟨by omega, _, rfl, ?_⟩
    conv => whnf
    refine ⟨_, rfl, ?_⟩
    conv => whnf
    refine ⟨by omega, _, rfl, ?_⟩
    conv => whnf
    have m28 : 0 ≤ n.tmod 28 ∧ n.tmod 28 < 28 := ⟨Int.tmod_nonneg _ hn0, Int.tmod_lt_of_pos _ (by omega)⟩
    have m30 : 0 ≤ n.tmod 30 ∧ n.tmod 30 < 30 := ⟨Int.tmod_nonneg _ hn0, Int.tmod_lt_of_pos _ (by omega)⟩
    refine satq_block ?_
    refine satq_seq ?_
    conv => whnf
    refine satq_cond rfl (fun _ => ?_) (fun _ => ?_)
    · refine satq_vc ?_
      conv => whnf
      refine ⟨by omega, _, rfl, ?_⟩
      conv => whnf
      refine ⟨⟨by omega, by omega⟩, ?_⟩
      conv => whnf
      refine ⟨?_, ?_⟩
      · show (i : Int).toNat * 5 + 0 + 1 ≤ (b'.ops.flatMap opC).length
        rw [ops_length, Int.toNat_natCast]; omega
      conv => whnf
      refine atq_block ?_
      exact atq_mid ⟨⟨b'.at_, b'.pages, b'.ops.set i (⟨n.tmod 28, o.d, o.a, o.b, o.n⟩ : BOp)⟩, turn_set hT i ⟨mid_small (by dsimp only; omega), hoo.d, hoo.a, hoo.b, hoo.n⟩⟩ (ent_drop (aI rfl (aI rfl trivial)) (aI ((by trivial)) (aI ((by trivial)) (aI ((aI rfl (Or.inl rfl))) (aI ((aI rfl (aI rfl (aI rfl rfl)))) (aI ((aI rfl (aI rfl (aI rfl rfl)))) (aI ((aI rfl (aI rfl (aI ((List.length_set).symm) (by exact ops_setF (l := b'.ops) (i := i) (o := o) 0 (.int .i64 (n.tmod 28)) (⟨n.tmod 28, o.d, o.a, o.b, o.n⟩ : BOp) (by rw [Int.toNat_natCast]; rfl) ho (by omega) rfl))))) (aI ((aI rfl (Or.inl rfl))) trivial))))))) rfl rfl)
    refine satq_seq ?_
    conv => whnf
    refine satq_cond rfl (fun _ => ?_) (fun _ => ?_)
    · refine satq_vc ?_
      conv => whnf
      refine ⟨by omega, _, rfl, ?_⟩
      conv => whnf
      refine ⟨_, wr64 (by omega), ?_⟩
      conv => whnf
      refine ⟨⟨by omega, by omega⟩, ?_⟩
      conv => whnf
      refine ⟨?_, ?_⟩
      · show (i : Int).toNat * 5 + 1 + 1 ≤ (b'.ops.flatMap opC).length
        rw [ops_length, Int.toNat_natCast]; omega
      conv => whnf
      refine atq_block ?_
      exact atq_mid ⟨⟨b'.at_, b'.pages, b'.ops.set i (⟨o.code, n.tmod 30 - 1, o.a, o.b, o.n⟩ : BOp)⟩, turn_set hT i ⟨hoo.code, mid_small (by dsimp only; omega), hoo.a, hoo.b, hoo.n⟩⟩ (ent_drop (aI rfl (aI rfl trivial)) (aI ((by trivial)) (aI ((by trivial)) (aI ((aI rfl (Or.inl rfl))) (aI ((aI rfl (aI rfl (aI rfl rfl)))) (aI ((aI rfl (aI rfl (aI rfl rfl)))) (aI ((aI rfl (aI rfl (aI ((List.length_set).symm) (by exact ops_setF (l := b'.ops) (i := i) (o := o) 1 (.int .i64 (n.tmod 30 - 1)) (⟨o.code, n.tmod 30 - 1, o.a, o.b, o.n⟩ : BOp) (by rw [Int.toNat_natCast]; rfl) ho (by omega) rfl))))) (aI ((aI rfl (Or.inl rfl))) trivial))))))) rfl rfl)
    refine satq_seq ?_
    conv => whnf
    refine satq_cond rfl (fun _ => ?_) (fun _ => ?_)
    · refine satq_vc ?_
      conv => whnf
      refine ⟨by omega, _, rfl, ?_⟩
      conv => whnf
      refine ⟨_, wr64 (by omega), ?_⟩
      conv => whnf
      refine ⟨⟨by omega, by omega⟩, ?_⟩
      conv => whnf
      refine ⟨?_, ?_⟩
      · show (i : Int).toNat * 5 + 2 + 1 ≤ (b'.ops.flatMap opC).length
        rw [ops_length, Int.toNat_natCast]; omega
      conv => whnf
      refine atq_block ?_
      exact atq_mid ⟨⟨b'.at_, b'.pages, b'.ops.set i (⟨o.code, o.d, n.tmod 30 - 1, o.b, o.n⟩ : BOp)⟩, turn_set hT i ⟨hoo.code, hoo.d, mid_small (by dsimp only; omega), hoo.b, hoo.n⟩⟩ (ent_drop (aI rfl (aI rfl trivial)) (aI ((by trivial)) (aI ((by trivial)) (aI ((aI rfl (Or.inl rfl))) (aI ((aI rfl (aI rfl (aI rfl rfl)))) (aI ((aI rfl (aI rfl (aI rfl rfl)))) (aI ((aI rfl (aI rfl (aI ((List.length_set).symm) (by exact ops_setF (l := b'.ops) (i := i) (o := o) 2 (.int .i64 (n.tmod 30 - 1)) (⟨o.code, o.d, n.tmod 30 - 1, o.b, o.n⟩ : BOp) (by rw [Int.toNat_natCast]; rfl) ho (by omega) rfl))))) (aI ((aI rfl (Or.inl rfl))) trivial))))))) rfl rfl)
    refine satq_seq ?_
    conv => whnf
    refine satq_cond rfl (fun _ => ?_) (fun _ => ?_)
    · refine satq_vc ?_
      conv => whnf
      refine ⟨by omega, _, rfl, ?_⟩
      conv => whnf
      refine ⟨_, wr64 (by omega), ?_⟩
      conv => whnf
      refine ⟨⟨by omega, by omega⟩, ?_⟩
      conv => whnf
      refine ⟨?_, ?_⟩
      · show (i : Int).toNat * 5 + 3 + 1 ≤ (b'.ops.flatMap opC).length
        rw [ops_length, Int.toNat_natCast]; omega
      conv => whnf
      refine atq_block ?_
      exact atq_mid ⟨⟨b'.at_, b'.pages, b'.ops.set i (⟨o.code, o.d, o.a, n.tmod 30 - 1, o.n⟩ : BOp)⟩, turn_set hT i ⟨hoo.code, hoo.d, hoo.a, mid_small (by dsimp only; omega), hoo.n⟩⟩ (ent_drop (aI rfl (aI rfl trivial)) (aI ((by trivial)) (aI ((by trivial)) (aI ((aI rfl (Or.inl rfl))) (aI ((aI rfl (aI rfl (aI rfl rfl)))) (aI ((aI rfl (aI rfl (aI rfl rfl)))) (aI ((aI rfl (aI rfl (aI ((List.length_set).symm) (by exact ops_setF (l := b'.ops) (i := i) (o := o) 3 (.int .i64 (n.tmod 30 - 1)) (⟨o.code, o.d, o.a, n.tmod 30 - 1, o.n⟩ : BOp) (by rw [Int.toNat_natCast]; rfl) ho (by omega) rfl))))) (aI ((aI rfl (Or.inl rfl))) trivial))))))) rfl rfl)
    refine satq_seq ?_
    conv => whnf
    refine satq_cond rfl (fun _ => ?_) (fun _ => ?_)
    · refine satq_vc ?_
      refine sat_tail 16 mixed (by kernel_rfl) ?_
      conv => whnf
      refine ⟨⟨by omega, by omega⟩, ?_⟩
      conv => whnf
      rw [row_get (j := 4) ho rfl (by omega)]
      rotate_left
      · rw [Int.toNat_natCast]; rfl
      conv => whnf
      refine ⟨by omega, _, rfl, ?_⟩
      conv => whnf
      refine ⟨_, wr32 _, ?_⟩
      conv => whnf
      refine ⟨_, wr32 _, ?_⟩
      conv => whnf
      refine ⟨_, wr32 _, ?_⟩
      conv => whnf
      refine ⟨⟨by omega, by omega⟩, ?_⟩
      conv => whnf
      refine ⟨?_, ?_⟩
      · show (i : Int).toNat * 5 + 4 + 1 ≤ (b'.ops.flatMap opC).length
        rw [ops_length, Int.toNat_natCast]; omega
      conv => whnf
      refine atq_block ?_
      exact atq_mid ⟨⟨b'.at_, b'.pages, b'.ops.set i (⟨o.code, o.d, o.a, o.b, (((o.n + n.tmod 3 % 4294967296) % 4294967296 - 1) % 4294967296)⟩ : BOp)⟩, turn_set hT i ⟨hoo.code, hoo.d, hoo.a, hoo.b, word_mod _⟩⟩ (ent_drop (aI rfl (aI rfl trivial)) (aI ((by trivial)) (aI ((by trivial)) (aI ((aI rfl (Or.inl rfl))) (aI ((aI rfl (aI rfl (aI rfl rfl)))) (aI ((aI rfl (aI rfl (aI rfl rfl)))) (aI ((aI rfl (aI rfl (aI ((List.length_set).symm) (by exact ops_setF (l := b'.ops) (i := i) (o := o) 4 (.int .u32 (((o.n + n.tmod 3 % 4294967296) % 4294967296 - 1) % 4294967296)) (⟨o.code, o.d, o.a, o.b, (((o.n + n.tmod 3 % 4294967296) % 4294967296 - 1) % 4294967296)⟩ : BOp) (by rw [Int.toNat_natCast]; rfl) ho (by omega) rfl))))) (aI ((aI rfl (Or.inl rfl))) trivial))))))) rfl rfl)
    refine satq_seq ?_
    conv => whnf
    refine satq_cond rfl (fun _ => ?_) (fun _ => ?_)
    · refine satq_conc fun r w' hR => ?_
      obtain ⟨ob, C, cur, k1, k2, k3, k4, hR2⟩ := ops_conc hR (l := b'.ops) rfl rfl hpos
      refine ⟨_, _, hR2, fun a ha => ha, ?_⟩
      clear hR hR2
      have hxs : ∀ (j : Nat) (u : Value), (b'.ops.flatMap opC)[j]? = some u → cur[j]? = some u := fun j u hj => by
        rw [← k4, List.getElem?_take] at hj
        split at hj
        · exact hj
        · cases hj
      refine satq_seq ?_
      conv => whnf
      refine ⟨((i + 1 : Nat) : Int), by rw [wr64 (by omega)]; omega, ?_⟩
      conv => whnf
      refine op_slice_v (i + 1) b'.ops.length 5 rfl rfl rfl rfl rfl (.inr ⟨_, .i64, rfl, rfl⟩) (.inl ⟨rfl, rfl⟩) (by omega) k1 rfl ?_
      conv => whnf
      refine satq_vc ?_
      conv => whnf
      refine op_slice_hi (q := .i64) i rfl rfl rfl rfl rfl (by omega) rfl ?_
      conv => whnf
      refine op_app_obj 5 ob i C 5 cur ((b'.ops.drop (i + 1)).flatMap opC) rfl rfl rfl rfl rfl rfl (by omega) (by decide) rfl rfl rfl (Nat.zero_le _) k3 (by omega) k2 (by rw [ops_length, List.length_drop]) (fun j u hj => ?_) (ops_one _) (by omega) rfl ?_
      · rw [← ops_drop, List.getElem?_drop] at hj
        have hlt : (i + 1) * 5 + j < b'.ops.length * 5 := by
          rcases Nat.lt_or_ge ((i + 1) * 5 + j) (b'.ops.length * 5) with h | h
          · exact h
          · rw [List.getElem?_eq_none (by rw [ops_length]; omega)] at hj; cases hj
        rw [if_neg (by omega)]
        exact ⟨(i + 1) * 5, by rw [Option.map_some, addr_add, Nat.zero_add], hxs _ _ hj⟩
      conv => whnf
      refine atq_block ?_
      have e0 : cur.take (i * 5) = (b'.ops.take i).flatMap opC := by rw [← ops_take, ← k4, List.take_take, Nat.min_eq_left (by omega)]
      exact atq_mid ⟨⟨b'.at_, b'.pages, b'.ops.take i ++ b'.ops.drop (i + 1)⟩, turn_ops hT (fun p hp => by
        rcases List.mem_append.1 hp with hp | hp
        · exact hb.ops p (List.mem_of_mem_take hp)
        · exact hb.ops p (List.mem_of_mem_drop hp)) (by simp; omega)⟩ (ent_drop (aI rfl (aI rfl trivial)) (aI ((by trivial)) (aI ((by trivial)) (aI ((aI rfl (Or.inl rfl))) (aI ((aI rfl (aI rfl (aI rfl rfl)))) (aI ((aI rfl (aI rfl (aI rfl rfl)))) (aI ((aI rfl (aI rfl (aI (by simp; omega) (by rw [e0]; simp))))) (aI ((aI rfl (Or.inl rfl))) trivial))))))) rfl rfl)
    refine satq_seq ?_
    conv => whnf
    refine satq_cond rfl (fun _ => ?_) (fun _ => ?_)
    · refine satq_seq ?_
      conv => whnf
      refine ⟨⟨by omega, by omega⟩, ?_⟩
      conv => whnf
      rw [cut_ops ho]
      rotate_left
      · rw [Int.toNat_natCast]; rfl
      · rfl
      conv => whnf
      refine satq_conc fun r w' hR => ?_
      obtain ⟨ob, C, cur, k1, k2, k3, k4, hR2⟩ := ops_conc hR (l := b'.ops) rfl rfl hpos
      refine ⟨_, _, hR2, fun a ha => ha, ?_⟩
      clear hR hR2
      have hxs : ∀ (j : Nat) (u : Value), (b'.ops.flatMap opC)[j]? = some u → cur[j]? = some u := fun j u hj => by
        rw [← k4, List.getElem?_take] at hj
        split at hj
        · exact hj
        · cases hj
      refine satq_seq ?_
      conv => whnf
      refine satq_as (ent_row 10 53 5 rfl) ?_
      refine satq_seq ?_
      conv => whnf
      refine op_slice_hi (q := .i64) i rfl rfl rfl rfl rfl (by omega) rfl ?_
      conv => whnf
      refine op_app_from 5 8 ob 5 cur ((b'.ops.take i).flatMap opC) rfl rfl rfl rfl rfl rfl (by omega) (by decide) rfl rfl rfl rfl (Nat.zero_le _) (by rw [ops_length, List.length_take, Nat.min_eq_left (by omega)]) (fun j u hj => ?_) (ops_one _) (by omega) rfl ?_
      · rw [← ops_take, List.getElem?_take] at hj
        split at hj
        · exact ⟨0, rfl, by rw [Nat.zero_add]; exact hxs _ _ hj⟩
        · cases hj
      conv => whnf
      refine satq_seq ?_
      conv => whnf
      refine appK_sound rfl ?_ rfl
      conv => whnf
      refine ⟨by omega, ?_⟩
      conv => whnf
      refine satq_vc ?_
      conv => whnf
      refine op_slice_v i b'.ops.length 5 rfl rfl rfl rfl rfl (.inr ⟨_, .i64, rfl, rfl⟩) (.inl ⟨rfl, rfl⟩) (by omega) k1 rfl ?_
      conv => whnf
      refine op_app_from 5 8 ob 5 cur ((b'.ops.drop i).flatMap opC) rfl rfl rfl rfl rfl rfl (by omega) (by decide) rfl rfl rfl rfl (Nat.zero_le _) (by rw [ops_length, List.length_drop]) (fun j u hj => ?_) (ops_one _) (by omega) rfl ?_
      · rw [← ops_drop, List.getElem?_drop] at hj
        rw [if_neg (by omega)]
        exact ⟨i * 5, by rw [Option.map_some, addr_add, Nat.zero_add], hxs _ _ hj⟩
      conv => whnf
      refine atq_block ?_
      exact atq_mid ⟨⟨b'.at_, b'.pages, b'.ops.take i ++ o :: b'.ops.drop i⟩, turn_ops hT (fun p hp => by
        rcases List.mem_append.1 hp with hp | hp
        · exact hb.ops p (List.mem_of_mem_take hp)
        · rcases List.mem_cons.1 hp with rfl | hp
          · exact hoo
          · exact hb.ops p (List.mem_of_mem_drop hp)) (by simp; omega)⟩
        (ent_ren [0, 1, 2, 3, 4, 8, 6] (aI rfl (aI rfl trivial)) (aI ((Exists.intro _ (aI rfl (by trivial)))) (aI ((Exists.intro _ (aI rfl (by trivial)))) (aI ((Exists.intro _ (aI rfl (aI rfl (Or.inl rfl))))) (aI ((Exists.intro _ (aI rfl (aI rfl (aI rfl (aI rfl rfl)))))) (aI ((Exists.intro _ (aI rfl (aI rfl (aI rfl (aI rfl rfl)))))) (aI ((Exists.intro _ (aI rfl (aI rfl (aI rfl (aI (by simp; omega) (by simp [opC]))))))) (aI ((Exists.intro _ (aI rfl (aI rfl (Or.inl rfl))))) trivial))))))) rfl rfl rfl rfl rfl)
    refine satq_seq ?_
    conv => whnf
    refine satq_cond rfl (fun _ => ?_) (fun _ => ?_)
    · refine satq_seq ?_
      conv => whnf
      obtain ⟨k, hk, hkl⟩ : ∃ k : Nat, n.tmod (b'.ops.length : Int) = (k : Int) ∧ k < b'.ops.length := by
        have e1 := Int.tmod_nonneg (b'.ops.length : Int) hn0
        have e2 := Int.tmod_lt_of_pos n (b := (b'.ops.length : Int)) (by omega)
        exact ⟨(n.tmod (b'.ops.length : Int)).toNat, by omega, by omega⟩
      obtain ⟨o2, ho2⟩ : ∃ o, b'.ops[k]? = some o := ⟨_, List.getElem?_eq_getElem hkl⟩
      refine ⟨by omega, (k : Int), hk, ?_⟩
      conv => whnf
      refine satq_seq ?_
      conv => whnf
      refine ⟨⟨by omega, by omega⟩, ?_⟩
      conv => whnf
      rw [cut_ops ho]
      rotate_left
      · rw [Int.toNat_natCast]; rfl
      · rfl
      conv => whnf
      refine satq_vc ?_
      conv => whnf
      refine sat_tail 9 mixed (by kernel_rfl) ?_
      conv => whnf
      refine ⟨⟨by omega, by omega⟩, ?_⟩
      conv => whnf
      rw [cut_ops ho2]
      rotate_left
      · rw [Int.toNat_natCast]; rfl
      · rfl
      conv => whnf
      refine ⟨⟨by omega, by omega⟩, ?_⟩
      conv => whnf
      refine ⟨?_, ?_⟩
      · show (i : Int).toNat * 5 + 5 ≤ (b'.ops.flatMap opC).length
        rw [ops_length, Int.toNat_natCast]; omega
      conv => whnf
      refine ⟨⟨by omega, by omega⟩, ?_⟩
      conv => whnf
      refine ⟨?_, ?_⟩
      · show (k : Int).toNat * 5 + 5 ≤ (setAll (b'.ops.flatMap opC) ((i : Int).toNat * 5) (opC o2)).length
        rw [setAll_length, ops_length, Int.toNat_natCast]; omega
      conv => whnf
      refine atq_block ?_
      have e1 : setAll (List.flatMap opC b'.ops) ((i : Int).toNat * 5) (opC o2) = (b'.ops.set i o2).flatMap opC := ops_setAt (l := b'.ops) o2 (congrArg (· * 5) (Int.toNat_natCast i)) hil
      have e2 : setAll (setAll (List.flatMap opC b'.ops) ((i : Int).toNat * 5) (opC o2)) ((k : Int).toNat * 5) (opC o) = ((b'.ops.set i o2).set k o).flatMap opC := by
        rw [e1]; exact ops_setAt (l := b'.ops.set i o2) o (congrArg (· * 5) (Int.toNat_natCast k)) (by rw [List.length_set]; exact hkl)
      exact atq_mid ⟨⟨b'.at_, b'.pages, (b'.ops.set i o2).set k o⟩, turn_set (turn_set hT i (hb.ops o2 (List.mem_of_getElem? ho2))) k hoo⟩ (ent_drop (aI rfl (aI rfl trivial)) (aI ((by trivial)) (aI ((by trivial)) (aI ((aI rfl (Or.inl rfl))) (aI ((aI rfl (aI rfl (aI rfl rfl)))) (aI ((aI rfl (aI rfl (aI rfl rfl)))) (aI ((aI rfl (aI rfl (aI (by simp) (e2))))) (aI ((aI rfl (Or.inl rfl))) trivial))))))) rfl rfl)
    refine satq_seq ?_
    conv => whnf
    refine satq_cond rfl (fun _ => ?_) (fun _ => ?_)
    · refine satq_vc ?_
      conv => whnf
      refine ⟨_, wr32 _, ?_⟩
      conv => whnf
      refine appK_sound rfl ?_ rfl
      conv => whnf
      refine ⟨by omega, ?_⟩
      conv => whnf
      refine atq_block ?_
      exact atq_mid ⟨⟨b'.at_ ++ [n % 4294967296], b'.pages, b'.ops⟩, ⟨⟨fun x hx => by
        rcases List.mem_append.1 hx with hx | hx
        · exact hb.at_ x hx
        · simp at hx; subst hx; exact word_mod _, hb.pages, hb.ops, by simp; omega, hb.lpages, hb.lops⟩, by simp; omega, by show b'.pages.length ≤ _; omega, by show b'.ops.length ≤ _; omega⟩⟩ (ent_drop (aI rfl (aI rfl trivial)) (aI ((by trivial)) (aI ((by trivial)) (aI ((aI rfl (Or.inl rfl))) (aI ((aI rfl (aI rfl (aI (by simp) (by simp))))) (aI ((aI rfl (aI rfl (aI rfl rfl)))) (aI ((aI rfl (aI rfl (aI rfl rfl)))) (aI ((aI rfl (Or.inl rfl))) trivial))))))) rfl rfl)
    refine satq_seq ?_
    conv => whnf
    refine satq_cond rfl (fun _ => ?_) (fun _ => ?_)
    · refine satq_vc ?_
      conv => whnf
      have m5 : 0 ≤ n.tmod 5000 ∧ n.tmod 5000 < 5000 := ⟨Int.tmod_nonneg _ hn0, Int.tmod_lt_of_pos _ (by omega)⟩
      refine ⟨by omega, _, rfl, ?_⟩
      conv => whnf
      refine ⟨_, wr64 (by omega), ?_⟩
      conv => whnf
      refine appK_sound rfl ?_ rfl
      conv => whnf
      refine ⟨by omega, ?_⟩
      conv => whnf
      refine atq_block ?_
      exact atq_mid ⟨⟨b'.at_, b'.pages ++ [n.tmod 5000 - 400], b'.ops⟩, ⟨⟨hb.at_, fun x hx => by
        rcases List.mem_append.1 hx with hx | hx
        · exact hb.pages x hx
        · simp at hx; subst hx; unfold mid; omega, hb.ops, hb.lat, by simp; omega, hb.lops⟩, by show b'.at_.length ≤ _; omega, by simp; omega, by show b'.ops.length ≤ _; omega⟩⟩ (ent_drop (aI rfl (aI rfl trivial)) (aI ((by trivial)) (aI ((by trivial)) (aI ((aI rfl (Or.inl rfl))) (aI ((aI rfl (aI rfl (aI rfl rfl)))) (aI ((aI rfl (aI rfl (aI (by simp) (by simp))))) (aI ((aI rfl (aI rfl (aI rfl rfl)))) (aI ((aI rfl (Or.inl rfl))) trivial))))))) rfl rfl)
    · refine satq_vc ?_
      refine sat_tail 8 mixed (by kernel_rfl) ?_
      conv => whnf
      refine ⟨_, wr64 (by omega), ?_⟩
      conv => whnf
      obtain ⟨k, hk, hkl⟩ : ∃ k : Nat, n.tmod ((b'.at_.length : Int) + 1) = (k : Int) ∧ k ≤ b'.at_.length := by
        have e1 := Int.tmod_nonneg ((b'.at_.length : Int) + 1) hn0
        have e2 := Int.tmod_lt_of_pos n (b := ((b'.at_.length : Int) + 1)) (by omega)
        exact ⟨(n.tmod ((b'.at_.length : Int) + 1)).toNat, by omega, by omega⟩
      refine ⟨by omega, (k : Int), hk, ?_⟩
      conv => whnf
      refine op_reslice (size := 1) 3 k rfl rfl rfl rfl rfl rfl (q := .i64) rfl hkl (Nat.zero_le _) rfl ?_
      conv => whnf
      refine atq_block ?_
      exact atq_mid ⟨⟨b'.at_.take k, b'.pages, b'.ops⟩, ⟨⟨fun x hx => hb.at_ x (List.mem_of_mem_take hx), hb.pages, hb.ops, by rw [List.length_take]; omega, hb.lpages, hb.lops⟩, by show (b'.at_.take k).length ≤ _; rw [List.length_take]; omega, by show b'.pages.length ≤ _; omega, by show b'.ops.length ≤ _; omega⟩⟩ (ent_drop (aI rfl (aI rfl trivial)) (aI ((by trivial)) (aI ((by trivial)) (aI ((aI rfl (Or.inl rfl))) (aI ((aI rfl (aI rfl (aI (by simp; omega) (by simp))))) (aI ((aI rfl (aI rfl (aI rfl rfl)))) (aI ((aI rfl (aI rfl (aI rfl rfl)))) (aI ((aI rfl (Or.inl rfl))) trivial))))))) rfl rfl)
  obtain ⟨y, hy⟩ := y
  dsimp only
  refine satq_vc ?_
  conv => whnf
  refine atq_ret ?_
  conv => whnf
  exact fin_rows3 3 4 5 y (by omega) (by omega) (by omega) (.inl ⟨rfl, rfl⟩) (.inl ⟨rfl, rfl⟩) (.inl ⟨rfl, rfl⟩) fun w' v1 v2 v3 h3 hB => ⟨y, v1, v2, v3, hy, rfl, h3, hB⟩
end Go.Proofs.Ytmjfgnnefcimiaa
namespace Go.Proofs.Ytmjfgnnefcimiaa
open Go.RowKit

theorem call_turned {w0 : World} {S : List Ow} {K : AV → List Ow → Prop} (i j k : Nat) (b : Blk) (q0 q1 q2 : Int) (hi : S[i]? = some (.row 24 1 b.at_.length (b.at_.map (.int .u32)))) (hj : S[j]? = some (.row 3 1 b.pages.length (b.pages.map (.int .i64)))) (hk : S[k]? = some (.row 53 5 b.ops.length (b.ops.flatMap opC))) (hb : MadeOk b)
    (hK : ∀ b', TurnOk b' → K (.p (.agg [.row S.length, .row (S.length + 1), .row (S.length + 2)])) (S ++ blkRows b')) : CallS Try.prog w0 Gs.nil 21 [.p (.agg [.row i, .row j, .row k]), .p (.agg [.v (.int .i64 q0), .v (.int .i64 q1), .v (.int .i64 q2)])] S K := by
  refine call_blk TurnOk (by kernel_rfl) (fun r w us hR hd => ?_) hK
  obtain ⟨u1, l1, rfl, d1, u2, l2, rfl, d2, d3⟩ := hd
  obtain rfl : l2 = [] := d3
  obtain rfl := AV.val_den (x := .agg #[.int .i64 q0, .int .i64 q1, .int .i64 q2]) rfl d2
  obtain ⟨vs, rfl, hl⟩ := den_agg d1
  simp only [denL, CV.den] at hl
  obtain ⟨u1, l1, rfl, e1, u2, l2, rfl, e2, u3, l3, rfl, e3, rfl⟩ := hl
  obtain ⟨A1, c1, rfl, s1, _⟩ := hR.rowAt hi e1
  obtain ⟨A2, c2, rfl, s2, _⟩ := hR.rowAt hj e2
  obtain ⟨A3, c3, rfl, s3, _⟩ := hR.rowAt hk e3
  have hv := hb.valid
  have hlat : b.at_.length ≤ 900 := by
    unfold validB headerB at hv
    simp only [Bool.and_eq_true, decide_eq_true_eq] at hv
    omega
  have hlen := hb.len
  have hlp : b.pages.length ≤ 900 := Nat.le_trans hb.lp (by omega)
  exact turned_walk b A1 A2 A3 c1 c2 c3 q0 q1 q2 w hb.ok hlat hlp (by omega) s1 s2 s3
/-- A block that three rows and a cell hold, seen as plain memory. -/
theorem own_blkRows {w0 : World} {G : Gs} {S : List Ow} {r : Env} {w : World} (hR : Rel w0 G S r w) (k i1 i2 i3 : Nat) (b : Blk) {t : TypeId} (hk : S[k]? = some (.cells t [.row i1, .row i2, .row i3])) (h1 : S[i1]? = some (.row 24 1 b.at_.length (b.at_.map (.int .u32)))) (h2 : S[i2]? = some (.row 3 1 b.pages.length (b.pages.map (.int .i64)))) (h3 : S[i3]? = some (.row 53 5 b.ops.length (b.ops.flatMap opC))) :
    ∃ g A1 c1 A2 c2 A3 c3, r.blk k = some g ∧ CellsAt w Gs.nil g 0 [.slice A1 b.at_.length c1, .slice A2 b.pages.length c2, .slice A3 b.ops.length c3] ∧ SlAt w w.heap.size A1 (b.at_.map (.int .u32)) ∧ SlAt w w.heap.size A2 (b.pages.map (.int .i64)) ∧ OpsAt w w.heap.size A3 b.ops ∧ b.ops.length ≤ c3 ∧ c3 ≤ maxLen := by
  obtain ⟨g, us, e1, e2, e3⟩ := own_cellsAt hR k hk
  simp only [denL, CV.den] at e2
  obtain ⟨u1, l1, rfl, d1, u2, l2, rfl, d2, u3, l3, rfl, d3, rfl⟩ := e2
  obtain ⟨A1, c1, rfl, s1, _⟩ := hR.rowAt h1 d1
  obtain ⟨A2, c2, rfl, s2, _⟩ := hR.rowAt h2 d2
  obtain ⟨A3, c3, rfl, s3, m1, m2⟩ := hR.rowAt h3 d3
  exact ⟨g, A1, c1, A2, c2, A3, c3, e1, e3, s1, s2, s3, m1, m2⟩
section
variable {w0 : World} {S : List Ow} {K : AV → List Ow → Prop} {b : Blk} {A1 A2 A3 : Option Addr} {n1 n2 n3 c1 c2 c3 : Nat}
end
theorem slot_val {r : Env} {f : Fr} {a : Act} (hf : FDen r f a) {d : Nat} {x : Value} (h : (f.get d).val = some x) : a.tmps.getD d undef = x := AV.val_den h (hf d)
/-- sanity, with its measure. -/
theorem sanity_law (w : World) : Calls Try.prog 14 #[] w fun e w' => e = .returned (.bool true) ∧ Below w.heap.size w w' := sanity_true once_mu w
end Go.Proofs.Ytmjfgnnefcimiaa
