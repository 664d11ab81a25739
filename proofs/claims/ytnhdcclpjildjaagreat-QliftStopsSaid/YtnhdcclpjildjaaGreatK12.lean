/- A drawn region of four loads, four calls in a row, four boxes in any order between them, and the fou. -/
import Derived.Test.YtnhdcclpjildjaaGreatK11
namespace Go.Proofs.YtnhdcclpjildjaaGreat
open Go.RowKit
inductive K5 where
 | k0 | k1 | k2 | k3 | k4
inductive KSt where
 | l0 | l1 | l2 | l3
 | c (k : K5) (a b c d : Bool)
 | s1 | s2 | s3 | s4
def K5.ge : K5 → Nat → Bool
 | .k0, _ => false
 | .k1, i => Nat.beq i 0
 | .k2, i => Nat.blt i 2
 | .k3, i => Nat.blt i 3
 | .k4, _ => true
def K5.left : K5 → Nat
 | .k0 => 4
 | .k1 => 3
 | .k2 => 2
 | .k3 => 1
 | .k4 => 0
def KSt.listed : KSt → Array Bool
 | .l0 => #[false, false, false, false, false, false, false, false, false, false, false, false, false, false, false, false]
 | .l1 => #[true, false, false, false, false, false, false, false, false, false, false, false, false, false, false, false]
 | .l2 => #[true, false, true, false, false, false, false, false, false, false, false, false, false, false, false, false]
 | .l3 => #[true, false, true, false, true, false, false, false, false, false, false, false, false, false, false, false]
 | .c k a b e d => #[true, k.ge 0, true, k.ge 1, true, k.ge 2, true, k.ge 3, a, b, e, d, false, false, false, false]
 | .s1 => #[true, true, true, true, true, true, true, true, true, true, true, true, true, false, false, false]
 | .s2 => #[true, true, true, true, true, true, true, true, true, true, true, true, true, true, false, false]
 | .s3 => #[true, true, true, true, true, true, true, true, true, true, true, true, true, true, true, false]
 | .s4 => #[true, true, true, true, true, true, true, true, true, true, true, true, true, true, true, true]
def KSt.calls (a b e d : Bool) : K5 → List (Nat × KSt)
 | .k0 => [(1, .c .k1 a b e d)]
 | .k1 => [(3, .c .k2 a b e d)]
 | .k2 => [(5, .c .k3 a b e d)]
 | .k3 => [(7, .c .k4 a b e d)]
 | .k4 => []
def KSt.box (i : Nat) (y : KSt) : Bool → List (Nat × KSt)
 | false => [(i, y)]
 | true => []
def KSt.last : K5 → Bool → Bool → Bool → Bool → List (Nat × KSt)
 | .k4, true, true, true, true => [(12, .s1)]
 | _, _, _, _, _ => []
def KSt.nx : KSt → Nx KSt
 | .l0 => .q 0 .l1
 | .l1 => .q 2 .l2
 | .l2 => .q 4 .l3
 | .l3 => .q 6 (.c .k0 false false false false)
 | .c k a b e d => .alts (KSt.calls a b e d k ++ (KSt.box 8 (.c k true b e d) a ++ (KSt.box 9 (.c k a true e d) b ++ (KSt.box 10 (.c k a b true d) e ++ (KSt.box 11 (.c k a b e true) d ++ KSt.last k a b e d)))))
 | .s1 => .alts [(13, .s2)]
 | .s2 => .alts [(14, .s3)]
 | .s3 => .alts [(15, .s4)]
 | .s4 => .done
def bleft : Bool → Nat
 | true => 0
 | false => 1
def KSt.left : KSt → Nat
 | .l0 => 16
 | .l1 => 15
 | .l2 => 14
 | .l3 => 13
 | .c k a b e d => 4 + k.left + bleft a + bleft b + bleft e + bleft d
 | .s1 => 3
 | .s2 => 2
 | .s3 => 1
 | .s4 => 0
section
variable (P : Program) (W : World) (G : Gs) (N : Nd) {α : Type}
def altK (ops : Array Oper) (l : List Oper) (T : α → Fr) (U : α → List Ow) (x : α) (i : Nat) (y : α) : Prop :=
 match l[i]? with
 | none => False
 | some o => (match guardOf ops (T x) o with
  | some true => opK P W G N o (T x) (U x) fun f' S' => Ent W G N f' S' (T y) (U y)
  | _ => False)
end
section
variable {P : Program} {W : World} {G : Gs} {N : Nd} {l : List Oper} {T : KSt → Fr} {U : KSt → List Ow}
end
end Go.Proofs.YtnhdcclpjildjaaGreat
namespace Go.Proofs.YtnhdcclpjildjaaGreat
open Go.RowKit
theorem items_same (d : Nat) (xs : Array Value) (w : World) : ∀ is : List Nat, (∀ i ∈ is, ∃ v : Int, xs[i]? = some (.int .u32 v)) → (Op.eqItems (d + 1) 35 (Tryz.prog.cellsOf 35) xs xs is).run Tryz.prog w = .ok true w
 | [], _ => by simp [Op.eqItems]
 | i :: is, h => by
  obtain ⟨v, hv⟩ := h i (by simp)
  have hc : Tryz.prog.cellsOf 35 = 1 := by kernel_rfl
  have hp : (part 35 xs i).run Tryz.prog w = .ok (.int .u32 v) w := run_part_plain w (by kernel_rfl) hv
  have he : (Op.equalIn (d + 1) 35 (.int .u32 v) (.int .u32 v)).run Tryz.prog w = .ok (v == v) w := run_equalIn_int w d _ _ _ v v Tryz.underlying35
  have ih := items_same d xs w is fun j hj => h j (by simp [hj])
  rw [hc] at ih ⊢
  simp [Op.eqItems, hp, he, ih]
theorem eqFields_cons {P : Program} {d : Nat} {xs ys : Array Value} {f : Field} {fs : List Field} {w : World} {a b : Value} (hn : f.name ≠ "_") (h1 : (part f.type xs f.offset).run P w = .ok a w) (h2 : (part f.type ys f.offset).run P w = .ok b w) (h3 : (Op.equalIn d f.type a b).run P w = .ok true w) : (Op.eqFields d xs ys (f :: fs)).run P w = (Op.eqFields d xs ys fs).run P w := by
 simp only [Op.eqFields, hn, ne_eq, not_false_eq_true, if_true, Sem.run_bind, h1, h2, h3, Result.andThen_ok, Bool.not_true, Bool.false_eq_true, if_false]
end Go.Proofs.YtnhdcclpjildjaaGreat
namespace Go.Proofs.YtnhdcclpjildjaaGreat
open Go.RowKit

structure FOk (f : QForm) : Prop where
 bits : f.bits = 0 ∨ f.bits = 18 ∨ f.bits = 22
 most : 0 ≤ f.most ∧ f.most ≤ 4
 sgn : f.signed = true → 0 < f.bits ∧ f.most = 0
theorem form_ok (op : Int) : FOk (qForm op) := by
 obtain ⟨h1, h2, h3, h4, _⟩ := qForm_cases op
 exact ⟨h1, ⟨h2, h3⟩, h4⟩
theorem shl1 {b : Nat} (h : b = 18 ∨ b = 22) : IntKind.u32.wrap (1 * 2 ^ (min (b : Int).toNat IntKind.u32.bits)) = 2 ^ b := by
 rcases h with rfl | rfl <;> rfl
theorem conv64 {b : Nat} (h : b = 18 ∨ b = 22) : IntKind.u64.wrap (b : Int) = (b : Int) := by
 rcases h with rfl | rfl <;> rfl
set_option maxRecDepth 100000 in
set_option maxHeartbeats 1000000 in
theorem valid_ref03 (i : QI) (w : World) (h : 0 ≤ i.op ∧ i.op < 64) (hi : word i.imm) : Calls Tryz.prog 64 #[qiV i] w fun e w' => e = .returned (.bool (validQ i)) ∧ Below w.heap.size w w' := by
 refine calls_valN [qiV i] Tryz.func64 Tryz.ntmps64 rfl (by simp) ?_
 conv => whnf
 refine call_con rfl (by kernel_rfl) (fun r w' _ => of_ref i.op w' h) ?_
 have hf := form_ok i.op
 unfold validQ
 generalize qForm i.op = f at hf
 conv => whnf
 have e1 : ∀ (n : Int) (u : Bool), regB n u = true ∨ regB n u = false := fun n u => by cases regB n u <;> simp
 refine ⟨fun h1 => ?_, fun h1 => ?_⟩
 ·conv => whnf
  refine fin_val rfl fun w' hB => ⟨?_, hB⟩
  have : f.is = false := by simpa using h1
  rw [this]; rfl
 have his : f.is = true := by simpa using h1
 conv => whnf
 refine call_con rfl (by kernel_rfl) (fun r w' _ => reg_ref i.d f.d w') ?_
 conv => whnf
 refine call_con rfl (by kernel_rfl) (fun r w' _ => reg_ref i.a f.a w') ?_
 conv => whnf
 refine call_con rfl (by kernel_rfl) (fun r w' _ => reg_ref i.b f.b w') ?_
 rw [his]
 generalize regB i.d f.d = x1
 generalize regB i.a f.a = x2
 generalize regB i.b f.b = x3
 cases x1 <;> cases x2 <;> cases x3 <;> ((conv=>whnf); (repeat ((first | apply k1 | apply k2 | apply k3 | apply k4 | refine k5 (by decide) ?_ | refine k6 (by decide) ?_); conv => whnf)))
 all_goals first | exact fin_val rfl fun w' hB => ⟨rfl, hB⟩ | skip
 obtain ⟨is, fd, fa, fb, fs, fbits, fmost⟩ := f
 obtain ⟨hb, hm, hs⟩ := hf
 dsimp only at hb hm hs his ⊢
 rcases hb with rfl | hb
 ·(repeat ((first | apply k1 | apply k2 | apply k3 | apply k4 | refine k5 (by decide) ?_ | refine k6 (by decide) ?_); conv => whnf))
  conv => whnf
  exact fin_val rfl fun w' hB => ⟨rfl, hB⟩
 have hb0 : ¬ fbits = 0 := by omega
 refine ⟨fun hc => absurd hc (by simp; omega), fun _ => ?_⟩
 conv => whnf
 cases fs with
 | true =>
  (repeat ((first | apply k1 | apply k2 | apply k3 | apply k4 | refine k5 (by decide) ?_ | refine k6 (by decide) ?_); conv => whnf))
  conv => whnf
  refine call_con rfl (by kernel_rfl) (fun r w' _ => fits_ref i.imm fbits w' hi (.inr hb)) ?_
  conv => whnf
  refine fin_val rfl fun w' hB => ⟨?_, hB⟩
  simp [immB, hb0]
 | false =>
  (repeat ((first | apply k1 | apply k2 | apply k3 | apply k4 | refine k5 (by decide) ?_ | refine k6 (by decide) ?_); conv => whnf))
  conv => whnf
  refine ⟨fun hc => ?_, fun hc => ?_⟩
  ·conv => whnf
   refine fin_val rfl fun w' hB => ⟨?_, hB⟩
   have : 0 < fmost := by simpa using hc
   simp [immB, hb0, this]
  ·conv => whnf
   refine ⟨_, conv64 hb, ?_⟩
   conv => whnf
   refine ⟨by omega, _, shl1 hb, ?_⟩
   conv => whnf
   refine fin_val rfl fun w' hB => ⟨?_, hB⟩
   have : ¬ 0 < fmost := by simpa using hc
   simp [immB, hb0, this]
end Go.Proofs.YtnhdcclpjildjaaGreat
namespace Go.Proofs.YtnhdcclpjildjaaGreat
open Go.RowKit

structure KillS (P : Program) (w0 : World) (G : Gs) (fid : FuncId) (args : List AV) (f : Fr) (S : List Ow) (K : AV → Fr → List Ow → Prop) : Prop where
 ok : fnOk P fid = true
 out : ∀ r w us, Rel w0 G S r w → avdenL r args us → Calls P fid us.toArray w fun e w' => ∃ u x f2 S2 r2, e = .returned u ∧ Rel w0 G S2 r2 w' ∧ (∀ a, FDen r f a → FDen r2 f2 a) ∧ x.den r2 u ∧ K x f2 S2
section
variable {P : Program} {w0 : World} {G : Gs} {N : Nd} {c d : Code} {f : Fr} {S : List Ow} {Q : Exit → Act → World → Prop}
end
end Go.Proofs.YtnhdcclpjildjaaGreat
namespace Go.Proofs.YtnhdcclpjildjaaGreat
open Go.RowKit

structure JmpG (P : Program) (w0 : World) (G : Gs) (fid : FuncId) (args : List AV) (f : Fr) (S : List Ow) (K : AV → World → Gs → Fr → List Ow → Prop) : Prop where
 ok : fnOk P fid = true
 out : ∀ r w us, Rel w0 G S r w → avdenL r args us → Calls P fid us.toArray w fun e w' => ∃ u x w2 G2 f2 S2 r2, e = .returned u ∧ Rel w2 G2 S2 r2 w' ∧ (∀ a, FDen r f a → FDen r2 f2 a) ∧ x.den r2 u ∧ K x w2 G2 f2 S2
section
variable {P : Program} {w0 : World} {G : Gs} {N : Nd} {c d : Code} {f : Fr} {S : List Ow} {Q : Exit → Act → World → Prop}
end
end Go.Proofs.YtnhdcclpjildjaaGreat
namespace Go.Proofs.YtnhdcclpjildjaaGreat
open Go.RowKit

theorem ble_no {n k : Nat} (h : k < n) : Nat.ble n k = false := by
 cases e : Nat.ble n k
 ·rfl
 ·exact absurd (Nat.le_of_ble_eq_true e) (by omega)
def MemP.put (M : MemP) (y v : Int) : MemP := { M with data := M.data.set y.toNat v }
def MemP.store (a : Int) : Nat → Nat → Int → MemP → MemP
 | _, 0, _, M => M
 | i, k + 1, x, M => MemP.store a (i + 1) k (x / 256) (M.put ((a + i) % 4294967296) (x % 256))
def MemP.storeM (M : MemP) (a : Int) (m : Nat) (x : Int) : MemP := match M.bad a 2 0 m with | none => MemP.store a 0 m x M | some _ => M
theorem store_step (M : MemP) (a x : Int) {i m : Nat} (h : i < m) : MemP.store a i (m - i) x M = MemP.store a (i + 1) (m - (i + 1)) (x / 256) (M.put ((a + i) % 4294967296) (x % 256)) := by
 obtain ⟨k, hk⟩ : ∃ k, m - i = k + 1 := ⟨m - i - 1, by omega⟩
 rw [hk, show m - (i + 1) = k by omega]; rfl
theorem put_ok {M : MemP} {n p : Nat} (hM : M.ok n p) (y : Int) {v : Int} (hv : 0 ≤ v ∧ v < 256) : (M.put y v).ok n p :=
 ⟨by show (M.data.set y.toNat v).length = n; rw [List.length_set]; exact hM.ld, hM.li, hM.lr, hM.lod, hM.loi, hM.np, hM.pmax, fun z hz => by
  rcases List.mem_or_eq_of_mem_set hz with h | h
  ·exact hM.db z h
  ·rw [h]; exact hv, hM.ib, hM.rb⟩
theorem store_ok {n p : Nat} (a : Int) : ∀ (i k : Nat) (x : Int) {M : MemP}, M.ok n p → 0 ≤ x → (MemP.store a i k x M).ok n p
 | _, 0, _, M, h, _ => h
 | i, k + 1, x, M, h, hx => store_ok a (i + 1) k (x / 256) (put_ok h _ (by omega)) (by omega)
theorem storeM_ok {M : MemP} {n p : Nat} (hM : M.ok n p) (a : Int) (m : Nat) {x : Int} (hx : 0 ≤ x) : (M.storeM a m x).ok n p := by
 unfold MemP.storeM
 split
 ·exact store_ok a 0 m x hM hx
 ·exact hM
theorem set_vals (us : List Value) (i : Nat) (u : Value) : setAll (us.map CV.v) i [.v u] = (us.set i u).map CV.v := by
 show (us.map CV.v).set i (.v u) = _
 rw [List.map_set]
theorem put_dV (M : MemP) {y : Int} (v : Int) (h : y.toNat < M.data.length) : M.dV.set y.toNat (byteV v) = (M.put y v).dV := tail_set h
set_option maxRecDepth 100000 in
theorem mem_store (M : MemP) (n p : Nat) (a : Int) (m : Nat) (x : Int) (w : World) (g : Nat) (gs : List Nat) (hU : ObjsAt w (g :: gs) (memS 0 n p M)) (hM : M.ok n p) (ha : word a) (hm : 1 ≤ m ∧ m ≤ 4) (hx : word x) :
  Calls Tryz.prog 56 #[.pointer (some ⟨g, 0, none⟩), .int .u32 a, .int .i64 (m : Int), .int .u32 x] w fun e w' => e = .returned (checkV (M.bad a 2 0 m)) ∧ ObjsAt w' (g :: gs) (memS 0 n p (M.storeM a m x)) ∧ GrownBys w w' (g :: gs) := by
 obtain ⟨g0, g1, g2, g3, g4, g5, hg⟩ := six_blocks hU
 injection hg with hg0 hgs
 subst hgs; subst hg0
 refine calls_objs [.p (.c (.ref 0 0)), one (.int .u32 a), one (.int .i64 (m : Int)), one (.int .u32 x)] [.pointer (some ⟨g, 0, none⟩), .int .u32 a, .int .i64 (m : Int), .int .u32 x] Tryz.func56 Tryz.ntmps56 rfl (by simp) hU ⟨_, _, rfl, den_mk_ref rfl, avdenL_of [.int .u32 a, .int .i64 (m : Int), .int .u32 x]⟩ ?_
 conv => whnf
 refine call_memR (pre := []) (suf := [one (.int .u32 a), one (.int .i64 (m : Int)), one (.int .i64 2)]) 0 n p M (checkV (M.bad a 2 0 m)) memL_six rfl rfl (by kernel_rfl) (fun w' g gs hk hU => mem_check M n p a 2 m w' g gs hU hM ha (.inr (.inl rfl)) hm) ?_
 cases hbad : M.bad a 2 0 m with
 | some y =>
  conv => whnf
  refine ⟨fun hc => absurd hc (by decide), fun _ => ?_⟩
  conv => whnf
  exact fin_objs rfl rfl memL_sub (memS_ob n p M) fun w' h1 h2 => ⟨rfl, by unfold MemP.storeM; rw [hbad]; exact h1, h2⟩
 | none =>
  conv => whnf
  refine ⟨fun _ => ?_, fun hc => absurd hc (by decide)⟩
  conv => whnf
  refine ⟨{ y : Nat × Int × MemP // y.1 ≤ m ∧ y.2.2.ok n p ∧ word y.2.1 ∧ MemP.store a 0 m x M = MemP.store a y.1 (m - y.1) y.2.1 y.2.2 }, fun y => [(0, .p (.c (.ref 0 0))), (1, one (.int .u32 a)), (2, one (.int .i64 (m : Int))), (3, one (.int .u32 y.1.2.1)), (8, .p (.c (.ref 6 0))), (9, .p (.c (.ref 7 0))), (10, one (.int .i64 (y.1.1 : Int)))], fun y => memL 0 n p y.1.2.2 [.cells 120 [.v (.int .u32 0), .v (.int .u32 0), .v (.bool false)], .cells 120 [.v (.int .u32 0), .v (.int .u32 0), .v (.bool true)]], fun y => m - y.1.1,
   ⟨⟨(0, x, M), by show 0 ≤ m; omega, hM, hx, rfl⟩, ent_same rfl (aI rfl (aI rfl (aI rfl (aI rfl (aI rfl (aI rfl (aI rfl trivial))))))) (aI sM (aI sM (aI sM (aI sM (aI sM (aI sM (aI sM (aI sM trivial))))))))⟩, fun y => ?_⟩
  obtain ⟨⟨i, z, Q⟩, hi, hQ, hz, heq⟩ := y
  dsimp only at hi hQ hz heq ⊢
  conv => whnf
  refine ⟨fun hc => ?_, fun hc => ?_⟩
  ·have hlt : i < m := by simpa using hc
   have hidx := right_lt (bad_none hbad i (by omega) (by omega))
   rw [hM.ld] at hidx
   have hx0 : 0 ≤ (a + (i : Int)) % 4294967296 := by omega
   have hz' : 0 ≤ z ∧ z < 4294967296 := hz
   have hnp := hM.np
   have hlen : n ≤ (List.map CV.v Q.dV).length := tail_le hQ.ld
   conv => whnf
   refine ⟨(i : Int), by rw [wr32]; omega, ?_⟩
   conv => whnf
   refine ⟨(a + (i : Int)) % 4294967296, wr32 _, ?_⟩
   conv => whnf
   refine ⟨z % 256, rfl, ?_⟩
   conv => whnf
   refine ⟨⟨by omega, by omega⟩, ?_⟩
   conv => whnf
   rw [show Nat.ble (0 + ((a + (i : Int)) % 4294967296).toNat * tsz Tryz.prog 5 + [CV.v (Value.int IntKind.u8 (z % 256))].length) (List.map CV.v Q.dV).length = true from Nat.ble_eq_true_of_le (by refine Nat.le_trans ?_ hlen; show 0 + _ * 1 + 1 ≤ n; omega)]
   conv => whnf
   rw [show Nat.ble (List.map CV.v Q.dV).length 8 = false from ble_no (by omega)]
   conv => whnf
   refine ⟨by decide, z / 256, by rw [Int.tdiv_eq_ediv_of_nonneg hz'.1, wr32]; omega, ?_⟩
   conv => whnf
   refine ⟨_, wr64 (by omega), ?_⟩
   conv => whnf
   have hset : setAll (List.map CV.v Q.dV) (0 + ((a + (i : Int)) % 4294967296).toNat * tsz Tryz.prog 5) [CV.v (Value.int IntKind.u8 (z % 256))] = List.map CV.v (Q.put ((a + (i : Int)) % 4294967296) (z % 256)).dV := by
    rw [set_vals, ← put_dV Q _ (by rw [hQ.ld]; omega)]
    show List.map CV.v (Q.dV.set (0 + ((a + (i : Int)) % 4294967296).toNat * 1) _) = _
    rw [Nat.zero_add, Nat.mul_one]
   exact ⟨⟨(i + 1, z / 256, Q.put ((a + (i : Int)) % 4294967296) (z % 256)), by show i + 1 ≤ m; omega, put_ok hQ _ (by omega), (by show 0 ≤ z / 256 ∧ z / 256 < 4294967296; omega), by rw [heq, store_step Q a z hlt]⟩, ent_same rfl (aI rfl (aI rfl (aI rfl (aI rfl (aI rfl (aI rfl (aI rfl trivial))))))) (aI sM (aI ((aI rfl (Or.inl hset))) (aI sM (aI sM (aI sM (aI sM (aI sM (aI sM trivial)))))))), by show m - (i + 1) < m - i; omega⟩
  ·have hie : i = m := by simp at hc; omega
   subst hie
   rw [Nat.sub_self] at heq
   conv => whnf
   refine ⟨_, _, ent_refl, ?_⟩
   conv => whnf
   exact fin_objs rfl rfl memL_sub (memS_ob n p Q) fun w' h1 h2 => ⟨rfl, by unfold MemP.storeM; rw [hbad]; show ObjsAt w' _ (memS 0 n p (MemP.store a 0 i x M)); rw [heq]; exact h1, h2⟩
end Go.Proofs.YtnhdcclpjildjaaGreat
namespace Go.Proofs.YtnhdcclpjildjaaGreat
open Go.RowKit

def MemP.setI (M : MemP) (i : Nat) (v : Int) : MemP := { M with image := M.image.set i v }
def MemP.syncTo (M : MemP) (b : Nat) : Nat → MemP
 | 0 => M
 | j + 1 => (M.syncTo b j).setI (b + j) (M.get ((b + j : Nat) : Int))
theorem setI_ok {M : MemP} {n p : Nat} (hM : M.ok n p) (i : Nat) {v : Int} (hv : 0 ≤ v ∧ v < 256) : (M.setI i v).ok n p := by
 refine ⟨hM.ld, by show (M.image.set i v).length = n; rw [List.length_set]; exact hM.li, hM.lr, hM.lod, hM.loi, hM.np, hM.pmax, hM.db, fun x hx => ?_, hM.rb⟩
 rcases List.mem_or_eq_of_mem_set hx with h | h
 ·exact hM.ib x h
 ·rw [h]; exact hv
theorem syncTo_ok {M : MemP} {n p : Nat} (hM : M.ok n p) (b : Nat) : ∀ j, (M.syncTo b j).ok n p
 | 0 => hM
 | j + 1 => setI_ok (syncTo_ok hM b j) _ (by
   unfold MemP.get
   cases h : M.data[((b + j : Nat) : Int).toNat]? with
   | none => simp
   | some x => exact hM.db x (List.mem_of_getElem? h))
theorem syncTo_data (M : MemP) (b : Nat) : ∀ j, (M.syncTo b j).data = M.data ∧ (M.syncTo b j).rights = M.rights ∧ (M.syncTo b j).oldData = M.oldData ∧ (M.syncTo b j).oldImage = M.oldImage
 | 0 => ⟨rfl, rfl, rfl, rfl⟩
 | j + 1 => syncTo_data M b j
theorem setI_iV (M : MemP) {i : Nat} (v : Int) (h : i < M.image.length) : M.iV.set i (byteV v) = (M.setI i v).iV := tail_set h
end Go.Proofs.YtnhdcclpjildjaaGreat
namespace Go.Proofs.YtnhdcclpjildjaaGreat
open Go.RowKit

theorem cut_all {l : List CV} {n : Nat} (h : l.length = n) : cut l 0 n = some l := by
 unfold cut
 rw [show Nat.ble (0 + n) l.length = true from Nat.ble_eq_true_of_le (by omega)]
 simp [← h]
abbrev u32L (vs : List Int) : List Value := vs.map (Value.int .u32)
abbrev varsV (vs : List Int) : Value := .agg (u32L vs).toArray
theorem onesL_u32 (S : List Ow) : ∀ vs : List Int, onesL S (List.map CV.v (u32L vs)) = true
 | [] => rfl
 | v :: vs => by
  show (match oneS S (.v (.int .u32 v)) with | true => onesL S (List.map CV.v (u32L vs)) | false => false) = true
  exact onesL_u32 S vs
theorem setAll_all : ∀ {l m p : List CV}, l.length = m.length → setAll (p ++ l) p.length m = p ++ m
 | [], [], p, _ => by simp [setAll]
 | a :: l, b :: m, p, h => by
  have ih := setAll_all (l := l) (m := m) (p := p ++ [b]) (by simpa using h)
  show setAll ((p ++ a :: l).set p.length b) (p.length + 1) m = _
  rw [List.set_append_right _ _ (Nat.le_refl _), Nat.sub_self, List.set_cons_zero]
  have e : (p ++ [b]).length = p.length + 1 := by simp
  rw [e] at ih
  simpa using ih
 | [], _ :: _, _, h => by simp at h
 | _ :: _, [], _, h => by simp at h
theorem setAll_same {l m : List CV} (h : l.length = m.length) : setAll l 0 m = m := setAll_all (p := []) h
theorem valL_vals : ∀ us : List Value, valL (List.map CV.v us) = some us
 | [] => rfl
 | u :: us => by simp only [List.map_cons, valL, CV.val, valL_vals us]
theorem val_agg (us : List Value) : (AV.p (.agg (List.map CV.v us))).val = some (.agg us.toArray) := by
 simp only [AV.val, Pc.val, valL_vals us]
def guestsL (vs : List Int) : List Int := vs.take 19 ++ List.replicate (vs.length - 19) 0
def guestsTo (vs : List Int) (j : Nat) : List Int := vs.take 19 ++ List.replicate (j - 19) 0 ++ vs.drop j
theorem guests_set {vs : List Int} {j : Nat} (h : 19 ≤ j) (hj : j < vs.length) : (guestsTo vs j).set j 0 = guestsTo vs (j + 1) := by
 unfold guestsTo
 have h1 : (vs.take 19 ++ List.replicate (j - 19) (0 : Int)).length = j := by simp; omega
 rw [List.set_append_right _ _ (by omega), h1, Nat.sub_self, show vs.drop j = vs[j] :: vs.drop (j + 1) from List.drop_eq_getElem_cons hj, List.set_cons_zero, show j + 1 - 19 = (j - 19) + 1 by omega, List.replicate_succ']
 simp
theorem guestsTo_length {vs : List Int} {j : Nat} (h : 19 ≤ j) (hj : j ≤ vs.length) : (guestsTo vs j).length = vs.length := by
 unfold guestsTo; simp; omega
theorem size_walk (c : Int) (w : World) : Calls Tryz.prog 85 #[.int .i64 c] w fun e w' => e = .returned (.int .i64 (sizeI c)) ∧ Below w.heap.size w w' := by
 refine calls_val [.int .i64 c] Tryz.func85 Tryz.ntmps85 rfl (by simp) ?_
 conv => whnf
 refine ⟨c == 19, fun _ => ?_, ?_⟩
 ·conv => whnf
  exact ⟨rfl, rfl, rfl, rfl, rfl⟩
 conv => whnf
 refine ⟨fun hc => ?_, fun hc => ?_⟩
 ·conv => whnf
  exact fin_val rfl fun w' hB => ⟨by unfold sizeI; rw [if_pos (show (c == 17 || c == 19) = true from hc)], hB⟩
 ·conv => whnf
  exact fin_val rfl fun w' hB => ⟨by unfold sizeI; rw [if_neg (by rw [show (c == 17 || c == 19) = false from hc]; decide)], hB⟩
set_option maxRecDepth 100000 in
theorem guests_walk (vs : List Int) (w : World) (hl : vs.length = 28) : Calls Tryz.prog 58 #[varsV vs] w fun e w' => e = .returned (varsV (guestsL vs)) ∧ Below w.heap.size w w' := by
 refine calls_val [varsV vs] Tryz.func58 Tryz.ntmps58 rfl (by simp) ?_
 conv => whnf
 have e0 : guestsTo vs 19 = vs := by unfold guestsTo; simp
 refine ⟨{ j : Nat // 19 ≤ j ∧ j ≤ 28 }, fun x => [(1, .p (.c (.ref 0 0))), (2, .p (.c (.ref 1 0))), (3, one (.int .i64 (x.1 : Int)))], fun x => [.cells 53 (List.map CV.v (u32L (guestsTo vs x.1))), .cells 53 (List.map CV.v (u32L (List.replicate 28 0)))], fun x => 28 - x.1,
  ⟨⟨19, by omega, by omega⟩, ent_same rfl (aI rfl (aI rfl (aI rfl trivial))) (aI ((aI rfl (Or.inl (by rw [e0])))) (aI sM trivial))⟩, fun x => ?_⟩
 obtain ⟨j, hj1, hj2⟩ := x
 have hlen : (List.map CV.v (u32L (guestsTo vs j))).length = 28 := by rw [List.length_map, List.length_map, guestsTo_length hj1 (by omega), hl]
 dsimp only
 conv => whnf
 refine ⟨fun hc => ?_, fun hc => ?_⟩
 ·have hlt : j < 28 := by simp at hc; omega
  conv => whnf
  refine ⟨⟨by omega, by omega⟩, ?_⟩
  conv => whnf
  rw [show Nat.ble (0 + (j : Int).toNat * tsz Tryz.prog 35 + [CV.v (Value.int IntKind.u32 0)].length) (List.map CV.v (u32L (guestsTo vs j))).length = true from Nat.ble_eq_true_of_le (by rw [hlen]; show 0 + _ * 1 + 1 ≤ 28; omega)]
  conv => whnf
  rw [show Nat.ble (List.map CV.v (u32L (guestsTo vs j))).length 8 = false from by rw [hlen]; rfl]
  conv => whnf
  refine ⟨_, wr64 (by omega), ?_⟩
  conv => whnf
  have hset : setAll (List.map CV.v (u32L (guestsTo vs j))) (0 + (j : Int).toNat * tsz Tryz.prog 35) [CV.v (Value.int IntKind.u32 0)] = List.map CV.v (u32L (guestsTo vs (j + 1))) := by
   rw [set_vals, ← guests_set hj1 (by omega)]
   show List.map CV.v ((u32L (guestsTo vs j)).set (0 + (j : Int).toNat * 1) _) = _
   rw [Nat.zero_add, Nat.mul_one, Int.toNat_natCast]
   simp only [List.map_set]
  exact ⟨⟨j + 1, by omega, by omega⟩, ent_same rfl (aI rfl (aI rfl (aI rfl trivial))) (aI ((aI rfl (Or.inl hset))) (aI sM trivial)), by show 28 - (j + 1) < 28 - j; omega⟩
 ·have hje : j = 28 := by simp at hc; omega
  subst hje
  conv => whnf
  refine ⟨_, _, ent_refl, ?_⟩
  conv => whnf
  rw [show cut (List.map CV.v (u32L (guestsTo vs 28))) 0 (Tryz.prog.types[53].size) = some (List.map CV.v (u32L (guestsTo vs 28))) from cut_all hlen]
  conv => whnf
  have hl2 : (List.map CV.v (u32L (List.replicate 28 0))).length = 28 := rfl
  rw [show Nat.beq (List.map CV.v (u32L (guestsTo vs 28))).length (Tryz.prog.types[53].size) = true from by rw [hlen]; rfl, onesL_u32]
  conv => whnf
  rw [show Nat.ble (0 + (List.map CV.v (u32L (guestsTo vs 28))).length) (List.map CV.v (u32L (List.replicate 28 0))).length = true from Nat.ble_eq_true_of_le (by rw [hlen, hl2]; omega)]
  conv => whnf
  rw [setAll_same (show (List.map CV.v (u32L (List.replicate 28 0))).length = (List.map CV.v (u32L (guestsTo vs 28))).length by rw [hlen, hl2])]
  conv => whnf
  rw [show cut (List.map CV.v (u32L (guestsTo vs 28))) 0 (Tryz.prog.types[53].size) = some (List.map CV.v (u32L (guestsTo vs 28))) from cut_all hlen]
  conv => whnf
  refine fin_val (val_agg _) fun w' hB => ⟨?_, hB⟩
  have : guestsTo vs 28 = guestsL vs := by unfold guestsTo guestsL; rw [List.drop_eq_nil_of_le (by omega), hl]; simp
  rw [this]
end Go.Proofs.YtnhdcclpjildjaaGreat
namespace Go.Proofs.YtnhdcclpjildjaaGreat
open Go.RowKit

def getV (vs : List Int) (i : Int) : Int := (vs[i.toNat]?).getD 0
def szN (c : Int) : Nat := if c = 17 ∨ c = 19 then 1 else 4
structure Ap where
 vs : List Int
 stays : Bool
 mem : MemP
def applyP (o : BOp) (vs : List Int) (M : MemP) : Ap :=
 if o.code = 1 then ⟨vs.set o.d.toNat o.n, true, M⟩
 else if o.code = 2 then ⟨vs.set o.d.toNat (getV vs o.a), true, M⟩
 else if o.code = 16 ∨ o.code = 17 then (match M.bad ((getV vs o.a + o.n) % 4294967296) 1 0 (szN o.code) with
  | none => ⟨vs.set o.d.toNat (M.load ((getV vs o.a + o.n) % 4294967296) 0 (szN o.code)), true, M⟩
  | some _ => ⟨vs, false, M⟩)
 else if o.code = 18 ∨ o.code = 19 then ⟨vs, (M.bad ((getV vs o.a + o.n) % 4294967296) 2 0 (szN o.code)).isNone, M.storeM ((getV vs o.a + o.n) % 4294967296) (szN o.code) (getV vs o.b)⟩
 else if o.code = 21 then ⟨vs, getV vs o.a != 0, M⟩
 else if o.code = 22 then ⟨vs, false, M⟩
 else if isBin o.code = true then ⟨vs.set o.d.toNat (wordOp o.code (getV vs o.a) (getV vs o.b)), true, M⟩
 else ⟨vs, true, M⟩
structure Outc where
 leaves : Bool
 index : Int
 done : Int
 pc : Int
 vars : List Int
def Outc.zero : Outc := ⟨false, 0, 0, 0, List.replicate 28 0⟩
structure EvR where
 out : Outc
 mem : MemP
def markI (o : BOp) (i : Int) : Int := if o.code = 20 then o.n else i
def evalL (ats : List Int) : List BOp → Int → List Int → MemP → EvR
 | [], _, _, M => ⟨Outc.zero, M⟩
 | o :: l, i, vs, M =>
  if o.code = 24 ∨ (o.code = 23 ∧ getV vs o.a ≠ 0) then ⟨⟨false, 0, ats.length, o.n, guestsL vs⟩, M⟩
  else if o.code = 25 then ⟨⟨false, 0, ats.length, getV vs o.a, guestsL vs⟩, M⟩
  else if (applyP o vs M).stays = true then evalL ats l (markI o i) (applyP o vs M).vs (applyP o vs M).mem
  else ⟨⟨true, markI o i, markI o i, (ats[(markI o i).toNat]?).getD 0, guestsL vs⟩, (applyP o vs M).mem⟩
def evalBlk (b : Blk) (vs : List Int) (M : MemP) : EvR := if validB b = true then evalL b.at_ b.ops 0 vs M else ⟨Outc.zero, M⟩
structure VarsOk (vs : List Int) : Prop where
 len : vs.length = 28
 word : ∀ x ∈ vs, word x
theorem getV_word {vs : List Int} (h : VarsOk vs) (i : Int) : word (getV vs i) := by
 unfold getV
 cases hi : vs[i.toNat]? with
 | none => exact word0
 | some x => exact h.word x (List.mem_of_getElem? hi)
theorem getV_set_ne {vs : List Int} {d v x : Int} (hd : 0 ≤ d) (hv : 0 ≤ v) (hne : v ≠ d) : getV (vs.set d.toNat x) v = getV vs v := by
 unfold getV; rw [List.getElem?_set_ne (by omega)]
theorem getV_set {vs : List Int} (h : VarsOk vs) {d x : Int} (hd : 0 ≤ d ∧ d < 28) : getV (vs.set d.toNat x) d = x := by
 unfold getV; rw [List.getElem?_set_self (by rw [h.len]; omega)]; rfl
theorem set_ok {vs : List Int} (h : VarsOk vs) (i : Nat) {x : Int} (hx : Go.Proofs.YtnhdcclpjildjaaGreat.word x) : VarsOk (vs.set i x) := ⟨by rw [List.length_set]; exact h.len, fun y hy => by
 rcases List.mem_or_eq_of_mem_set hy with h1 | h1
 ·exact h.word y h1
 ·rw [h1]; exact hx⟩
theorem applyP_ok {o : BOp} {vs : List Int} {M : MemP} (h : VarsOk vs) (hn : word o.n) : VarsOk (applyP o vs M).vs := by
 unfold applyP
 split
 ·exact set_ok h _ hn
 split
 ·exact set_ok h _ (getV_word h _)
 split
 ·split
  ·exact set_ok h _ (load_word M _ _ _)
  ·exact h
 split
 ·exact h
 split
 ·exact h
 split
 ·exact h
 split
 ·exact set_ok h _ (wordOp_word (getV_word h _) (getV_word h _))
 ·exact h
theorem formed_a {o : BOp} (hf : formedB o = true) : 0 ≤ o.a ∧ o.a < 28 := by
 have h := (formed_split.1 hf).2.2.1
 cases hA : hasA o.code <;> rw [hA] at h <;> simp [fieldB] at h <;> omega
theorem formed_b {o : BOp} (hf : formedB o = true) : 0 ≤ o.b ∧ o.b < 28 := by
 have h := (formed_split.1 hf).2.2.2.1
 cases hB : hasB o.code <;> rw [hB] at h <;> simp [fieldB] at h <;> omega
theorem formed_d' {o : BOp} (hf : formedB o = true) : 0 ≤ o.d ∧ o.d < 28 := by
 have h := (formed_split.1 hf).2.1
 cases hD : hasD o.code <;> rw [hD] at h <;> simp [fieldB] at h <;> omega
theorem applyP_const {o : BOp} (h : o.code = 1) (vs : List Int) (M : MemP) : applyP o vs M = ⟨vs.set o.d.toNat o.n, true, M⟩ := by unfold applyP; rw [if_pos h]
theorem applyP_move {o : BOp} (h : o.code = 2) (vs : List Int) (M : MemP) : applyP o vs M = ⟨vs.set o.d.toNat (getV vs o.a), true, M⟩ := by unfold applyP; rw [if_neg (by omega), if_pos h]
theorem applyP_bin {o : BOp} (h : isBin o.code = true) (vs : List Int) (M : MemP) : applyP o vs M = ⟨vs.set o.d.toNat (wordOp o.code (getV vs o.a) (getV vs o.b)), true, M⟩ := by
 have h' : 3 ≤ o.code ∧ o.code ≤ 15 := by unfold isBin at h; simpa using h
 unfold applyP; rw [if_neg (by omega), if_neg (by omega), if_neg (by omega), if_neg (by omega), if_neg (by omega), if_neg (by omega), if_pos h]
theorem applyP_guard {o : BOp} (h : o.code = 21) (vs : List Int) (M : MemP) : applyP o vs M = ⟨vs, getV vs o.a != 0, M⟩ := by
 unfold applyP; rw [if_neg (by omega), if_neg (by omega), if_neg (by omega), if_neg (by omega), if_pos h]
theorem evalL_go {ats : List Int} {o : BOp} {l : List BOp} {i : Int} {vs : List Int} {M : MemP} (h1 : ¬ (o.code = 24 ∨ (o.code = 23 ∧ getV vs o.a ≠ 0))) (h2 : o.code ≠ 25) (h3 : (applyP o vs M).stays = true) : evalL ats (o :: l) i vs M = evalL ats l (markI o i) (applyP o vs M).vs (applyP o vs M).mem := by
 show (if _ then _ else _) = _
 rw [if_neg h1, if_neg h2, if_pos h3]
/-! Fold. -/
/-! Copies. -/
end Go.Proofs.YtnhdcclpjildjaaGreat
namespace Go.Proofs.YtnhdcclpjildjaaGreat
open Go.RowKit

def Agree (m : Nat) (vs us : List Int) : Prop := ∀ v : Nat, v < 28 → m.testBit v = true → getV vs (v : Int) = getV us (v : Int)
structure StepSame (o : BOp) (m : Nat) (vs us : List Int) (M : MemP) : Prop where
 a : hasA o.code = true → getV us o.a = getV vs o.a
 stays : (applyP o us M).stays = (applyP o vs M).stays
 mem : (applyP o us M).mem = (applyP o vs M).mem
 agree : (applyP o vs M).stays = true → Agree m (applyP o vs M).vs (applyP o us M).vs
 guests : observesB o = true → guestsL us = guestsL vs
end Go.Proofs.YtnhdcclpjildjaaGreat
namespace Go.Proofs.YtnhdcclpjildjaaGreat
open Go.RowKit

theorem marks_le : ∀ (l : List BOp) {s s2 : Ck}, ckRun s l = some s2 → s.marks ≤ s2.marks
 | [], s, s2, h => by injection h with h; subst h; exact Nat.le_refl _
 | o :: l, s, s2, h => by
  obtain ⟨s1, h1, h2⟩ := ck_uncons h
  have := marks_le l h2
  obtain ⟨_, _, h3, h4⟩ := ck_step h1
  by_cases hc : o.code = 20
  ·have := (h3 hc).2; subst this; simp at *; omega
  ·have : s1.marks = s.marks := by
    have := h4 hc
    rw [this.2]
   omega
def EvAt (n : Nat) (l : List BOp) (i : Int) : Prop := ∃ s s2 : Ck, ckRun s l = some s2 ∧ s2.marks = n ∧ 0 ≤ i ∧ i < n
theorem evAt_step {n : Nat} {o : BOp} {l : List BOp} {i : Int} (h : EvAt n (o :: l) i) : EvAt n l (markI o i) := by
 obtain ⟨s, s2, h1, h2, h3, h4⟩ := h
 obtain ⟨s1, k1, k2⟩ := ck_uncons h1
 obtain ⟨_, _, k3, _⟩ := ck_step k1
 have hm := marks_le l k2
 refine ⟨s1, s2, k2, h2, ?_⟩
 unfold markI
 split
 ·rename_i hc
  obtain ⟨e1, e2⟩ := k3 hc
  subst e2
  have hm : s.marks + 1 ≤ s2.marks := hm
  omega
 ·exact ⟨h3, h4⟩
theorem evAt_start {b : Blk} (hv : validB b = true) : EvAt b.at_.length b.ops 0 := by
 obtain ⟨hh, s, h1, h2⟩ := valid_parts.1 hv
 refine ⟨_, s, h1, h2, by omega, ?_⟩
 unfold headerB at hh
 simp only [Bool.and_eq_true, decide_eq_true_eq] at hh
 omega
theorem drop_at {l : List BOp} {j : Nat} {o : BOp} (h : l[j]? = some o) : l.drop j = o :: l.drop (j + 1) := by
 have hj : j < l.length := by
  rcases Nat.lt_or_ge j l.length with h1 | h1
  ·exact h1
  ·rw [List.getElem?_eq_none h1] at h; cases h
 rw [List.drop_eq_getElem_cons hj]
 rw [List.getElem?_eq_getElem hj] at h
 injection h with h; rw [h]
theorem evalL_exit {ats : List Int} {o : BOp} {l : List BOp} {i : Int} {vs : List Int} {M : MemP} (h : o.code = 24 ∨ (o.code = 23 ∧ getV vs o.a ≠ 0)) : evalL ats (o :: l) i vs M = ⟨⟨false, 0, ats.length, o.n, guestsL vs⟩, M⟩ := if_pos h
theorem evalL_var {ats : List Int} {o : BOp} {l : List BOp} {i : Int} {vs : List Int} {M : MemP} (h : o.code = 25) : evalL ats (o :: l) i vs M = ⟨⟨false, 0, ats.length, getV vs o.a, guestsL vs⟩, M⟩ := by
 show (if _ then _ else _) = _
 rw [if_neg (by omega), if_pos h]
theorem evalL_leave {ats : List Int} {o : BOp} {l : List BOp} {i : Int} {vs : List Int} {M : MemP} (h1 : ¬ (o.code = 24 ∨ (o.code = 23 ∧ getV vs o.a ≠ 0))) (h2 : o.code ≠ 25) (h3 : (applyP o vs M).stays = false) :
  evalL ats (o :: l) i vs M = ⟨⟨true, markI o i, markI o i, (ats[(markI o i).toNat]?).getD 0, guestsL vs⟩, (applyP o vs M).mem⟩ := by
 show (if _ then _ else _) = _
 rw [if_neg h1, if_neg h2, if_neg (by rw [h3]; decide)]
theorem guests_ok {vs : List Int} (h : VarsOk vs) : VarsOk (guestsL vs) := by
 refine ⟨?_, fun x hx => ?_⟩
 ·unfold guestsL; simp [h.len]
 ·unfold guestsL at hx
  rcases List.mem_append.1 hx with h1 | h1
  ·exact h.word x (List.mem_of_mem_take h1)
  ·rw [List.eq_of_mem_replicate h1]; exact word0
theorem applyP_mem {o : BOp} {vs : List Int} {M : MemP} {n p : Nat} (h : M.ok n p) (hv : VarsOk vs) : (applyP o vs M).mem.ok n p := by
 unfold applyP
 split
 ·exact h
 split
 ·exact h
 split
 ·split <;> exact h
 split
 ·exact storeM_ok h _ _ (getV_word hv _).1
 split
 ·exact h
 split
 ·exact h
 split <;> exact h

/-! Opt. -/
end Go.Proofs.YtnhdcclpjildjaaGreat
namespace Go.Proofs.YtnhdcclpjildjaaGreat
open Go.RowKit

abbrev varsC (vs : List Int) : List CV := List.map CV.v (u32L vs)
theorem varsC_length {vs : List Int} (h : VarsOk vs) : (varsC vs).length = 28 := by simp [h.len]
theorem zeroC_length : (varsC (List.replicate 28 0)).length = 28 := rfl
theorem beq_len {l : List CV} {n : Nat} (h : l.length = n) : Nat.beq l.length n = true := by rw [h]; exact Nat.beq_refl n
theorem ble_of {l m : List CV} (h : l.length = m.length) : Nat.ble (0 + l.length) m.length = true := Nat.ble_eq_true_of_le (by omega)
theorem var_at {vs : List Int} (h : VarsOk vs) {i : Int} (hi : 0 ≤ i ∧ i < 28) : (varsC vs)[0 + i.toNat * 1]? = some (.v (.int .u32 (getV vs i))) := by
 have hlt : i.toNat < vs.length := by rw [h.len]; omega
 unfold getV
 rw [Nat.zero_add, Nat.mul_one, List.getElem?_map, List.getElem?_map, List.getElem?_eq_getElem hlt]
 rfl
theorem var_ble {vs : List Int} (h : VarsOk vs) {i : Int} (hi : 0 ≤ i ∧ i < 28) (c : CV) : Nat.ble (0 + i.toNat * 1 + [c].length) (varsC vs).length = true := Nat.ble_eq_true_of_le (by rw [varsC_length h]; show 0 + _ * 1 + 1 ≤ 28; omega)
theorem var_ble8 {vs : List Int} (h : VarsOk vs) : Nat.ble (varsC vs).length 8 = false := by rw [varsC_length h]; rfl
theorem var_set (vs : List Int) (i : Int) (x : Int) : setAll (varsC vs) (0 + i.toNat * 1) [.v (.int .u32 x)] = varsC (vs.set i.toNat x) := by
 rw [set_vals, Nat.zero_add, Nat.mul_one]
 show _ = List.map CV.v (List.map (Value.int .u32) (vs.set i.toNat x))
 rw [List.map_set (f := Value.int .u32)]
theorem vars_put {vs : List Int} (h : VarsOk vs) (Z : List CV) (hZ : Z.length = 28) : setAll Z 0 (varsC vs) = varsC vs := setAll_same (by rw [hZ, varsC_length h])
theorem val_tup2 (us : List Value) (x : Value) : (AV.tup [.agg (List.map CV.v us), .c (.v x)]).val = some (.tuple #[.agg us.toArray, x]) := by
 simp only [AV.val, pvalL, Pc.val, valL_vals us, CV.val]
theorem ObjsAt.pre {w : World} {gs hs : List Nat} {U V : List Ow} (hl : U.length = gs.length) (hob : ObAll U.length U) (h : ObjsAt w (gs ++ hs) (U ++ V)) : ObjsAt w gs U := by
 have at_ : ∀ {i b : Nat}, gs[i]? = some b → (gs ++ hs)[i]? = some b := fun {i b} hb => by
  have : i < gs.length := by
   rcases Nat.lt_or_ge i gs.length with h1 | h1
   ·exact h1
   ·rw [List.getElem?_eq_none h1] at hb; cases hb
  rw [List.getElem?_append_left this]; exact hb
 have back : ∀ i b, i < U.length → (envOf (gs ++ hs)).blk i = some b → (envOf gs).blk i = some b := fun i b hi hb => by
  have hb : (gs ++ hs)[i]? = some b := hb
  rw [List.getElem?_append_left (by omega)] at hb; exact hb
 refine ⟨hl, fun i j b hi hj => h.nodup i j b (at_ hi) (at_ hj), fun g hg => h.lt g (List.mem_append.2 (.inl hg)), fun i o ho => ?_⟩
 have hi : i < U.length := by
  rcases Nat.lt_or_ge i U.length with h1 | h1
  ·exact h1
  ·rw [List.getElem?_eq_none h1] at ho; cases ho
 have h1 := h.own i o (by rw [List.getElem?_append_left hi]; exact ho)
 have h2 := hob o (List.mem_of_getElem? ho)
 cases o with
 | cells t l =>
  obtain ⟨b, us, e1, e2, e3⟩ := h1
  refine ⟨b, us, back i b hi e1, e2, denL_sh (k := 0) (n := U.length) (fun j b hj hb => back j b hj (by rwa [Nat.zero_add] at hb)) h2 ?_⟩
  have : ∀ l : List CV, l.map (CV.sh 0) = l := fun l => by
   refine (List.map_congr_left fun c _ => ?_).trans (List.map_id l)
   cases c <;> simp [CV.sh]
  rw [this]; exact e3
 | row => exact h2.elim
 | ext => exact h2.elim
 | view => exact h2.elim
 | gone => exact h2.elim
theorem GrownBys.trans {w w1 w2 : World} {gs gs' : List Nat} (h : GrownBys w w1 gs) (k : GrownBys w1 w2 gs') (hn : ∀ g ∈ gs', g ∈ gs ∨ w.heap.size ≤ g) : GrownBys w w2 gs :=
 ⟨k.os.trans h.os, k.tape.trans h.tape, k.output.trans h.output, Nat.le_trans h.size k.size, fun b hb hg => (k.block b (Nat.lt_of_lt_of_le hb h.size) (fun hm => by
  rcases hn b hm with h1 | h1
  ·exact hg h1
  ·omega)).trans (h.block b hb hg)⟩
section
variable {P : Program} {w0 : World} {G : Gs} {N : Nd} {f : Fr} {S : List Ow} {Q : Exit → Act → World → Prop}
theorem atq_ret_block {id : Nat} (h : AtQ w0 G N .ret f S Q) : AtQ w0 G N .ret f S (Exit.inBlock id Q) := ⟨fun a w hg => h.out a w hg⟩
theorem atq_ret_mid {α : Type} {T : α → Fr} {U : α → List Ow} (h : AtQ w0 G N .ret f S Q) : AtQ w0 G N .ret f S (MidQ w0 G N T U Q) := ⟨fun a w hg => h.out a w hg⟩
theorem atq_ret_round {α : Type} {T : α → Fr} {U : α → List Ow} {m : α → Nat} {n : Nat} (h : AtQ w0 G N .ret f S Q) : AtQ w0 G N .ret f S (RoundQ w0 G N T U m n Q) := ⟨fun a w hg => h.out a w hg⟩
theorem equal_nil_at {t e : TypeId} (ht : P.underlying t = some (.pointer e)) (p : Addr) (d : Nat) (w : World) : (Op.equalIn (d + 1) t (.pointer (some p)) (.pointer none)).run P w = .ok false w := by
 simp [Op.equalIn, run_underlying ht]
theorem equal_nil {t e : TypeId} (ht : P.underlying t = some (.pointer e)) (p : Addr) (_ : Unit) (w : World) : (Op.equal t (.pointer (some p)) (.pointer none)).run P w = .ok false w := equal_nil_at ht p 9999 w
theorem q_not_nil {K : AV → Prop} {o : Oper} {t t' e : TypeId} {x y : Operand} {i off : Nat} (hop : o.op = .binOp .eql t x y t') (ht : P.underlying t = some (.pointer e)) (hx : f.ev x = .p (.c (.ref i off))) (hy : f.ev y = one (.pointer none)) (hk : K (one (.bool false))) : QRun P w0 G S f o K := by
 refine ⟨_, hk, fun r a hf => ?_⟩
 have h1 := hf.ev x
 have h2 := hf.ev y
 rw [hx] at h1; rw [hy] at h2
 obtain ⟨b, hb, hu⟩ := den_ref h1
 refine ⟨_, den_one _ _, fun w hR => ?_⟩
 have he : (Op.equal t (.pointer (some ⟨b, off, none⟩)) (.pointer none)).run P w = .ok false w := equal_nil ht _ () w
 simp [execOp, hop, hu, den_v h2, eqGuard, binOp, he]
end
end Go.Proofs.YtnhdcclpjildjaaGreat
namespace Go.Proofs.YtnhdcclpjildjaaGreat
open Go.RowKit

abbrev encV (x : Option Int) : Value := .tuple #[.int .u32 (x.getD 0), intV (if x.isSome then 0 else 12)]
def QI.zero : QI := ⟨0, 0, 0, 0, 0⟩
abbrev decV (x : Option QI) : Value := .tuple #[qiV (x.getD QI.zero), intV (if x.isSome then 0 else 12)]
theorem validQ_range {i : QI} (h : validQ i = true) : (0 ≤ i.op ∧ i.op < 64) ∧ (0 ≤ i.d ∧ i.d < 16) ∧ (0 ≤ i.a ∧ i.a < 16) ∧ (0 ≤ i.b ∧ i.b < 16) := by
 obtain ⟨h1, h2, h3, h4, _⟩ := validQ_parts h
 have h5 := (qForm_cases i.op).2.2.2.2.1 h1
 have := regB_range h2
 have := regB_range h3
 have := regB_range h4
 omega
set_option maxRecDepth 100000 in
set_option maxHeartbeats 1000000 in
theorem encode_ref (i : QI) (w : World) (h : 0 ≤ i.op ∧ i.op < 64) (hi : word i.imm) : Calls Tryz.prog 35 #[qiV i] w fun e w' => e = .returned (encV (encQ i)) ∧ Below w.heap.size w w' := by
 refine calls_valN [qiV i] Tryz.func35 Tryz.ntmps35 rfl (by simp) ?_
 conv => whnf
 refine call_con rfl (by kernel_rfl) (fun r w' _ => valid_ref03 i w' h hi) ?_
 unfold encQ
 cases hv : validQ i with
 | false =>
  conv => whnf
  (repeat ((first | apply k1 | apply k2 | apply k3 | apply k4 | refine k5 (by decide) ?_ | refine k6 (by decide) ?_); conv => whnf))
  exact fin_val rfl fun w' hB => ⟨rfl, hB⟩
 | true =>
  obtain ⟨r0, rd, ra, rb⟩ := validQ_range hv
  conv => whnf
  (repeat ((first | apply k1 | apply k2 | apply k3 | apply k4 | refine k5 (by decide) ?_ | refine k6 (by decide) ?_); conv => whnf))
  conv => whnf
  refine ⟨i.op, by rw [wr32]; omega, ?_⟩
  conv => whnf
  refine ⟨i.op * 67108864, by rw [wr32]; omega, ?_⟩
  conv => whnf
  refine ⟨i.d, by rw [wr32]; omega, ?_⟩
  conv => whnf
  refine ⟨i.d * 4194304, by rw [wr32]; omega, ?_⟩
  conv => whnf
  refine ⟨i.op * 67108864 + i.d * 4194304, by rw [wr32]; omega, ?_⟩
  conv => whnf
  refine ⟨i.a, by rw [wr32]; omega, ?_⟩
  conv => whnf
  refine ⟨i.a * 262144, by rw [wr32]; omega, ?_⟩
  conv => whnf
  refine ⟨i.op * 67108864 + i.d * 4194304 + i.a * 262144, by rw [wr32]; omega, ?_⟩
  conv => whnf
  refine ⟨i.b, by rw [wr32]; omega, ?_⟩
  conv => whnf
  refine ⟨i.b * 16384, by rw [wr32]; omega, ?_⟩
  conv => whnf
  refine ⟨i.op * 67108864 + i.d * 4194304 + i.a * 262144 + i.b * 16384, by rw [wr32]; omega, ?_⟩
  conv => whnf
  refine call_con rfl (by kernel_rfl) (fun r w' _ => of_ref i.op w' h) ?_
  have hw : wordQ i = i.op * 67108864 + i.d * 4194304 + i.a * 262144 + i.b * 16384 + i.imm % 2 ^ (qForm i.op).bits := rfl
  have hword := (decQ_word hv hi).2
  rw [hw] at hword ⊢
  have hf := form_ok i.op
  generalize qForm i.op = f at hf hword ⊢
  conv => whnf
  rcases hf.bits with hb | hb
  ·rw [hb]
   (repeat ((first | apply k1 | apply k2 | apply k3 | apply k4 | refine k5 (by decide) ?_ | refine k6 (by decide) ?_); conv => whnf))
   conv => whnf
   refine fin_val rfl fun w' hB => ⟨?_, hB⟩
   simp [encV]
  ·refine ⟨fun hc => absurd hc (by simp; omega), fun _ => ?_⟩
   conv => whnf
   refine ⟨_, conv64 hb, ?_⟩
   conv => whnf
   refine ⟨by omega, _, shl1 hb, ?_⟩
   conv => whnf
   refine ⟨by rcases hb with hb | hb <;> rw [hb] <;> decide, i.imm % 2 ^ f.bits, Int.tmod_eq_emod_of_nonneg hi.1, ?_⟩
   conv => whnf
   refine ⟨i.op * 67108864 + i.d * 4194304 + i.a * 262144 + i.b * 16384 + i.imm % 2 ^ f.bits, ?_, ?_⟩
   ·rw [wr32]; unfold word at hword; omega
   conv => whnf
   refine fin_val rfl fun w' hB => ⟨?_, hB⟩
   simp [encV]
theorem word_zero : word 0 := by unfold word; omega
theorem q26 {w : Int} (h : word w) : w.tdiv 67108864 = w / 67108864 ∧ (0 ≤ w / 67108864 ∧ w / 67108864 < 64) := by
 obtain ⟨h0, h1⟩ := h
 exact ⟨Int.tdiv_eq_ediv_of_nonneg h0, by omega⟩
def fieldsF (f : QForm) (w : Int) : QI :=
 ⟨w / 67108864, if f.d = true then w / 4194304 % 16 else 0, if f.a = true then w / 262144 % 16 else 0, if f.b = true then w / 16384 % 16 else 0, if f.signed = true then sgnW (w % 2 ^ f.bits) f.bits else w % 2 ^ f.bits⟩
theorem fieldsF_is (w : Int) : fieldsF (qForm (w / 67108864)) w = fieldsQ w := rfl
set_option maxRecDepth 100000 in
set_option maxHeartbeats 2000000 in
theorem decode_ref (x : Int) (w : World) (hx : word x) : Calls Tryz.prog 79 #[.int .u32 x] w fun e w' => e = .returned (decV (decQ x)) ∧ Below w.heap.size w w' := by
 have h0 := hx.1
 obtain ⟨q1, q2⟩ := q26 hx
 refine calls_valN [.int .u32 x] Tryz.func79 Tryz.ntmps79 rfl (by simp) ?_
 conv => whnf
 refine ⟨by decide, x / 67108864, by rw [q1, wr32]; omega, ?_⟩
 conv => whnf
 refine ⟨x / 67108864, wr64 (by omega), ?_⟩
 conv => whnf
 refine call_con rfl (by kernel_rfl) (fun r w' _ => of_ref (x / 67108864) w' q2) ?_
 have hf := form_ok (x / 67108864)
 unfold decQ
 rw [← fieldsF_is]
 generalize qForm (x / 67108864) = f at hf ⊢
 obtain ⟨is, fd, fa, fb, fs, bits, most⟩ := f
 obtain ⟨hb, hm, hs⟩ := hf
 dsimp only at hb hm hs
 have fld : ∀ k : Int, 0 < k → x.tdiv k = x / k ∧ (x / k).tmod 16 = x / k % 16 ∧ IntKind.i64.wrap (x / k % 16) = x / k % 16 := fun k hk => by
  have h1 : 0 ≤ x / k := Int.ediv_nonneg h0 (by omega)
  exact ⟨Int.tdiv_eq_ediv_of_nonneg h0, Int.tmod_eq_emod_of_nonneg h1, wr64 (by omega)⟩
 obtain ⟨d1, d2, d3⟩ := fld 4194304 (by omega)
 obtain ⟨a1, a2, a3⟩ := fld 262144 (by omega)
 obtain ⟨b1, b2, b3⟩ := fld 16384 (by omega)
 obtain ⟨y, hy⟩ : ∃ y, fieldsF ⟨is, fd, fa, fb, fs, bits, most⟩ x = y := ⟨_, rfl⟩
 rw [hy]
 have hyop : y.op = x / 67108864 := by rw [← hy]; rfl
 have e0 : x % 2 ^ 0 = 0 := by simp
 cases fd <;> cases fa <;> cases fb <;> ((conv=>whnf); (repeat (first | (refine ⟨fun _ => ?_, nT⟩; (conv=>whnf)) | (refine ⟨nF, fun _ => ?_⟩; (conv=>whnf)) | (refine ⟨by decide, x / 4194304, by rw [d1, wr32]; omega, ?_⟩; (conv=>whnf); refine ⟨by decide, x / 4194304 % 16, d2, ?_⟩; (conv=>whnf); refine ⟨_, d3, ?_⟩; (conv=>whnf)) | (refine ⟨by decide, x / 262144, by rw [a1, wr32]; omega, ?_⟩; (conv=>whnf); refine ⟨by decide, x / 262144 % 16, a2, ?_⟩; (conv=>whnf); refine ⟨_, a3, ?_⟩; (conv=>whnf)) | (refine ⟨by decide, x / 16384, by rw [b1, wr32]; omega, ?_⟩; (conv=>whnf); refine ⟨by decide, x / 16384 % 16, b2, ?_⟩; (conv=>whnf); refine ⟨_, b3, ?_⟩; (conv=>whnf)))))
 all_goals
  rcases hb with rfl | hb
  ·obtain rfl : fs = false := by
    cases fs with
    | false => rfl
    | true => exact absurd (hs rfl).1 (by omega)
   (repeat ((first | apply k1 | apply k2 | apply k3 | apply k4 | refine k5 (by decide) ?_ | refine k6 (by decide) ?_); conv => whnf))
   simp only [fieldsF, e0, eq_self, if_true, Bool.false_eq_true, if_false] at hy
   refine call_con (xs := [qiV y]) (by rw [← hy]; rfl) (by kernel_rfl) (fun r w' _ => encode_ref y w' (by rw [hyop]; exact q2) (by rw [← hy]; exact word_zero)) ?_
   conv => whnf
   generalize encQ y = ey
   cases ey with
   | none =>
    conv => whnf
    (repeat ((first | apply k1 | apply k2 | apply k3 | apply k4 | refine k5 (by decide) ?_ | refine k6 (by decide) ?_); conv => whnf))
    conv => whnf
    exact fin_val rfl fun w' hB => ⟨by simp [decV, QI.zero], hB⟩
   | some z =>
    conv => whnf
    (repeat ((first | apply k1 | apply k2 | apply k3 | apply k4 | refine k5 (by decide) ?_ | refine k6 (by decide) ?_); conv => whnf))
    conv => whnf
    refine ⟨fun hc => ?_, fun hc => ?_⟩
    ·conv => whnf
     refine fin_val rfl fun w' hB => ⟨?_, hB⟩
     have : ¬ z = x := by simpa using hc
     simp [decV, QI.zero, this]
    ·conv => whnf
     refine fin_val rfl fun w' hB => ⟨?_, hB⟩
     have : z = x := by simpa using hc
     rw [if_pos (by rw [this]), ← hy]; rfl
  ·have hlow : 0 ≤ x % 2 ^ bits ∧ x % 2 ^ bits < 4194304 := by rcases hb with hb | hb <;> rw [hb] <;> omega
   refine ⟨fun _ => ?_, fun hc => absurd hc (by simp; omega)⟩
   conv => whnf
   refine ⟨_, conv64 hb, ?_⟩
   conv => whnf
   refine ⟨by omega, _, shl1 hb, ?_⟩
   conv => whnf
   refine ⟨by show (2 : Int) ^ bits ≠ 0; rcases hb with hb | hb <;> rw [hb] <;> decide, x % 2 ^ bits, Int.tmod_eq_emod_of_nonneg h0, ?_⟩
   have hwl : word (x % 2 ^ bits) := ⟨hlow.1, by omega⟩
   conv => whnf
   cases fs with
   | false =>
    (repeat ((first | apply k1 | apply k2 | apply k3 | apply k4 | refine k5 (by decide) ?_ | refine k6 (by decide) ?_); conv => whnf))
    simp only [fieldsF, eq_self, if_true, Bool.false_eq_true, if_false] at hy
    refine call_con (xs := [qiV y]) (by rw [← hy]; rfl) (by kernel_rfl) (fun r w' _ => encode_ref y w' (by rw [hyop]; exact q2) (by rw [← hy]; exact hwl)) ?_
    conv => whnf
    generalize encQ y = ey
    cases ey with
    | none =>
     conv => whnf
     (repeat ((first | apply k1 | apply k2 | apply k3 | apply k4 | refine k5 (by decide) ?_ | refine k6 (by decide) ?_); conv => whnf))
     conv => whnf
     exact fin_val rfl fun w' hB => ⟨by simp [decV, QI.zero], hB⟩
    | some z =>
     conv => whnf
     (repeat ((first | apply k1 | apply k2 | apply k3 | apply k4 | refine k5 (by decide) ?_ | refine k6 (by decide) ?_); conv => whnf))
     conv => whnf
     refine ⟨fun hc => ?_, fun hc => ?_⟩
     ·conv => whnf
      refine fin_val rfl fun w' hB => ⟨?_, hB⟩
      have : ¬ z = x := by simpa using hc
      simp [decV, QI.zero, this]
     ·conv => whnf
      refine fin_val rfl fun w' hB => ⟨?_, hB⟩
      have : z = x := by simpa using hc
      rw [if_pos (by rw [this]), ← hy]; rfl

   | true =>
    (repeat ((first | apply k1 | apply k2 | apply k3 | apply k4 | refine k5 (by decide) ?_ | refine k6 (by decide) ?_); conv => whnf))
    simp only [fieldsF, eq_self, if_true, Bool.false_eq_true, if_false] at hy
    refine call_con rfl (by kernel_rfl) (fun r w' _ => sign_ref (x % 2 ^ bits) bits w' hwl (.inr hb)) ?_
    conv => whnf
    refine call_con (xs := [qiV y]) (by rw [← hy]; rfl) (by kernel_rfl) (fun r w' _ => encode_ref y w' (by rw [hyop]; exact q2) (by rw [← hy]; exact sgnW_w _ (.inr hb))) ?_
    conv => whnf
    generalize encQ y = ey
    cases ey with
    | none =>
     conv => whnf
     (repeat ((first | apply k1 | apply k2 | apply k3 | apply k4 | refine k5 (by decide) ?_ | refine k6 (by decide) ?_); conv => whnf))
     conv => whnf
     exact fin_val rfl fun w' hB => ⟨by simp [decV, QI.zero], hB⟩
    | some z =>
     conv => whnf
     (repeat ((first | apply k1 | apply k2 | apply k3 | apply k4 | refine k5 (by decide) ?_ | refine k6 (by decide) ?_); conv => whnf))
     conv => whnf
     refine ⟨fun hc => ?_, fun hc => ?_⟩
     ·conv => whnf
      refine fin_val rfl fun w' hB => ⟨?_, hB⟩
      have : ¬ z = x := by simpa using hc
      simp [decV, QI.zero, this]
     ·conv => whnf
      refine fin_val rfl fun w' hB => ⟨?_, hB⟩
      have : z = x := by simpa using hc
      rw [if_pos (by rw [this]), ← hy]; rfl

end Go.Proofs.YtnhdcclpjildjaaGreat
