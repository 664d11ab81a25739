/- Walks: a block is evaluated. The lifter's block: calls of add; set, arithmetic. Walks: the program's memory: set. The lifter's block: arithmetic. Walks: the program's memory: Poke. The lifter reads an instruction. The lifter: Lift. Walks: the program's memory made like one of the reference. The law's lifted block. -/
import Derived.Test.YtnhdcclpjildjaaGreatL1
import Derived.Test.YtnhdcclpjildjaaGreatL10
import Derived.Test.YtnhdcclpjildjaaGreatL11
import Derived.Test.YtnhdcclpjildjaaGreatL12
import Derived.Test.YtnhdcclpjildjaaGreatL13
import Derived.Test.YtnhdcclpjildjaaGreatL14
import Derived.Test.YtnhdcclpjildjaaGreatL3
import Derived.Test.YtnhdcclpjildjaaGreatL4
import Derived.Test.YtnhdcclpjildjaaGreatL5
import Derived.Test.YtnhdcclpjildjaaGreatL6
import Derived.Test.YtnhdcclpjildjaaGreatL7
import Derived.Test.YtnhdcclpjildjaaGreatL8
import Derived.Test.YtnhdcclpjildjaaGreatL9
namespace Go.Proofs.YtnhdcclpjildjaaGreat
open Go.RowKit

abbrev outL (x : Outc) : List Value := .bool x.leaves :: intV x.index :: intV x.done :: .int .u32 x.pc :: u32L x.vars
abbrev outV (x : Outc) : Value := .agg (outL x).toArray
/-- What an evaluation comes to. -/
def EvalR (b : Blk) (vs : List Int) (n p : Nat) (M : MemP) (g : Nat) (gs : List Nat) (w : World) : Ending → World → Prop := fun e w' => e = .returned (outV (evalBlk b vs M).out) ∧ ObjsAt w' (g :: gs) (memS 0 n p (evalBlk b vs M).mem) ∧ GrownBys w w' (g :: gs)
theorem slOld_at {w0 : World} {G : Gs} {S : List Ow} {r : Env} {w : World} (hR : Rel w0 G S r w) {A : Option Addr} {xs : List Value} (h : SlOld w0 G A xs) : SlAt w w.heap.size A xs := fun j u hj => by
  obtain ⟨b, off, e1, e2, e3, e4⟩ := h j u hj
  exact ⟨b, off, e1, Nat.lt_of_lt_of_le e2 hR.size, (hR.oldCell e2 e3 _).trans e4⟩
theorem slOld_cells {w0 : World} {G : Gs} {A : Option Addr} {l : List BOp} (h : SlOld w0 G A (l.flatMap opC)) {j : Nat} {o : BOp} (hj : l[j]? = some o) : ∃ b off, A = some ⟨b, off, none⟩ ∧ CellsAt w0 G b (off + (j : Int).toNat * 5) (opC o) := by
  have at_ : ∀ k, k < 5 → (l.flatMap opC)[j * 5 + k]? = (opC o)[k]? := fun k hk => by
    have := ops_cut hj
    rw [← this, List.getElem?_take, if_pos hk, List.getElem?_drop]
  obtain ⟨b, off, e1, e2, e3, e4⟩ := h (j * 5 + 0) (.int .i64 o.code) (by rw [at_ 0 (by omega)]; rfl)
  refine ⟨b, off, e1, e2, e3, fun k u hk => ?_⟩
  have hk5 : k < 5 := by
    rcases Nat.lt_or_ge k 5 with h1 | h1
    · exact h1
    · rw [List.getElem?_eq_none (by simpa [opC] using h1)] at hk; cases hk
  obtain ⟨b', off', f1, _, _, f4⟩ := h (j * 5 + k) u (by rw [at_ k hk5]; exact hk)
  rw [e1] at f1; injection f1 with f1; injection f1 with f1 f2
  subst f1; subst f2
  rw [Int.toNat_natCast, Nat.add_assoc]; exact f4
theorem slOld_one {w0 : World} {G : Gs} {A : Option Addr} {xs : List Value} (h : SlOld w0 G A xs) {i : Int} (_hi : 0 ≤ i) {x : Value} (hx : xs[i.toNat]? = some x) : ∃ b off, A = some ⟨b, off, none⟩ ∧ CellsAt w0 G b (off + i.toNat * 1) [x] := by
  obtain ⟨b, off, e1, e2, e3, e4⟩ := h i.toNat x hx
  exact ⟨b, off, e1, cells_one e2 e3 (by rw [Nat.mul_one]; exact e4)⟩
theorem grp_T4 (g g1 g2 g3 g4 g5 n p : Nat) (M : MemP) (t1 t2 t3 t4 : TypeId) (us1 us2 us3 us4 : List Value) : grpOk ⟨[g, g1, g2, g3, g4, g5], []⟩ (memL 0 n p M [.cells t1 (us1.map .v), .cells t2 (us2.map .v), .cells t3 (us3.map .v), .cells t4 (us4.map .v)]) = true :=
  grp_memT g g1 g2 g3 g4 g5 n p M _ (by simp only [sbnd, Ow.bnd, bndL_vals])
theorem avals_vars (vs : List Int) : avals [.p (.agg (varsC vs))] = some [varsV vs] := by
  simp only [avals, AV.val, Pc.val, valL_vals]
theorem avals_op_vars (o : BOp) (vs : List Int) : avals [.p (.agg ((opC o).map .v)), .p (.agg (varsC vs))] = some [opV o, varsV vs] := by
  simp only [avals, AV.val, Pc.val, valL_vals]; rfl
/-- What is stored at the end. -/
theorem out_put {vs : List Int} (h : VarsOk vs) (c0 c1 c2 c3 : CV) (Z : List CV) (hZ : Z.length = 28) : setAll (c0 :: c1 :: c2 :: c3 :: Z) 4 (varsC vs) = c0 :: c1 :: c2 :: c3 :: varsC vs := by
  have := setAll_all (p := [c0, c1, c2, c3]) (l := Z) (m := varsC vs) (by rw [hZ, varsC_length h])
  exact this
theorem fill_of {P : Program} {S : List Ow} {f : Fr} {place : Nat → Option (Nat × Nat)} {parts : List (Nat × Operand)} {cells : List CV} {K : List CV → Prop} (m : List CV) (h : fillK P S f place parts cells = some m) (hK : K m) : (match fillK P S f place parts cells with | some m => K m | none => False) := by
  rw [h]; exact hK
abbrev outC (x : Outc) : List CV := (outL x).map .v
theorem outC_length {x : Outc} (h : VarsOk x.vars) : (outC x).length = 32 := by simp [h.len]
theorem onesL_out (S : List Ow) (x : Outc) : onesL S (outC x) = true := onesL_u32 S x.vars
theorem out_all {x : Outc} (h : VarsOk x.vars) (Z : List CV) (hZ : Z.length = 32) : setAll Z 0 (outC x) = outC x := setAll_same (by rw [hZ, outC_length h])
set_option maxRecDepth 100000
theorem atq_ret_then {w0 : World} {G : Gs} {N : Nd} {f : Fr} {S : List Ow} {Q : Exit → Act → World → Prop} {Q' : Act → World → Prop} (h : AtQ w0 G N .ret f S Q) : AtQ w0 G N .ret f S (Exit.then Q' Q) := ⟨fun a w hg => h.out a w hg⟩
theorem out_ret {w0 : World} {gs : List Nat} {n p : Nat} {f : Fr} {S : List Ow} {x : Outc} {M : MemP} {R : Ending → World → Prop} (hgs : gs.length = 6) (hx : VarsOk x.vars) (h6 : f.get 6 = .p (.c (.ref 8 0))) (h8 : S[8]? = some (.cells 55 (outC x))) (hS : ∀ (i : Nat) (o : Ow), (memS 0 n p M)[i]? = some o → S[i]? = some o)
    (hR : ∀ w', ObjsAt w' gs (memS 0 n p M) → GrownBys w0 w' gs → R (.returned (outV x)) w') : resK Tryz.prog w0 ⟨gs, []⟩ S f [.cell 6 55] fun v => Fin w0 ⟨gs, []⟩ S v R := by
  unfold resK resL resV
  dsimp only
  rw [h6]
  unfold loadK
  dsimp only
  rw [h8]
  conv => whnf
  erw [cut_all (outC_length hx)]
  conv => whnf
  exact fin_objs (U := memS 0 n p M) (val_agg _) hgs.symm hS (by rw [hgs]; exact memS_ob n p M) hR
set_option maxRecDepth 100000 in
set_option maxHeartbeats 1000000 in
theorem eval_walk (b : Blk) (vs : List Int) (n p : Nat) (M : MemP) (A1 A2 A3 : Option Addr) (c1 c2 c3 : Nat) (w : World) (g : Nat) (gs : List Nat) (hU : ObjsAt w (g :: gs) (memS 0 n p M)) (hM : M.ok n p) (hb : b.ok) (hv : validB b = true) (hvs : VarsOk vs)
    (h1 : SlOld w ⟨g :: gs, []⟩ A1 (b.at_.map (.int .u32))) (h2 : SlOld w ⟨g :: gs, []⟩ A2 (b.pages.map (.int .i64))) (h3 : SlOld w ⟨g :: gs, []⟩ A3 (b.ops.flatMap opC)) :
    Calls Tryz.prog 29 #[.agg #[.slice A1 b.at_.length c1, .slice A2 b.pages.length c2, .slice A3 b.ops.length c3], varsV vs, .pointer (some ⟨g, 0, none⟩)] w (EvalR b vs n p M g gs w) := by
  obtain ⟨g0, g1, g2, g3, g4, g5, hg⟩ := six_blocks hU
  injection hg with hg0 hgs
  subst hgs; subst hg0
  have hvl := varsC_length hvs
  have hz := zeroC_length
  have hlen := hb.lops
  have hforms := valid_formed hv
  refine calls_objs_satq [.p (.agg [.v (.slice A1 b.at_.length c1), .v (.slice A2 b.pages.length c2), .v (.slice A3 b.ops.length c3)]), AV.of (varsV vs), .p (.c (.ref 0 0))] [.agg #[.slice A1 b.at_.length c1, .slice A2 b.pages.length c2, .slice A3 b.ops.length c3], varsV vs, .pointer (some ⟨g, 0, none⟩)] Tryz.func29 Tryz.ntmps29 rfl (by simp) hU ⟨_, _, rfl, AV.of_den _ (.agg #[.slice A1 b.at_.length c1, .slice A2 b.pages.length c2, .slice A3 b.ops.length c3]), _, _, rfl, AV.of_den _ _, _, _, rfl, den_mk_ref rfl, rfl⟩ ?_
  refine satq_seq ?_
  conv => whnf
  refine satq_seq ?_
  conv => whnf
  refine call_con rfl (by kernel_rfl) (fun r w' hR => valid_ref A1 A2 A3 c1 c2 c3 b w' hb (slOld_at hR h2) (slOld_at hR h3)) ?_
  rw [valid_same, hv]
  conv => whnf
  refine satq_seq ?_
  conv => whnf
  refine ⟨fun h => absurd h (by decide), fun _ => ?_⟩
  conv => whnf
  refine satq_seq ?_
  conv => whnf
  erw [cut_all hvl]
  conv => whnf
  erw [beq_len hvl, onesL_u32]
  conv => whnf
  erw [ble_of (hvl.trans hz.symm)]
  conv => whnf
  erw [vars_put hvs _ hz]
  conv => whnf
  refine satq_seq ?_
  conv => whnf
  refine satq_in ?_
  refine satq_seq ?_
  conv => whnf
  refine satq_block ?_
  refine satq_loop (α := { y : Nat × Int × List Int × MemP // y.1 ≤ b.ops.length ∧ VarsOk y.2.2.1 ∧ y.2.2.2.ok n p ∧ EvAt b.at_.length (b.ops.drop y.1) y.2.1 ∧ evalL b.at_ (b.ops.drop y.1) y.2.1 y.2.2.1 y.2.2.2 = evalBlk b vs M })
    (fun y => [(2, .p (.c (.ref 0 0))), (3, .p (.c (.ref 6 0))), (6, .p (.c (.ref 8 0))), (8, .p (.c (.ref 9 0))), (9, one (.int .i64 y.1.2.1)), (10, one (.int .i64 (y.1.1 : Int)))])
    (fun y => memL 0 n p y.1.2.2.2 [.cells 32 [.v (.slice A1 b.at_.length c1), .v (.slice A2 b.pages.length c2), .v (.slice A3 b.ops.length c3)], .cells 53 (varsC vs), .cells 55 ((outL Outc.zero).map .v), .cells 53 (varsC y.1.2.2.1)]) (fun y => b.ops.length - y.1.1)
    ⟨(0, 0, vs, M), by show 0 ≤ _; omega, hvs, hM, by show EvAt _ (b.ops.drop 0) 0; exact evAt_start hv, by show evalL b.at_ (b.ops.drop 0) 0 vs M = _; unfold evalBlk; rw [if_pos hv]; rfl⟩
    (ent_same rfl (aI rfl (aI rfl (aI rfl (aI rfl (aI rfl (aI rfl trivial)))))) (aI ((aI rfl (Or.inl rfl))) (aI ((aI rfl (Or.inl rfl))) (aI ((aI rfl (Or.inl rfl))) (aI ((aI rfl (Or.inl rfl))) (aI ((aI rfl (Or.inl rfl))) (aI ((aI rfl (Or.inl rfl))) (aI ((aI rfl (Or.inl rfl))) (aI ((aI rfl (Or.inl rfl))) (aI ((aI rfl (Or.inl rfl))) (aI ((aI rfl (Or.inl rfl))) trivial))))))))))) fun y => ?_
  obtain ⟨⟨j, i, us, Q⟩, hj, hus, hQ, hat, hev⟩ := y
  dsimp only at hj hus hQ hat hev ⊢
  have hul := varsC_length hus
  refine satq_seq ?_
  conv => whnf
  refine ⟨fun hc => ?_, fun hc => ?_⟩
  · have hlt : j < b.ops.length := by simpa using hc
    obtain ⟨o, ho⟩ : ∃ o, b.ops[j]? = some o := ⟨_, List.getElem?_eq_getElem hlt⟩
    obtain ⟨bo, off, rfl, hcell⟩ := slOld_cells h3 ho
    have hfo := hforms o (List.mem_of_getElem? ho)
    have hoo := hb.ops o (List.mem_of_getElem? ho)
    rw [drop_at ho] at hat hev
    have hat2 := evAt_step hat
    conv => whnf
    refine satq_mid (α := { y : Int × List Int × MemP // VarsOk y.2.1 ∧ y.2.2.ok n p ∧ EvAt b.at_.length (b.ops.drop (j + 1)) y.1 ∧ evalL b.at_ (b.ops.drop (j + 1)) y.1 y.2.1 y.2.2 = evalBlk b vs M })
      (fun y => [(2, .p (.c (.ref 0 0))), (3, .p (.c (.ref 6 0))), (6, .p (.c (.ref 8 0))), (8, .p (.c (.ref 9 0))), (9, one (.int .i64 y.1.1)), (10, one (.int .i64 (j : Int)))])
      (fun y => memL 0 n p y.1.2.2 [.cells 32 [.v (.slice A1 b.at_.length c1), .v (.slice A2 b.pages.length c2), .v (.slice (some ⟨bo, off, none⟩) b.ops.length c3)], .cells 53 (varsC vs), .cells 55 ((outL Outc.zero).map .v), .cells 53 (varsC y.1.2.1)]) ?_ fun y => ?_
    · refine satq_block ?_
      refine satq_seq ?_
      conv => whnf
      refine ⟨⟨by omega, by omega⟩, ?_⟩
      conv => whnf
      refine ⟨opC o, hcell, rfl, ?_⟩
      conv => whnf
      refine satq_mid (α := Unit) (fun _ => [(2, .p (.c (.ref 0 0))), (3, .p (.c (.ref 6 0))), (6, .p (.c (.ref 8 0))), (8, .p (.c (.ref 9 0))), (9, one (.int .i64 (markI o i))), (10, one (.int .i64 (j : Int))), (11, .p (.c (.ref 10 0)))])
        (fun _ => memL 0 n p Q [.cells 32 [.v (.slice A1 b.at_.length c1), .v (.slice A2 b.pages.length c2), .v (.slice (some ⟨bo, off, none⟩) b.ops.length c3)], .cells 53 (varsC vs), .cells 55 ((outL Outc.zero).map .v), .cells 53 (varsC us), .cells 45 ((opC o).map .v)]) ?_ fun _ => ?_
      · refine satq_vc ?_
        conv => whnf
        refine ⟨fun h => ?_, fun h => ?_⟩
        · have hm : markI o i = o.n := if_pos (by simpa using h)
          have hn : 0 ≤ o.n ∧ o.n < 4294967296 := hoo.n
          conv => whnf
          refine ⟨o.n, wr64 (by omega), ?_⟩
          conv => whnf
          exact atq_mid () (ent_same rfl (aI rfl (aI rfl (aI rfl (aI rfl (aI ((congrArg (fun z => one (.int .i64 z)) hm.symm)) (aI rfl (aI rfl trivial))))))) (aI ((aI rfl (Or.inl rfl))) (aI ((aI rfl (Or.inl rfl))) (aI ((aI rfl (Or.inl rfl))) (aI ((aI rfl (Or.inl rfl))) (aI ((aI rfl (Or.inl rfl))) (aI ((aI rfl (Or.inl rfl))) (aI ((aI rfl (Or.inl rfl))) (aI ((aI rfl (Or.inl rfl))) (aI ((aI rfl (Or.inl rfl))) (aI ((aI rfl (Or.inl rfl))) (aI ((aI rfl (Or.inl rfl))) trivial))))))))))))
        · have hm : markI o i = i := if_neg (by simpa using h)
          conv => whnf
          exact atq_mid () (ent_same rfl (aI rfl (aI rfl (aI rfl (aI rfl (aI ((congrArg (fun z => one (.int .i64 z)) hm.symm)) (aI rfl (aI rfl trivial))))))) (aI ((aI rfl (Or.inl rfl))) (aI ((aI rfl (Or.inl rfl))) (aI ((aI rfl (Or.inl rfl))) (aI ((aI rfl (Or.inl rfl))) (aI ((aI rfl (Or.inl rfl))) (aI ((aI rfl (Or.inl rfl))) (aI ((aI rfl (Or.inl rfl))) (aI ((aI rfl (Or.inl rfl))) (aI ((aI rfl (Or.inl rfl))) (aI ((aI rfl (Or.inl rfl))) (aI ((aI rfl (Or.inl rfl))) trivial))))))))))))
      refine satq_in ?_
      refine satq_mid (α := Unit) (fun _ => [(2, .p (.c (.ref 0 0))), (3, .p (.c (.ref 6 0))), (6, .p (.c (.ref 8 0))), (8, .p (.c (.ref 9 0))), (9, one (.int .i64 (markI o i))), (10, one (.int .i64 (j : Int))), (11, .p (.c (.ref 10 0))), (52, one (.bool (o.code == 24 || (o.code == 23 && getV us o.a != 0))))]) (fun _ => memL 0 n p Q [.cells 32 [.v (.slice A1 b.at_.length c1), .v (.slice A2 b.pages.length c2), .v (.slice (some ⟨bo, off, none⟩) b.ops.length c3)], .cells 53 (varsC vs), .cells 55 ((outL Outc.zero).map .v), .cells 53 (varsC us), .cells 45 ((opC o).map .v)]) ?_ fun _ => ?_
      · refine satq_regionU ?_
        conv => whnf
        cases h : (o.code == 24) with
        | true =>
          repeat (first | (refine ⟨fun _ => ?_, (fun h => absurd h (by decide))⟩; (conv => whnf)) | (refine ⟨(fun h => absurd h (by decide)), fun _ => ?_⟩; (conv => whnf)))
          exact atq_mid () (ent_same rfl (aI rfl (aI rfl (aI rfl (aI rfl (aI rfl (aI rfl (aI rfl (aI rfl trivial)))))))) (aI ((aI rfl (Or.inl rfl))) (aI ((aI rfl (Or.inl rfl))) (aI ((aI rfl (Or.inl rfl))) (aI ((aI rfl (Or.inl rfl))) (aI ((aI rfl (Or.inl rfl))) (aI ((aI rfl (Or.inl rfl))) (aI ((aI rfl (Or.inl rfl))) (aI ((aI rfl (Or.inl rfl))) (aI ((aI rfl (Or.inl rfl))) (aI ((aI rfl (Or.inl rfl))) (aI ((aI rfl (Or.inl rfl))) trivial))))))))))))
        | false =>
          repeat (first | (refine ⟨fun _ => ?_, (fun h => absurd h (by decide))⟩; (conv => whnf)) | (refine ⟨(fun h => absurd h (by decide)), fun _ => ?_⟩; (conv => whnf)))
          cases h2 : (o.code == 23) with
          | true =>
            repeat (first | (refine ⟨fun _ => ?_, (fun h => absurd h (by decide))⟩; (conv => whnf)) | (refine ⟨(fun h => absurd h (by decide)), fun _ => ?_⟩; (conv => whnf)))
            refine ⟨⟨(formed_a hfo).1, by have := (formed_a hfo).2; omega⟩, ?_⟩
            conv => whnf
            repeat (first | (refine ⟨fun _ => ?_, (fun h => absurd h (by decide))⟩; (conv => whnf)) | (refine ⟨(fun h => absurd h (by decide)), fun _ => ?_⟩; (conv => whnf)))
            erw [var_at hus (formed_a hfo)]
            conv => whnf
            repeat (first | (refine ⟨fun _ => ?_, (fun h => absurd h (by decide))⟩; (conv => whnf)) | (refine ⟨(fun h => absurd h (by decide)), fun _ => ?_⟩; (conv => whnf)))
            exact atq_mid () (ent_same rfl (aI rfl (aI rfl (aI rfl (aI rfl (aI rfl (aI rfl (aI rfl (aI rfl trivial)))))))) (aI ((aI rfl (Or.inl rfl))) (aI ((aI rfl (Or.inl rfl))) (aI ((aI rfl (Or.inl rfl))) (aI ((aI rfl (Or.inl rfl))) (aI ((aI rfl (Or.inl rfl))) (aI ((aI rfl (Or.inl rfl))) (aI ((aI rfl (Or.inl rfl))) (aI ((aI rfl (Or.inl rfl))) (aI ((aI rfl (Or.inl rfl))) (aI ((aI rfl (Or.inl rfl))) (aI ((aI rfl (Or.inl rfl))) trivial))))))))))))
          | false =>
            repeat (first | (refine ⟨fun _ => ?_, (fun h => absurd h (by decide))⟩; (conv => whnf)) | (refine ⟨(fun h => absurd h (by decide)), fun _ => ?_⟩; (conv => whnf)))
            exact atq_mid () (ent_same rfl (aI rfl (aI rfl (aI rfl (aI rfl (aI rfl (aI rfl (aI rfl (aI rfl trivial)))))))) (aI ((aI rfl (Or.inl rfl))) (aI ((aI rfl (Or.inl rfl))) (aI ((aI rfl (Or.inl rfl))) (aI ((aI rfl (Or.inl rfl))) (aI ((aI rfl (Or.inl rfl))) (aI ((aI rfl (Or.inl rfl))) (aI ((aI rfl (Or.inl rfl))) (aI ((aI rfl (Or.inl rfl))) (aI ((aI rfl (Or.inl rfl))) (aI ((aI rfl (Or.inl rfl))) (aI ((aI rfl (Or.inl rfl))) trivial))))))))))))
      have hgu := guests_ok hus
      have hgl := varsC_length hgu
      have hcond : (o.code == 24 || (o.code == 23 && getV us o.a != 0)) = true ↔ (o.code = 24 ∨ (o.code = 23 ∧ getV us o.a ≠ 0)) := by simp
      refine satq_cond rfl (fun ht => ?_) (fun ht => satq_skip (atq_on ?_))
      · have hev2 := (evalL_exit (ats := b.at_) (l := b.ops.drop (j + 1)) (i := i) (M := Q) (hcond.1 ht)).symm.trans hev
        refine satq_vc ?_
        refine sat_tail 8 mixed (by kernel_rfl) ?_
        conv => whnf
        erw [cut_all hul]
        conv => whnf
        refine q_con (xs := [varsV us]) (x := varsV (guestsL us)) (avals_vars us) (by kernel_rfl) (fun r w' hR => guests_walk us w' hus.len) ?_
        conv => whnf
        refine fill_of (outC ⟨false, 0, b.at_.length, o.n, guestsL us⟩) ?_ ?_
        · conv => lhs; whnf
          erw [beq_len hgl]
          conv => lhs; whnf
          exact congrArg some (out_put hgu _ _ _ _ _ rfl)
        conv => whnf
        erw [beq_len (outC_length (x := ⟨false, 0, b.at_.length, o.n, guestsL us⟩) hgu), onesL_out]
        conv => whnf
        erw [ble_of (outC_length (x := ⟨false, 0, b.at_.length, o.n, guestsL us⟩) hgu)]
        conv => whnf
        erw [out_all (x := ⟨false, 0, b.at_.length, o.n, guestsL us⟩) hgu _ rfl]
        refine atq_ret_then (atq_ret_block (atq_ret_mid (atq_ret_round (atq_ret_block (atq_ret_then (atq_ret (out_ret (x := ⟨false, 0, b.at_.length, o.n, guestsL us⟩) (M := Q) rfl hgu rfl rfl memL_sub fun w' k1 k2 => ?_)))))))
        unfold EvalR
        rw [← hev2]
        exact ⟨rfl, k1, k2⟩
      have hne : ¬ (o.code = 24 ∨ (o.code = 23 ∧ getV us o.a ≠ 0)) := fun h => by rw [hcond.2 h] at ht; cases ht
      refine satq_in ?_
      refine satq_seq ?_
      conv => whnf
      refine satq_cond rfl (fun h25 => ?_) (fun h25 => satq_skip (atq_on ?_))
      · have hev2 := (evalL_var (ats := b.at_) (l := b.ops.drop (j + 1)) (i := i) (vs := us) (M := Q) (o := o) (by simpa using h25)).symm.trans hev
        refine satq_vc ?_
        refine sat_tail 10 mixed (by kernel_rfl) ?_
        conv => whnf
        refine ⟨⟨(formed_a hfo).1, by have := (formed_a hfo).2; omega⟩, ?_⟩
        conv => whnf
        erw [var_at hus (formed_a hfo)]
        conv => whnf
        erw [cut_all hul]
        conv => whnf
        refine q_con (xs := [varsV us]) (x := varsV (guestsL us)) (avals_vars us) (by kernel_rfl) (fun r w' hR => guests_walk us w' hus.len) ?_
        conv => whnf
        refine fill_of (outC ⟨false, 0, b.at_.length, getV us o.a, guestsL us⟩) ?_ ?_
        · conv => lhs; whnf
          erw [beq_len hgl]
          conv => lhs; whnf
          exact congrArg some (out_put hgu _ _ _ _ _ rfl)
        conv => whnf
        erw [beq_len (outC_length (x := ⟨false, 0, b.at_.length, getV us o.a, guestsL us⟩) hgu), onesL_out]
        conv => whnf
        erw [ble_of (outC_length (x := ⟨false, 0, b.at_.length, getV us o.a, guestsL us⟩) hgu)]
        conv => whnf
        erw [out_all (x := ⟨false, 0, b.at_.length, getV us o.a, guestsL us⟩) hgu _ rfl]
        refine atq_ret_then (atq_ret_block (atq_ret_mid (atq_ret_round (atq_ret_block (atq_ret_then (atq_ret (out_ret (x := ⟨false, 0, b.at_.length, getV us o.a, guestsL us⟩) (M := Q) rfl hgu rfl rfl memL_sub fun w' k1 k2 => ?_)))))))
        unfold EvalR
        rw [← hev2]
        exact ⟨rfl, k1, k2⟩
      have hn25 : o.code ≠ 25 := by simpa using h25
      obtain ⟨⟨us2, st, Q2⟩, hA⟩ : ∃ r, r = applyP o us Q := ⟨_, rfl⟩
      have hus2 : VarsOk us2 := by have := applyP_ok (M := Q) hus hoo.n; rw [← hA] at this; exact this
      have hQ2 : Q2.ok n p := by have := applyP_mem (o := o) hQ hus; rw [← hA] at this; exact this
      have hul2 := varsC_length hus2
      refine satq_seq ?_
      conv => whnf
      erw [cut_all hul]
      conv => whnf
      refine call_memW (pre := [.p (.agg ((opC o).map .v)), .p (.agg (varsC us))]) (suf := []) 0 n p Q Q2 (.tuple #[varsV us2, .bool st]) memL_six (avals_op_vars o us) rfl (by kernel_rfl) (fun w' g gs hk hU => by
        have := apply_walk o us n p Q w' g gs hU hQ hfo hoo hus
        unfold ApplyR at this
        rw [← hA] at this
        exact this) ?_
      conv => whnf
      erw [beq_len hul2, onesL_u32]
      conv => whnf
      erw [ble_of (hul2.trans hz.symm)]
      conv => whnf
      erw [vars_put hus2 _ hz]
      conv => whnf
      refine satq_in ?_
      refine satq_seq ?_
      conv => whnf
      refine satq_cond rfl (fun hst => ?_) (fun hst => satq_skip (atq_on ?_))
      · have hst' : st = false := by simpa using hst
        obtain ⟨hi0, hi1⟩ : 0 ≤ markI o i ∧ markI o i < b.at_.length := by obtain ⟨_, _, _, _, h0, h1⟩ := hat2; exact ⟨h0, h1⟩
        obtain ⟨y, hy⟩ : ∃ y, b.at_[(markI o i).toNat]? = some y := ⟨_, List.getElem?_eq_getElem (by omega)⟩
        obtain ⟨ba, offa, rfl, hca⟩ := slOld_one h1 hi0 (x := .int .u32 y) (by rw [List.getElem?_map, hy]; rfl)
        have hev2 := (evalL_leave (ats := b.at_) (l := b.ops.drop (j + 1)) (i := i) (vs := us) (M := Q) (o := o) hne hn25 (by rw [← hA]; exact hst')).symm.trans hev
        rw [← hA, hy] at hev2
        refine satq_vc ?_
        refine sat_tail 10 mixed (by kernel_rfl) ?_
        conv => whnf
        refine ⟨⟨hi0, hi1⟩, ?_⟩
        conv => whnf
        refine ⟨_, hca, ?_⟩
        conv => whnf
        erw [cut_all hul]
        conv => whnf
        refine q_con (xs := [varsV us]) (x := varsV (guestsL us)) (avals_vars us) (by kernel_rfl) (fun r w' hR => guests_walk us w' hus.len) ?_
        conv => whnf
        refine fill_of (outC ⟨true, markI o i, markI o i, y, guestsL us⟩) ?_ ?_
        · conv => lhs; whnf
          erw [beq_len hgl]
          conv => lhs; whnf
          exact congrArg some (out_put hgu _ _ _ _ _ rfl)
        conv => whnf
        erw [beq_len (outC_length (x := ⟨true, markI o i, markI o i, y, guestsL us⟩) hgu), onesL_out]
        conv => whnf
        erw [ble_of (outC_length (x := ⟨true, markI o i, markI o i, y, guestsL us⟩) hgu)]
        conv => whnf
        erw [out_all (x := ⟨true, markI o i, markI o i, y, guestsL us⟩) hgu _ rfl]
        refine atq_ret_then (atq_ret_block (atq_ret_mid (atq_ret_round (atq_ret_block (atq_ret_then (atq_ret (out_ret (x := ⟨true, markI o i, markI o i, y, guestsL us⟩) (M := Q2) rfl hgu rfl rfl memL_sub fun w' k1 k2 => ?_)))))))
        unfold EvalR
        rw [← hev2]
        exact ⟨rfl, k1, k2⟩
      have hst' : st = true := by simpa using hst
      have hev2 := (evalL_go (ats := b.at_) (l := b.ops.drop (j + 1)) (i := i) (vs := us) (M := Q) (o := o) hne hn25 (by rw [← hA]; exact hst')).symm.trans hev
      rw [← hA] at hev2
      refine satq_vc ?_
      conv => whnf
      erw [cut_all hul2]
      conv => whnf
      erw [beq_len hul2, onesL_u32]
      conv => whnf
      erw [ble_of (hul2.trans hul.symm)]
      conv => whnf
      erw [vars_put hus2 _ hul]
      conv => whnf
      erw [var_ble8 hus]
      conv => whnf
      exact atq_block (atq_mid ⟨(markI o i, us2, Q2), hus2, hQ2, hat2, hev2⟩ (ent_drop (aI rfl (aI rfl (aI rfl (aI rfl (aI rfl (aI rfl trivial)))))) (aI ((aI rfl (Or.inl rfl))) (aI ((aI rfl (Or.inl rfl))) (aI ((aI rfl (Or.inl rfl))) (aI ((aI rfl (Or.inl rfl))) (aI ((aI rfl (Or.inl rfl))) (aI ((aI rfl (Or.inl rfl))) (aI ((aI rfl (Or.inl rfl))) (aI ((aI rfl (Or.inl rfl))) (aI ((aI rfl (Or.inl rfl))) (aI ((aI rfl (Or.inl rfl))) trivial)))))))))) rfl (grp_T4 _ _ _ _ _ _ _ _ _ _ _ _ _ [.slice A1 b.at_.length c1, .slice A2 b.pages.length c2, .slice (some ⟨bo, off, none⟩) b.ops.length c3] _ _ _)))
    · obtain ⟨⟨i2, us2, Q2⟩, hus2, hQ2, hat3, hev2⟩ := y
      dsimp only at hus2 hQ2 hat3 hev2 ⊢
      refine satq_vc ?_
      conv => whnf
      refine ⟨_, wr64 (by omega), ?_⟩
      conv => whnf
      exact atq_next ⟨(j + 1, i2, us2, Q2), by show j + 1 ≤ _; omega, hus2, hQ2, hat3, hev2⟩ (ent_same rfl (aI rfl (aI rfl (aI rfl (aI rfl (aI rfl (aI rfl trivial)))))) (aI ((aI rfl (Or.inl rfl))) (aI ((aI rfl (Or.inl rfl))) (aI ((aI rfl (Or.inl rfl))) (aI ((aI rfl (Or.inl rfl))) (aI ((aI rfl (Or.inl rfl))) (aI ((aI rfl (Or.inl rfl))) (aI ((aI rfl (Or.inl rfl))) (aI ((aI rfl (Or.inl rfl))) (aI ((aI rfl (Or.inl rfl))) (aI ((aI rfl (Or.inl rfl))) trivial))))))))))) (by show b.ops.length - (j + 1) < b.ops.length - j; omega)
  · have hje : j = b.ops.length := by simp at hc; omega
    rw [hje, List.drop_length] at hev
    conv => whnf
    refine atq_out (atq_exit (atq_on ?_))
    refine satq_vc ?_
    conv => whnf
    refine atq_ret (out_ret (x := Outc.zero) (M := Q) rfl ⟨rfl, fun x hx => by rw [List.eq_of_mem_replicate hx]; exact word0⟩ rfl rfl memL_sub fun w' k1 k2 => ?_)
    unfold EvalR
    rw [← hev]
    exact ⟨rfl, k1, k2⟩
end Go.Proofs.YtnhdcclpjildjaaGreat
namespace Go.Proofs.YtnhdcclpjildjaaGreat
open Go.RowKit

theorem owns_below {w w' : World} {e : TypeId} {size n : Nat} {v : Value} {xs : List Value} (h : w.ownsRow 0 e size v n xs) (hB : Below w.heap.size w w') : w'.ownsRow 0 e size v n xs := by
  obtain ⟨h1, h2⟩ := h
  refine ⟨h1, ?_⟩
  rcases h2 with h2 | ⟨g, cap, cur, hv, hg, hh, hr⟩
  · exact .inl h2
  · exact .inr ⟨g, cap, cur, hv, hg, (hB.block g (by
      rcases Nat.lt_or_ge g w.heap.size with h3 | h3
      · exact h3
      · rw [Array.getElem?_eq_none h3] at hh; cases hh)).trans hh, hr⟩
section
variable {w : World} {g : Nat} {vA vP vO : Value} {l : List BOp}
theorem LiftAt.lt (h : LiftAt w g vA vP vO l) : g < w.heap.size := by
  rcases Nat.lt_or_ge g w.heap.size with h1 | h1
  · exact h1
  · have := h.blk; rw [Array.getElem?_eq_none h1] at this; cases this
theorem LiftAt.later {w' : World} (h : LiftAt w g vA vP vO l) (hB : Below w.heap.size w w') : LiftAt w' g vA vP vO l :=
  ⟨(hB.block g h.lt).trans h.blk, owns_below h.row hB, h.far⟩
theorem LiftTo.refl {w' : World} (h : LiftAt w g vA vP vO l) (hB : Below w.heap.size w w') : LiftTo w w' g vA vP vO l :=
  ⟨⟨vO, h.later hB, fun _b hb => .inl hb⟩, hB.os, hB.tape, hB.output, hB.size, fun b hb _ _ => hB.block b hb⟩
theorem LiftTo.later {w1 w2 : World} {l1 : List BOp} (h : LiftTo w w1 g vA vP vO l1) (hB : Below w1.heap.size w1 w2) : LiftTo w w2 g vA vP vO l1 := by
  obtain ⟨vO1, k1, k2⟩ := h.out
  exact ⟨⟨vO1, k1.later hB, k2⟩, hB.os.trans h.os, hB.tape.trans h.tape, hB.output.trans h.output, Nat.le_trans h.size hB.size, fun b hb h1 h2 => (hB.block b (Nat.lt_of_lt_of_le hb h.size)).trans (h.block b hb h1 h2)⟩
/-- One turn behind another. -/
theorem LiftTo.then {w1 w2 : World} {l1 l2 : List BOp} {vO1 : Value} (h : LiftTo w w1 g vA vP vO l1) (hb : ∀ b, vO1.ownBlock = some b → vO.ownBlock = some b ∨ w.heap.size ≤ b) (k : LiftTo w1 w2 g vA vP vO1 l2) : LiftTo w w2 g vA vP vO l2 := by
  obtain ⟨vO2, k1, k2⟩ := k.out
  refine ⟨⟨vO2, k1, fun b hb2 => ?_⟩, k.os.trans h.os, k.tape.trans h.tape, k.output.trans h.output, Nat.le_trans h.size k.size, fun b hlt h1 h2 => ?_⟩
  · rcases k2 b hb2 with h3 | h3
    · exact hb b h3
    · exact .inr (Nat.le_trans h.size h3)
  · refine (k.block b (Nat.lt_of_lt_of_le hlt h.size) h1 fun e => ?_).trans (h.block b hlt h1 h2)
    rcases hb b e with h3 | h3
    · exact h2 h3
    · omega
end
end Go.Proofs.YtnhdcclpjildjaaGreat
namespace Go.Proofs.YtnhdcclpjildjaaGreat
open Go.RowKit

abbrev keepS (l l' : List Slt) : Prop := l'.length = l.length ∧ ∀ k : Nat, (l'[k]?).map (fun s => (s.r, s.oc)) = (l[k]?).map fun s => (s.r, s.oc)
theorem keepS.refl (l : List Slt) : keepS l l := ⟨rfl, fun _ => rfl⟩
theorem keepS.trans {l l' l2 : List Slt} (h : keepS l l') (k : keepS l' l2) : keepS l l2 := ⟨k.1.trans h.1, fun i => (k.2 i).trans (h.2 i)⟩
/-- All blocks of other types are left alone. -/
def FrameT (w w' : World) : Prop := ∀ (b : Nat) (us : Array Value) (t : TypeId), w.heap[b]? = some (.cells us t (0, 0)) → t ≠ 168 → t ≠ 166 → w'.heap[b]? = w.heap[b]?
theorem FrameT.of {w w' : World} (h : Below w.heap.size w w') : FrameT w w' := fun b _us _t hb _ _ => h.block b (heap_lt hb)
theorem FrameT.trans {a b c : World} (h : FrameT a b) (k : FrameT b c) : FrameT a c := fun i us t hi h1 h2 => by
  have e := h i us t hi h1 h2
  exact (k i us t (e.trans hi) h1 h2).trans e
theorem FrameT.grown {w w' : World} {g : Nat} {us : Array Value} {t : TypeId} (hg : w.grownBy w' (some g)) (h : w.heap[g]? = some (.cells us t (0, 0))) (ht : t = 168 ∨ t = 166) : FrameT w w' := fun b vs t' hb h1 h2 => hg.block b (heap_lt hb) (by
  intro e
  injection e with e
  subst e
  rw [h] at hb
  injection hb with hb
  injection hb with _ hb
  subst hb
  rcases ht with ht | ht
  · exact h1 ht
  · exact h2 ht)
section
variable {w w' : World} {B m sb : Nat} {l : List Slt} {img : Nat → List Int}
end
end Go.Proofs.YtnhdcclpjildjaaGreat
namespace Go.Proofs.YtnhdcclpjildjaaGreat
open Go.RowKit

/-- The lifter's block turned since w, and a box that is kept. -/
structure LSt (w w' : World) (g : Nat) (vA vP vO : Value) (l' : List BOp) (pb : Nat) (us : List Value) (t : TypeId) : Prop where
  lift : LiftTo w w' g vA vP vO l'
  box : w'.heap[pb]? = some (.cells us.toArray t (0, 0))
  lt : pb < w.heap.size
  ne : pb ≠ g
  no : vO.ownBlock ≠ some pb
section
variable {w : World} {g : Nat} {vA vP vO : Value} {l : List BOp} {pb : Nat} {us : List Value} {t : TypeId}
theorem LSt.later {w1 w2 : World} {l1 : List BOp} (h : LSt w w1 g vA vP vO l1 pb us t) (hB : Below w1.heap.size w1 w2) : LSt w w2 g vA vP vO l1 pb us t :=
  ⟨h.lift.later hB, (hB.block pb (heap_lt h.box)).trans h.box, h.lt, h.ne, h.no⟩
theorem LSt.step {w1 : World} {l1 : List BOp} (h : LSt w w1 g vA vP vO l1 pb us t) : ∃ vO1, LiftAt w1 g vA vP vO1 l1 ∧ ∀ w2 l2, LiftTo w1 w2 g vA vP vO1 l2 → LSt w w2 g vA vP vO l2 pb us t := by
  obtain ⟨vO1, k1, k2⟩ := h.lift.out
  have hfar : vO1.ownBlock ≠ some pb := fun e => by
    rcases k2 pb e with h1 | h1
    · exact h.no h1
    · have := h.lt; omega
  exact ⟨vO1, k1, fun w2 l2 k => ⟨h.lift.then k2 k, (k.block pb (heap_lt h.box) h.ne hfar).trans h.box, h.lt, h.ne, h.no⟩⟩
abbrev qiT : TypeId := 62
end
end Go.Proofs.YtnhdcclpjildjaaGreat
namespace Go.Proofs.YtnhdcclpjildjaaGreat
open Go.RowKit

/-- What a call may turn of the memory that begins at B. -/
def MemTo (w w' : World) (B m sb : Nat) (l : List Slt) (img : Nat → List Int) : Prop := ∃ l', MemAt2 w' B m sb l' img ∧ keepS l l' ∧ Below B w w' ∧ FrameT w w'
theorem MemTo.later {w w1 w2 : World} {B m sb : Nat} {l : List Slt} {img : Nat → List Int} (h : MemTo w w1 B m sb l img) (hB : Below w1.heap.size w1 w2) : MemTo w w2 B m sb l img := by
  obtain ⟨l', h1, h2, h3, h4⟩ := h
  have hsz : B ≤ w1.heap.size := Nat.le_of_lt (Nat.lt_of_le_of_lt h1.Bm (heap_lt h1.hm))
  exact ⟨l', h1.later hB, h2, h3.trans (hB.mono hsz), h4.trans (FrameT.of hB)⟩
theorem MemTo.start {w w' : World} {B m sb : Nat} {l : List Slt} {img : Nat → List Int} (h : MemAt2 w B m sb l img) (hB : Below w.heap.size w w') : MemTo w w' B m sb l img := MemTo.later ⟨l, h, keepS.refl l, Below.refl _ _, fun _ _ _ _ _ _ => rfl⟩ hB
theorem MemTo.trans {w w1 w2 : World} {B m sb : Nat} {l l' : List Slt} {img : Nat → List Int} (h2 : keepS l l') (h3 : Below B w w1) (h4 : FrameT w w1) (k : MemTo w1 w2 B m sb l' img) : MemTo w w2 B m sb l img := by
  obtain ⟨l2, k1, k2, k3, k4⟩ := k
  exact ⟨l2, k1, h2.trans k2, h3.trans k3, h4.trans k4⟩
section
variable {B m sb : Nat} {img : Nat → List Int}
structure Boxes (w : World) (pm pa m : Nat) (a : Int) : Prop where
  bm : w.heap[pm]? = some (.cells #[ptrV m] 95 (0, 0))
  ba : w.heap[pa]? = some (.cells #[.int .u32 a] 35 (0, 0))
theorem Boxes.keep {w w' : World} {pm pa m : Nat} {a : Int} (h : Boxes w pm pa m a) (hf : FrameT w w') : Boxes w' pm pa m a :=
  ⟨(hf _ _ _ h.bm (by decide) (by decide)).trans h.bm, (hf _ _ _ h.ba (by decide) (by decide)).trans h.ba⟩
end
end Go.Proofs.YtnhdcclpjildjaaGreat
namespace Go.Proofs.YtnhdcclpjildjaaGreat
open Go.RowKit

/-- The first bytes from an address, as one number. -/
def readN (F : Int → Option Int) (a : Int) : Nat → Option Int
  | 0 => some 0
  | j + 1 => match readN F a j, F (a + j) with
    | some k, some b => some (k + b * 256 ^ j)
    | _, _ => none
/-- The instruction at an address, if it can be read. -/
def readQ (F : Int → Option Int) (a : Int) : Option QI := if a % 4 = 0 then (readN F a 4).bind decQ else none
theorem readN_lt {F : Int → Option Int} (hF : ∀ a b, F a = some b → 0 ≤ b ∧ b < 256) {a : Int} : ∀ {j : Nat} {k : Int}, readN F a j = some k → 0 ≤ k ∧ k < 256 ^ j
  | 0, k, h => by simp [readN] at h; subst h; decide
  | j + 1, k, h => by
    unfold readN at h
    split at h
    · rename_i k0 b h1 h2
      injection h with h
      have h3 := readN_lt hF h1
      have h4 := hF _ _ h2
      have hp : (0 : Int) < 256 ^ j := Int.pow_pos (by decide)
      rw [Int.pow_succ]
      have h5 : b * 256 ^ j ≤ 255 * 256 ^ j := Int.mul_le_mul_of_nonneg_right (by omega) (by omega)
      have h6 : 0 ≤ b * 256 ^ j := Int.mul_nonneg h4.1 (by omega)
      omega
    · cases h
theorem readN_none {F : Int → Option Int} {a : Int} {i : Nat} (h : F (a + i) = none) : ∀ {j : Nat}, i < j → readN F a j = none
  | j + 1, hj => by
    unfold readN
    rcases Nat.lt_or_ge i j with h1 | h1
    · rw [readN_none h h1]
    · have : i = j := by omega
      subst this
      rw [h]
      split
      · rename_i h1 h2; cases h2
      · rfl
/-- How far the reading is. -/
structure RdS (F : Int → Option Int) (a : Int) where
  j : Nat
  k : Int
  hj : j ≤ 4
  hk : readN F a j = some k
end Go.Proofs.YtnhdcclpjildjaaGreat
namespace Go.Proofs.YtnhdcclpjildjaaGreat
open Go.RowKit

/-- How many instructions a block may have. -/
def limN (most : Int) : Nat := (min (max most 1) 64).toNat
theorem limN_ok (most : Int) : 1 ≤ limN most ∧ limN most ≤ 64 := by unfold limN; omega
def addTo (l : List Int) (a : Int) : Nat → List Int
  | 0 => l
  | j + 1 => addPage (addTo l a j) (a + j)
theorem readQ_ok {F : Int → Option Int} (hF : ∀ a b, F a = some b → 0 ≤ b ∧ b < 256) {a : Int} {i : QI} (h : readQ F a = some i) : i.ok := by
  unfold readQ at h
  split at h
  · cases hn : readN F a 4 with
    | none => rw [hn] at h; cases h
    | some x => rw [hn] at h; exact decQ_ok (by have := readN_lt hF hn; unfold word; omega) h
  · cases h
/-- How far the lifting is. -/
structure LfS (F : Int → Option QI) (pc : Int) (n : Nat) where
  more : Bool
  k : Nat
  ps : List Int
  pre : List BOp
  hk : k ≤ n
  hps : ∀ x, x ∈ ps ↔ x ∈ liftPages pc k
  hpl : ps.length ≤ 4 * k
  hol : pre.length ≤ 8 * k
  hgo : more = true → k < n ∧ pre ++ liftOps F pc n (n - k) k = liftOps F pc n n 0 ∧ liftLen F pc n (n - k) k = liftLen F pc n n 0
  hend : more = false → pre = liftOps F pc n n 0 ∧ k = liftLen F pc n n 0
/-- How far the pages of one instruction are. -/
structure PgS (l : List Int) (a : Int) (m : Nat) where
  j : Nat
  q : List Int
  hj : j ≤ 4
  hq : ∀ x, x ∈ q ↔ x ∈ addTo l a j
  hl : q.length ≤ m + j
end Go.Proofs.YtnhdcclpjildjaaGreat
namespace Go.Proofs.YtnhdcclpjildjaaGreat
open Go.RowKit

def MemP.img (M : MemP) (k : Nat) : List Int := (M.image.drop (256 * k)).take 256
def imgTo (M : MemP) (j k : Nat) : List Int := if k < j then M.img k else zpage
/-- What the making of the memory has come to. -/
structure MadeTo (w w' : World) (m sb p : Nat) (M : MemP) (j q : Nat) (l : List Slt) : Prop where
  mem : MemAt2 w' w.heap.size m sb l (imgTo M j)
  len : l.length = p
  slots : ∀ (k : Nat) (s : Slt), l[k]? = some s → (k < q → s.r = M.rightsAt k) ∧ (j ≤ k → s.oc = false) ∧ 0 ≤ s.r ∧ s.r < 8
  below : Below w.heap.size w w'
theorem MadeTo.later {w w' w2 : World} {m sb p : Nat} {M : MemP} {j q : Nat} {l : List Slt} (h : MadeTo w w' m sb p M j q l) (hB : Below w'.heap.size w' w2) : MadeTo w w2 m sb p M j q l :=
  ⟨h.mem.later hB, h.len, h.slots, h.below.trans (hB.mono h.below.size)⟩
section
variable {w : World} {g n p : Nat} {gs : List Nat} {M : MemP}
end
end Go.Proofs.YtnhdcclpjildjaaGreat
namespace Go.Proofs.YtnhdcclpjildjaaGreat
open Go.RowKit

/-- What can be fetched from a memory. -/
def MemP.fet (M : MemP) (a : Int) : Option Int := if M.right a 4 = true then some (M.code a) else none
theorem fet_byte {M : MemP} {n p : Nat} (hM : M.ok n p) (a b : Int) (h : M.fet a = some b) : 0 ≤ b ∧ b < 256 := by
  unfold MemP.fet at h
  split at h
  · injection h with h
    subst h
    unfold MemP.code
    cases hc : M.image[a.toNat]? with
    | none => simp
    | some x => exact hM.ib x (List.mem_of_getElem? hc)
  · cases h
theorem MemAt2.keep {w w' : World} {B m sb : Nat} {l : List Slt} {img : Nat → List Int} (h : MemAt2 w B m sb l img) (hk : ∀ k, B ≤ k → k < w.heap.size → w'.heap[k]? = w.heap[k]?) : MemAt2 w' B m sb l img :=
  ⟨(hk _ h.Bm (heap_lt h.hm)).trans h.hm, (hk _ h.Bs (heap_lt h.hs)).trans h.hs, h.Bm, h.Bs, fun s hs => by obtain ⟨⟨us, hu⟩, hb⟩ := h.dp s hs; exact ⟨⟨us, hu.later (hk _ hb (heap_lt hu.at_))⟩, hb⟩,
    fun k s hs => by obtain ⟨hu, hb⟩ := h.cp k s hs; exact ⟨hu.later (hk _ hb (heap_lt hu.at_)), hb⟩, h.sep⟩
/-- The block that the lifter makes of a memory. -/
def liftM (M : MemP) (pc most : Int) : Blk := liftQ (readQ M.fet) pc (limN most)
theorem liftM_ok {M : MemP} {n p : Nat} (hM : M.ok n p) (pc most : Int) : (liftM M pc most).ok ∧ validB (liftM M pc most) = true ∧ ∀ o ∈ (liftM M pc most).ops, clean o :=
  liftQ_valid (fun _a _i h => readQ_ok (fun a b h => fet_byte hM a b h) h) pc (limN_ok most).1 (limN_ok most).2
theorem Rows3.base {B B' : Nat} {w : World} {v1 v2 v3 : Value} {b : Blk} (h : Rows3 B w v1 v2 v3 b) (hB : B' ≤ B) : Rows3 B' w v1 v2 v3 b :=
  ⟨own_base h.at_ hB, own_base h.pages hB, own_base h.ops hB, h.d12, h.d13, h.d23⟩
section
variable {w : World} {g n p : Nat} {gs : List Nat} {M : MemP}
end
end Go.Proofs.YtnhdcclpjildjaaGreat
