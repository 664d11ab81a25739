/- Walks: a block is evaluated. Two outcomes compared by ==. -/
import Derived.Test.YtmjfgnnefcimiaaM1
import Derived.Test.YtmjfgnnefcimiaaM13
import Derived.Test.YtmjfgnnefcimiaaM14
import Derived.Test.YtmjfgnnefcimiaaM15
import Derived.Test.YtmjfgnnefcimiaaM16
import Derived.Test.YtmjfgnnefcimiaaM17
import Derived.Test.YtmjfgnnefcimiaaM18
import Derived.Test.YtmjfgnnefcimiaaM19
import Derived.Test.YtmjfgnnefcimiaaM21
import Derived.Test.YtmjfgnnefcimiaaM22
import Derived.Test.YtmjfgnnefcimiaaM23
import Derived.Test.YtmjfgnnefcimiaaM24
import Derived.Test.YtmjfgnnefcimiaaM27
import Derived.Test.YtmjfgnnefcimiaaM28
import Derived.Test.YtmjfgnnefcimiaaM29
import Derived.Test.YtmjfgnnefcimiaaM3
import Derived.Test.YtmjfgnnefcimiaaM30
import Derived.Test.YtmjfgnnefcimiaaM31
import Derived.Test.YtmjfgnnefcimiaaM32
import Derived.Test.YtmjfgnnefcimiaaM33
import Derived.Test.YtmjfgnnefcimiaaM5
import Derived.Test.YtmjfgnnefcimiaaM6
import Derived.Test.YtmjfgnnefcimiaaM7
namespace Go.Proofs.Ytmjfgnnefcimiaa
open Go.RowKit

abbrev outL (x : Outc) : List Value := .bool x.leaves :: intV x.index :: intV x.done :: .int .u32 x.pc :: u32L x.vars
abbrev outV (x : Outc) : Value := .agg (outL x).toArray
/-- What an evaluation comes to. -/
def EvalR (b : Blk) (vs : List Int) (n p : Nat) (M : MemP) (g : Nat) (gs : List Nat) (w : World) : Ending → World → Prop := fun e w' => e = .returned (outV (evalBlk b vs M).out) ∧ ObjsAt w' (g :: gs) (memS 0 n p (evalBlk b vs M).mem) ∧ GrownBys w w' (g :: gs)
theorem slOld_at {w0 : World} {G : Gs} {S : List Ow} {r : Env} {w : World} (hR : Rel w0 G S r w) {A : Option Addr} {xs : List Value} (h : SlOld w0 G A xs) : SlAt w w.heap.size A xs := fun j u hj => by
  obtain ⟨b, off, e1, e2, e3, e4⟩ := h j u hj
  exact ⟨b, off, e1, Nat.lt_of_lt_of_le e2 hR.size, (hR.oldCell e2 e3 _).trans e4⟩
theorem slOld_cells {w0 : World} {G : Gs} {A : Option Addr} {l : List BOp} (h : SlOld w0 G A (l.flatMap opC)) {j : Nat} {o : BOp} (hj : l[j]? = some o) : ∃ b off, A = some ⟨b, off, none⟩ ∧ CellsAt w0 G b (off + (j : Int).toNat * 5) (opC o) := by
  have at_ : ∀ k, k < 5 → (l.flatMap opC)[j * 5 + k]? = (opC o)[k]? := fun k hk => by
    have := ops_cut hj
    rw [← this, List.getElem?_take, if_pos hk, List.getElem?_drop]
  obtain ⟨b, off, e1, e2, e3, e4⟩ := h (j * 5 + 0) (.int .i64 o.code) (by rw [at_ 0 (by omega)]; rfl)
  refine ⟨b, off, e1, e2, e3, fun k u hk => ?_⟩
  have hk5 : k < 5 := by
    rcases Nat.lt_or_ge k 5 with h1 | h1
    · exact h1
    · rw [List.getElem?_eq_none (by simpa [opC] using h1)] at hk; cases hk
  obtain ⟨b', off', f1, _, _, f4⟩ := h (j * 5 + k) u (by rw [at_ k hk5]; exact hk)
  rw [e1] at f1; injection f1 with f1; injection f1 with f1 f2
  subst f1; subst f2
  rw [Int.toNat_natCast, Nat.add_assoc]; exact f4
theorem slOld_one {w0 : World} {G : Gs} {A : Option Addr} {xs : List Value} (h : SlOld w0 G A xs) {i : Int} (_hi : 0 ≤ i) {x : Value} (hx : xs[i.toNat]? = some x) : ∃ b off, A = some ⟨b, off, none⟩ ∧ CellsAt w0 G b (off + i.toNat * 1) [x] := by
  obtain ⟨b, off, e1, e2, e3, e4⟩ := h i.toNat x hx
  exact ⟨b, off, e1, cells_one e2 e3 (by rw [Nat.mul_one]; exact e4)⟩
theorem grp_T4 (g g1 g2 g3 g4 g5 n p : Nat) (M : MemP) (t1 t2 t3 t4 : TypeId) (us1 us2 us3 us4 : List Value) : grpOk ⟨[g, g1, g2, g3, g4, g5], []⟩ (memL 0 n p M [.cells t1 (us1.map .v), .cells t2 (us2.map .v), .cells t3 (us3.map .v), .cells t4 (us4.map .v)]) = true :=
  grp_memT g g1 g2 g3 g4 g5 n p M _ (by simp only [sbnd, Ow.bnd, bndL_vals])
theorem avals_vars (vs : List Int) : avals [.p (.agg (varsC vs))] = some [varsV vs] := by
  simp only [avals, AV.val, Pc.val, valL_vals]
theorem avals_op_vars (o : BOp) (vs : List Int) : avals [.p (.agg ((opC o).map .v)), .p (.agg (varsC vs))] = some [opV o, varsV vs] := by
  simp only [avals, AV.val, Pc.val, valL_vals]; rfl
/-- What is stored at the end. -/
theorem out_put {vs : List Int} (h : VarsOk vs) (c0 c1 c2 c3 : CV) (Z : List CV) (hZ : Z.length = 28) : setAll (c0 :: c1 :: c2 :: c3 :: Z) 4 (varsC vs) = c0 :: c1 :: c2 :: c3 :: varsC vs := by
  have := setAll_all (p := [c0, c1, c2, c3]) (l := Z) (m := varsC vs) (by rw [hZ, varsC_length h])
  exact this
theorem fill_of {P : Program} {S : List Ow} {f : Fr} {place : Nat → Option (Nat × Nat)} {parts : List (Nat × Operand)} {cells : List CV} {K : List CV → Prop} (m : List CV) (h : fillK P S f place parts cells = some m) (hK : K m) : (match fillK P S f place parts cells with | some m => K m | none => False) := by
  rw [h]; exact hK
abbrev outC (x : Outc) : List CV := (outL x).map .v
theorem outC_length {x : Outc} (h : VarsOk x.vars) : (outC x).length = 32 := by simp [h.len]
theorem onesL_out (S : List Ow) (x : Outc) : onesL S (outC x) = true := onesL_u32 S x.vars
theorem out_all {x : Outc} (h : VarsOk x.vars) (Z : List CV) (hZ : Z.length = 32) : setAll Z 0 (outC x) = outC x := setAll_same (by rw [hZ, outC_length h])
set_option maxRecDepth 100000
theorem atq_ret_then {w0 : World} {G : Gs} {N : Nd} {f : Fr} {S : List Ow} {Q : Exit → Act → World → Prop} {Q' : Act → World → Prop} (h : AtQ w0 G N .ret f S Q) : AtQ w0 G N .ret f S (Exit.then Q' Q) := ⟨fun a w hg => h.out a w hg⟩
theorem out_ret {w0 : World} {gs : List Nat} {n p : Nat} {f : Fr} {S : List Ow} {x : Outc} {M : MemP} {R : Ending → World → Prop} (hgs : gs.length = 6) (hx : VarsOk x.vars) (h6 : f.get 6 = .p (.c (.ref 8 0))) (h8 : S[8]? = some (.cells 47 (outC x))) (hS : ∀ (i : Nat) (o : Ow), (memS 0 n p M)[i]? = some o → S[i]? = some o)
    (hR : ∀ w', ObjsAt w' gs (memS 0 n p M) → GrownBys w0 w' gs → R (.returned (outV x)) w') : resK Try.prog w0 ⟨gs, []⟩ S f [.cell 6 47] fun v => Fin w0 ⟨gs, []⟩ S v R := by
  unfold resK resL resV
  dsimp only
  rw [h6]
  unfold loadK
  dsimp only
  rw [h8]
  conv => whnf
  erw [cut_all (outC_length hx)]
  conv => whnf
  exact fin_objs (U := memS 0 n p M) (val_agg _) hgs.symm hS (by rw [hgs]; exact memS_ob n p M) hR
set_option maxRecDepth 100000 in
set_option maxHeartbeats 1000000 in
theorem eval_walk (b : Blk) (vs : List Int) (n p : Nat) (M : MemP) (A1 A2 A3 : Option Addr) (c1 c2 c3 : Nat) (w : World) (g : Nat) (gs : List Nat) (hU : ObjsAt w (g :: gs) (memS 0 n p M)) (hM : M.ok n p) (hb : b.ok) (hv : validB b = true) (hvs : VarsOk vs)
    (h1 : SlOld w ⟨g :: gs, []⟩ A1 (b.at_.map (.int .u32))) (h2 : SlOld w ⟨g :: gs, []⟩ A2 (b.pages.map (.int .i64))) (h3 : SlOld w ⟨g :: gs, []⟩ A3 (b.ops.flatMap opC)) :
    Calls Try.prog 30 #[.agg #[.slice A1 b.at_.length c1, .slice A2 b.pages.length c2, .slice A3 b.ops.length c3], varsV vs, .pointer (some ⟨g, 0, none⟩)] w (EvalR b vs n p M g gs w) := by
  obtain ⟨g0, g1, g2, g3, g4, g5, hg⟩ := six_blocks hU
  injection hg with hg0 hgs
  subst hgs; subst hg0
  have hvl := varsC_length hvs
  have hz := zeroC_length
  have hlen := hb.lops
  have hforms := valid_formed hv
  refine calls_objs_satq [.p (.agg [.v (.slice A1 b.at_.length c1), .v (.slice A2 b.pages.length c2), .v (.slice A3 b.ops.length c3)]), AV.of (varsV vs), .p (.c (.ref 0 0))] [.agg #[.slice A1 b.at_.length c1, .slice A2 b.pages.length c2, .slice A3 b.ops.length c3], varsV vs, .pointer (some ⟨g, 0, none⟩)] Try.func30 Try.ntmps30 rfl (by simp) hU ⟨_, _, rfl, AV.of_den _ (.agg #[.slice A1 b.at_.length c1, .slice A2 b.pages.length c2, .slice A3 b.ops.length c3]), _, _, rfl, AV.of_den _ _, _, _, rfl, den_mk_ref rfl, rfl⟩ ?_
  refine satq_seq ?_
  conv => whnf
  refine satq_seq ?_
  conv => whnf
  refine call_con rfl (by kernel_rfl) (fun r w' hR => valid_ref A1 A2 A3 c1 c2 c3 b w' hb (slOld_at hR h2) (slOld_at hR h3)) ?_
  rw [valid_same, hv]
  conv => whnf
  refine satq_seq ?_
  conv => whnf
  refine ⟨fun h => absurd h (by decide), fun _ => ?_⟩
  conv => whnf
  refine satq_seq ?_
  conv => whnf
  erw [cut_all hvl]
  conv => whnf
  erw [beq_len hvl, onesL_u32]
  conv => whnf
  erw [ble_of (hvl.trans hz.symm)]
  conv => whnf
  erw [vars_put hvs _ hz]
  conv => whnf
  refine satq_seq ?_
  conv => whnf
  refine satq_in ?_
  refine satq_seq ?_
  conv => whnf
  refine satq_block ?_
  refine satq_loop (α := { y : Nat × Int × List Int × MemP // y.1 ≤ b.ops.length ∧ VarsOk y.2.2.1 ∧ y.2.2.2.ok n p ∧ EvAt b.at_.length (b.ops.drop y.1) y.2.1 ∧ evalL b.at_ (b.ops.drop y.1) y.2.1 y.2.2.1 y.2.2.2 = evalBlk b vs M })
    (fun y => [(2, .p (.c (.ref 0 0))), (3, .p (.c (.ref 6 0))), (6, .p (.c (.ref 8 0))), (8, .p (.c (.ref 9 0))), (9, one (.int .i64 y.1.2.1)), (10, one (.int .i64 (y.1.1 : Int)))])
    (fun y => memL 0 n p y.1.2.2.2 [.cells 32 [.v (.slice A1 b.at_.length c1), .v (.slice A2 b.pages.length c2), .v (.slice A3 b.ops.length c3)], .cells 45 (varsC vs), .cells 47 ((outL Outc.zero).map .v), .cells 45 (varsC y.1.2.2.1)]) (fun y => b.ops.length - y.1.1)
    ⟨(0, 0, vs, M), by show 0 ≤ _; omega, hvs, hM, by show EvAt _ (b.ops.drop 0) 0; exact evAt_start hv, by show evalL b.at_ (b.ops.drop 0) 0 vs M = _; unfold evalBlk; rw [if_pos hv]; rfl⟩
    (ent_same rfl (aI rfl (aI rfl (aI rfl (aI rfl (aI rfl (aI rfl trivial)))))) (aI ((aI rfl (Or.inl rfl))) (aI ((aI rfl (Or.inl rfl))) (aI ((aI rfl (Or.inl rfl))) (aI ((aI rfl (Or.inl rfl))) (aI ((aI rfl (Or.inl rfl))) (aI ((aI rfl (Or.inl rfl))) (aI ((aI rfl (Or.inl rfl))) (aI ((aI rfl (Or.inl rfl))) (aI ((aI rfl (Or.inl rfl))) (aI ((aI rfl (Or.inl rfl))) trivial))))))))))) fun y => ?_
  obtain ⟨⟨j, i, us, Q⟩, hj, hus, hQ, hat, hev⟩ := y
  dsimp only at hj hus hQ hat hev ⊢
  have hul := varsC_length hus
  refine satq_seq ?_
  conv => whnf
  refine ⟨fun hc => ?_, fun hc => ?_⟩
  · have hlt : j < b.ops.length := by simpa using hc
    obtain ⟨o, ho⟩ : ∃ o, b.ops[j]? = some o := ⟨_, List.getElem?_eq_getElem hlt⟩
    obtain ⟨bo, off, rfl, hcell⟩ := slOld_cells h3 ho
    have hfo := hforms o (List.mem_of_getElem? ho)
    have hoo := hb.ops o (List.mem_of_getElem? ho)
    rw [drop_at ho] at hat hev
    have hat2 := evAt_step hat
    conv => whnf
    refine satq_mid (α := { y : Int × List Int × MemP // VarsOk y.2.1 ∧ y.2.2.ok n p ∧ EvAt b.at_.length (b.ops.drop (j + 1)) y.1 ∧ evalL b.at_ (b.ops.drop (j + 1)) y.1 y.2.1 y.2.2 = evalBlk b vs M })
      (fun y => [(2, .p (.c (.ref 0 0))), (3, .p (.c (.ref 6 0))), (6, .p (.c (.ref 8 0))), (8, .p (.c (.ref 9 0))), (9, one (.int .i64 y.1.1)), (10, one (.int .i64 (j : Int)))])
      (fun y => memL 0 n p y.1.2.2 [.cells 32 [.v (.slice A1 b.at_.length c1), .v (.slice A2 b.pages.length c2), .v (.slice (some ⟨bo, off, none⟩) b.ops.length c3)], .cells 45 (varsC vs), .cells 47 ((outL Outc.zero).map .v), .cells 45 (varsC y.1.2.1)]) ?_ fun y => ?_
    · refine satq_block ?_
      refine satq_seq ?_
      conv => whnf
      refine ⟨⟨by omega, by omega⟩, ?_⟩
      conv => whnf
      refine ⟨opC o, hcell, rfl, ?_⟩
      conv => whnf
      refine satq_mid (α := Unit) (fun _ => [(2, .p (.c (.ref 0 0))), (3, .p (.c (.ref 6 0))), (6, .p (.c (.ref 8 0))), (8, .p (.c (.ref 9 0))), (9, one (.int .i64 (markI o i))), (10, one (.int .i64 (j : Int))), (11, .p (.c (.ref 10 0)))])
        (fun _ => memL 0 n p Q [.cells 32 [.v (.slice A1 b.at_.length c1), .v (.slice A2 b.pages.length c2), .v (.slice (some ⟨bo, off, none⟩) b.ops.length c3)], .cells 45 (varsC vs), .cells 47 ((outL Outc.zero).map .v), .cells 45 (varsC us), .cells 53 ((opC o).map .v)]) ?_ fun _ => ?_
      · refine satq_vc ?_
        conv => whnf
        refine ⟨fun h => ?_, fun h => ?_⟩
        · have hm : markI o i = o.n := if_pos (by simpa using h)
          have hn : 0 ≤ o.n ∧ o.n < 4294967296 := hoo.n
          conv => whnf
          refine ⟨o.n, wr64 (by omega), ?_⟩
          conv => whnf
          exact atq_mid () (ent_same rfl (aI rfl (aI rfl (aI rfl (aI rfl (aI ((congrArg (fun z => one (.int .i64 z)) hm.symm)) (aI rfl (aI rfl trivial))))))) (aI ((aI rfl (Or.inl rfl))) (aI ((aI rfl (Or.inl rfl))) (aI ((aI rfl (Or.inl rfl))) (aI ((aI rfl (Or.inl rfl))) (aI ((aI rfl (Or.inl rfl))) (aI ((aI rfl (Or.inl rfl))) (aI ((aI rfl (Or.inl rfl))) (aI ((aI rfl (Or.inl rfl))) (aI ((aI rfl (Or.inl rfl))) (aI ((aI rfl (Or.inl rfl))) (aI ((aI rfl (Or.inl rfl))) trivial))))))))))))
        · have hm : markI o i = i := if_neg (by simpa using h)
          conv => whnf
          exact atq_mid () (ent_same rfl (aI rfl (aI rfl (aI rfl (aI rfl (aI ((congrArg (fun z => one (.int .i64 z)) hm.symm)) (aI rfl (aI rfl trivial))))))) (aI ((aI rfl (Or.inl rfl))) (aI ((aI rfl (Or.inl rfl))) (aI ((aI rfl (Or.inl rfl))) (aI ((aI rfl (Or.inl rfl))) (aI ((aI rfl (Or.inl rfl))) (aI ((aI rfl (Or.inl rfl))) (aI ((aI rfl (Or.inl rfl))) (aI ((aI rfl (Or.inl rfl))) (aI ((aI rfl (Or.inl rfl))) (aI ((aI rfl (Or.inl rfl))) (aI ((aI rfl (Or.inl rfl))) trivial))))))))))))
      refine satq_in ?_
      refine satq_mid (α := Unit) (fun _ => [(2, .p (.c (.ref 0 0))), (3, .p (.c (.ref 6 0))), (6, .p (.c (.ref 8 0))), (8, .p (.c (.ref 9 0))), (9, one (.int .i64 (markI o i))), (10, one (.int .i64 (j : Int))), (11, .p (.c (.ref 10 0))), (52, one (.bool (o.code == 24 || (o.code == 23 && getV us o.a != 0))))]) (fun _ => memL 0 n p Q [.cells 32 [.v (.slice A1 b.at_.length c1), .v (.slice A2 b.pages.length c2), .v (.slice (some ⟨bo, off, none⟩) b.ops.length c3)], .cells 45 (varsC vs), .cells 47 ((outL Outc.zero).map .v), .cells 45 (varsC us), .cells 53 ((opC o).map .v)]) ?_ fun _ => ?_
      · refine satq_regionU ?_
        conv => whnf
        cases h : (o.code == 24) with
        | true =>
          repeat (first | (refine ⟨fun _ => ?_, (fun h => absurd h (by decide))⟩; (conv => whnf)) | (refine ⟨(fun h => absurd h (by decide)), fun _ => ?_⟩; (conv => whnf)))
          exact atq_mid () (ent_same rfl (aI rfl (aI rfl (aI rfl (aI rfl (aI rfl (aI rfl (aI rfl (aI rfl trivial)))))))) (aI ((aI rfl (Or.inl rfl))) (aI ((aI rfl (Or.inl rfl))) (aI ((aI rfl (Or.inl rfl))) (aI ((aI rfl (Or.inl rfl))) (aI ((aI rfl (Or.inl rfl))) (aI ((aI rfl (Or.inl rfl))) (aI ((aI rfl (Or.inl rfl))) (aI ((aI rfl (Or.inl rfl))) (aI ((aI rfl (Or.inl rfl))) (aI ((aI rfl (Or.inl rfl))) (aI ((aI rfl (Or.inl rfl))) trivial))))))))))))
        | false =>
          repeat (first | (refine ⟨fun _ => ?_, (fun h => absurd h (by decide))⟩; (conv => whnf)) | (refine ⟨(fun h => absurd h (by decide)), fun _ => ?_⟩; (conv => whnf)))
          cases h2 : (o.code == 23) with
          | true =>
            repeat (first | (refine ⟨fun _ => ?_, (fun h => absurd h (by decide))⟩; (conv => whnf)) | (refine ⟨(fun h => absurd h (by decide)), fun _ => ?_⟩; (conv => whnf)))
            refine ⟨⟨(formed_a hfo).1, by have := (formed_a hfo).2; omega⟩, ?_⟩
            conv => whnf
            repeat (first | (refine ⟨fun _ => ?_, (fun h => absurd h (by decide))⟩; (conv => whnf)) | (refine ⟨(fun h => absurd h (by decide)), fun _ => ?_⟩; (conv => whnf)))
            erw [var_at hus (formed_a hfo)]
            conv => whnf
            repeat (first | (refine ⟨fun _ => ?_, (fun h => absurd h (by decide))⟩; (conv => whnf)) | (refine ⟨(fun h => absurd h (by decide)), fun _ => ?_⟩; (conv => whnf)))
            exact atq_mid () (ent_same rfl (aI rfl (aI rfl (aI rfl (aI rfl (aI rfl (aI rfl (aI rfl (aI rfl trivial)))))))) (aI ((aI rfl (Or.inl rfl))) (aI ((aI rfl (Or.inl rfl))) (aI ((aI rfl (Or.inl rfl))) (aI ((aI rfl (Or.inl rfl))) (aI ((aI rfl (Or.inl rfl))) (aI ((aI rfl (Or.inl rfl))) (aI ((aI rfl (Or.inl rfl))) (aI ((aI rfl (Or.inl rfl))) (aI ((aI rfl (Or.inl rfl))) (aI ((aI rfl (Or.inl rfl))) (aI ((aI rfl (Or.inl rfl))) trivial))))))))))))
          | false =>
            repeat (first | (refine ⟨fun _ => ?_, (fun h => absurd h (by decide))⟩; (conv => whnf)) | (refine ⟨(fun h => absurd h (by decide)), fun _ => ?_⟩; (conv => whnf)))
            exact atq_mid () (ent_same rfl (aI rfl (aI rfl (aI rfl (aI rfl (aI rfl (aI rfl (aI rfl (aI rfl trivial)))))))) (aI ((aI rfl (Or.inl rfl))) (aI ((aI rfl (Or.inl rfl))) (aI ((aI rfl (Or.inl rfl))) (aI ((aI rfl (Or.inl rfl))) (aI ((aI rfl (Or.inl rfl))) (aI ((aI rfl (Or.inl rfl))) (aI ((aI rfl (Or.inl rfl))) (aI ((aI rfl (Or.inl rfl))) (aI ((aI rfl (Or.inl rfl))) (aI ((aI rfl (Or.inl rfl))) (aI ((aI rfl (Or.inl rfl))) trivial))))))))))))
      have hgu := guests_ok hus
      have hgl := varsC_length hgu
      have hcond : (o.code == 24 || (o.code == 23 && getV us o.a != 0)) = true ↔ (o.code = 24 ∨ (o.code = 23 ∧ getV us o.a ≠ 0)) := by simp
      refine satq_cond rfl (fun ht => ?_) (fun ht => satq_skip (atq_on ?_))
      · have hev2 := (evalL_exit (ats := b.at_) (l := b.ops.drop (j + 1)) (i := i) (M := Q) (hcond.1 ht)).symm.trans hev
        refine satq_vc ?_
        refine sat_tail 8 mixed (by kernel_rfl) ?_
        conv => whnf
        erw [cut_all hul]
        conv => whnf
        refine q_con (xs := [varsV us]) (x := varsV (guestsL us)) (avals_vars us) (by kernel_rfl) (fun r w' hR => guests_walk us w' hus.len) ?_
        conv => whnf
        refine fill_of (outC ⟨false, 0, b.at_.length, o.n, guestsL us⟩) ?_ ?_
        · conv => lhs; whnf
          erw [beq_len hgl]
          conv => lhs; whnf
          exact congrArg some (out_put hgu _ _ _ _ _ rfl)
        conv => whnf
        erw [beq_len (outC_length (x := ⟨false, 0, b.at_.length, o.n, guestsL us⟩) hgu), onesL_out]
        conv => whnf
        erw [ble_of (outC_length (x := ⟨false, 0, b.at_.length, o.n, guestsL us⟩) hgu)]
        conv => whnf
        erw [out_all (x := ⟨false, 0, b.at_.length, o.n, guestsL us⟩) hgu _ rfl]
        refine atq_ret_then (atq_ret_block (atq_ret_mid (atq_ret_round (atq_ret_block (atq_ret_then (atq_ret (out_ret (x := ⟨false, 0, b.at_.length, o.n, guestsL us⟩) (M := Q) rfl hgu rfl rfl memL_sub fun w' k1 k2 => ?_)))))))
        unfold EvalR
        rw [← hev2]
        exact ⟨rfl, k1, k2⟩
      have hne : ¬ (o.code = 24 ∨ (o.code = 23 ∧ getV us o.a ≠ 0)) := fun h => by rw [hcond.2 h] at ht; cases ht
      refine satq_in ?_
      refine satq_seq ?_
      conv => whnf
      refine satq_cond rfl (fun h25 => ?_) (fun h25 => satq_skip (atq_on ?_))
      · have hev2 := (evalL_var (ats := b.at_) (l := b.ops.drop (j + 1)) (i := i) (vs := us) (M := Q) (o := o) (by simpa using h25)).symm.trans hev
        refine satq_vc ?_
        refine sat_tail 10 mixed (by kernel_rfl) ?_
        conv => whnf
        refine ⟨⟨(formed_a hfo).1, by have := (formed_a hfo).2; omega⟩, ?_⟩
        conv => whnf
        erw [var_at hus (formed_a hfo)]
        conv => whnf
        erw [cut_all hul]
        conv => whnf
        refine q_con (xs := [varsV us]) (x := varsV (guestsL us)) (avals_vars us) (by kernel_rfl) (fun r w' hR => guests_walk us w' hus.len) ?_
        conv => whnf
        refine fill_of (outC ⟨false, 0, b.at_.length, getV us o.a, guestsL us⟩) ?_ ?_
        · conv => lhs; whnf
          erw [beq_len hgl]
          conv => lhs; whnf
          exact congrArg some (out_put hgu _ _ _ _ _ rfl)
        conv => whnf
        erw [beq_len (outC_length (x := ⟨false, 0, b.at_.length, getV us o.a, guestsL us⟩) hgu), onesL_out]
        conv => whnf
        erw [ble_of (outC_length (x := ⟨false, 0, b.at_.length, getV us o.a, guestsL us⟩) hgu)]
        conv => whnf
        erw [out_all (x := ⟨false, 0, b.at_.length, getV us o.a, guestsL us⟩) hgu _ rfl]
        refine atq_ret_then (atq_ret_block (atq_ret_mid (atq_ret_round (atq_ret_block (atq_ret_then (atq_ret (out_ret (x := ⟨false, 0, b.at_.length, getV us o.a, guestsL us⟩) (M := Q) rfl hgu rfl rfl memL_sub fun w' k1 k2 => ?_)))))))
        unfold EvalR
        rw [← hev2]
        exact ⟨rfl, k1, k2⟩
      have hn25 : o.code ≠ 25 := by simpa using h25
      obtain ⟨⟨us2, st, Q2⟩, hA⟩ : ∃ r, r = applyP o us Q := ⟨_, rfl⟩
      have hus2 : VarsOk us2 := by have := applyP_ok (M := Q) hus hoo.n; rw [← hA] at this; exact this
      have hQ2 : Q2.ok n p := by have := applyP_mem (o := o) hQ hus; rw [← hA] at this; exact this
      have hul2 := varsC_length hus2
      refine satq_seq ?_
      conv => whnf
      erw [cut_all hul]
      conv => whnf
      refine call_memW (pre := [.p (.agg ((opC o).map .v)), .p (.agg (varsC us))]) (suf := []) 0 n p Q Q2 (.tuple #[varsV us2, .bool st]) memL_six (avals_op_vars o us) rfl (by kernel_rfl) (fun w' g gs hk hU => by
        have := apply_walk o us n p Q w' g gs hU hQ hfo hoo hus
        unfold ApplyR at this
        rw [← hA] at this
        exact this) ?_
      conv => whnf
      erw [beq_len hul2, onesL_u32]
      conv => whnf
      erw [ble_of (hul2.trans hz.symm)]
      conv => whnf
      erw [vars_put hus2 _ hz]
      conv => whnf
      refine satq_in ?_
      refine satq_seq ?_
      conv => whnf
      refine satq_cond rfl (fun hst => ?_) (fun hst => satq_skip (atq_on ?_))
      · have hst' : st = false := by simpa using hst
        obtain ⟨hi0, hi1⟩ : 0 ≤ markI o i ∧ markI o i < b.at_.length := by obtain ⟨_, _, _, _, h0, h1⟩ := hat2; exact ⟨h0, h1⟩
        obtain ⟨y, hy⟩ : ∃ y, b.at_[(markI o i).toNat]? = some y := ⟨_, List.getElem?_eq_getElem (by omega)⟩
        obtain ⟨ba, offa, rfl, hca⟩ := slOld_one h1 hi0 (x := .int .u32 y) (by rw [List.getElem?_map, hy]; rfl)
        have hev2 := (evalL_leave (ats := b.at_) (l := b.ops.drop (j + 1)) (i := i) (vs := us) (M := Q) (o := o) hne hn25 (by rw [← hA]; exact hst')).symm.trans hev
        rw [← hA, hy] at hev2
        refine satq_vc ?_
        refine sat_tail 10 mixed (by kernel_rfl) ?_
        conv => whnf
        refine ⟨⟨hi0, hi1⟩, ?_⟩
        conv => whnf
        refine ⟨_, hca, ?_⟩
        conv => whnf
        erw [cut_all hul]
        conv => whnf
        refine q_con (xs := [varsV us]) (x := varsV (guestsL us)) (avals_vars us) (by kernel_rfl) (fun r w' hR => guests_walk us w' hus.len) ?_
        conv => whnf
        refine fill_of (outC ⟨true, markI o i, markI o i, y, guestsL us⟩) ?_ ?_
        · conv => lhs; whnf
          erw [beq_len hgl]
          conv => lhs; whnf
          exact congrArg some (out_put hgu _ _ _ _ _ rfl)
        conv => whnf
        erw [beq_len (outC_length (x := ⟨true, markI o i, markI o i, y, guestsL us⟩) hgu), onesL_out]
        conv => whnf
        erw [ble_of (outC_length (x := ⟨true, markI o i, markI o i, y, guestsL us⟩) hgu)]
        conv => whnf
        erw [out_all (x := ⟨true, markI o i, markI o i, y, guestsL us⟩) hgu _ rfl]
        refine atq_ret_then (atq_ret_block (atq_ret_mid (atq_ret_round (atq_ret_block (atq_ret_then (atq_ret (out_ret (x := ⟨true, markI o i, markI o i, y, guestsL us⟩) (M := Q2) rfl hgu rfl rfl memL_sub fun w' k1 k2 => ?_)))))))
        unfold EvalR
        rw [← hev2]
        exact ⟨rfl, k1, k2⟩
      have hst' : st = true := by simpa using hst
      have hev2 := (evalL_go (ats := b.at_) (l := b.ops.drop (j + 1)) (i := i) (vs := us) (M := Q) (o := o) hne hn25 (by rw [← hA]; exact hst')).symm.trans hev
      rw [← hA] at hev2
      refine satq_vc ?_
      conv => whnf
      erw [cut_all hul2]
      conv => whnf
      erw [beq_len hul2, onesL_u32]
      conv => whnf
      erw [ble_of (hul2.trans hul.symm)]
      conv => whnf
      erw [vars_put hus2 _ hul]
      conv => whnf
      erw [var_ble8 hus]
      conv => whnf
      exact atq_block (atq_mid ⟨(markI o i, us2, Q2), hus2, hQ2, hat2, hev2⟩ (ent_drop (aI rfl (aI rfl (aI rfl (aI rfl (aI rfl (aI rfl trivial)))))) (aI ((aI rfl (Or.inl rfl))) (aI ((aI rfl (Or.inl rfl))) (aI ((aI rfl (Or.inl rfl))) (aI ((aI rfl (Or.inl rfl))) (aI ((aI rfl (Or.inl rfl))) (aI ((aI rfl (Or.inl rfl))) (aI ((aI rfl (Or.inl rfl))) (aI ((aI rfl (Or.inl rfl))) (aI ((aI rfl (Or.inl rfl))) (aI ((aI rfl (Or.inl rfl))) trivial)))))))))) rfl (grp_T4 _ _ _ _ _ _ _ _ _ _ _ _ _ [.slice A1 b.at_.length c1, .slice A2 b.pages.length c2, .slice (some ⟨bo, off, none⟩) b.ops.length c3] _ _ _)))
    · obtain ⟨⟨i2, us2, Q2⟩, hus2, hQ2, hat3, hev2⟩ := y
      dsimp only at hus2 hQ2 hat3 hev2 ⊢
      refine satq_vc ?_
      conv => whnf
      refine ⟨_, wr64 (by omega), ?_⟩
      conv => whnf
      exact atq_next ⟨(j + 1, i2, us2, Q2), by show j + 1 ≤ _; omega, hus2, hQ2, hat3, hev2⟩ (ent_same rfl (aI rfl (aI rfl (aI rfl (aI rfl (aI rfl (aI rfl trivial)))))) (aI ((aI rfl (Or.inl rfl))) (aI ((aI rfl (Or.inl rfl))) (aI ((aI rfl (Or.inl rfl))) (aI ((aI rfl (Or.inl rfl))) (aI ((aI rfl (Or.inl rfl))) (aI ((aI rfl (Or.inl rfl))) (aI ((aI rfl (Or.inl rfl))) (aI ((aI rfl (Or.inl rfl))) (aI ((aI rfl (Or.inl rfl))) (aI ((aI rfl (Or.inl rfl))) trivial))))))))))) (by show b.ops.length - (j + 1) < b.ops.length - j; omega)
  · have hje : j = b.ops.length := by simp at hc; omega
    rw [hje, List.drop_length] at hev
    conv => whnf
    refine atq_out (atq_exit (atq_on ?_))
    refine satq_vc ?_
    conv => whnf
    refine atq_ret (out_ret (x := Outc.zero) (M := Q) rfl ⟨rfl, fun x hx => by rw [List.eq_of_mem_replicate hx]; exact word0⟩ rfl rfl memL_sub fun w' k1 k2 => ?_)
    unfold EvalR
    rw [← hev]
    exact ⟨rfl, k1, k2⟩
end Go.Proofs.Ytmjfgnnefcimiaa
namespace Go.Proofs.Ytmjfgnnefcimiaa
open Go.RowKit
theorem out_fields : (Try.prog.fieldsOf 47).toList = [fld "Leaves" 4 0 0, fld "Index" 3 1 8, fld "Done" 3 2 16, fld "PC" 24 3 24, fld "Vars" 45 4 28] := by kernel_rfl
theorem items_same (d : Nat) (xs : Array Value) (w : World) : ∀ is : List Nat, (∀ i ∈ is, ∃ v : Int, xs[i]? = some (.int .u32 v)) → (Op.eqItems (d + 1) 24 (Try.prog.cellsOf 24) xs xs is).run Try.prog w = .ok true w
  | [], _ => by simp [Op.eqItems]
  | i :: is, h => by
    obtain ⟨v, hv⟩ := h i (by simp)
    have hc : Try.prog.cellsOf 24 = 1 := by kernel_rfl
    have hp : (part 24 xs i).run Try.prog w = .ok (.int .u32 v) w := run_part_plain w (by kernel_rfl) hv
    have he : (Op.equalIn (d + 1) 24 (.int .u32 v) (.int .u32 v)).run Try.prog w = .ok (v == v) w := run_equalIn_int w d _ _ _ v v Try.underlying24
    have ih := items_same d xs w is fun j hj => h j (by simp [hj])
    rw [hc] at ih ⊢
    simp [Op.eqItems, hp, he, ih]
theorem part_vars (xs : Array Value) (w : World) : (part 45 xs 4).run Try.prog w = .ok (.agg (xs.extract 4 32)) w := by kernel_rfl
theorem eqFields_cons {P : Program} {d : Nat} {xs ys : Array Value} {f : Field} {fs : List Field} {w : World} {a b : Value} (hn : f.name ≠ "_") (h1 : (part f.type xs f.offset).run P w = .ok a w) (h2 : (part f.type ys f.offset).run P w = .ok b w) (h3 : (Op.equalIn d f.type a b).run P w = .ok true w) : (Op.eqFields d xs ys (f :: fs)).run P w = (Op.eqFields d xs ys fs).run P w := by
  simp only [Op.eqFields, hn, ne_eq, not_false_eq_true, if_true, Sem.run_bind, h1, h2, h3, Result.andThen_ok, Bool.not_true, Bool.false_eq_true, if_false]
theorem fields_same (d : Nat) (a : Bool) (b c e : Int) (xs ys : Array Value) (w : World) (h0 : xs[0]? = some (.bool a)) (h1 : xs[1]? = some (intV b)) (h2 : xs[2]? = some (intV c)) (h3 : xs[3]? = some (.int .u32 e)) (h4 : xs.extract 4 32 = ys) (h5 : ∀ i, i < 28 → ∃ v : Int, ys[i]? = some (.int .u32 v)) :
    (Op.eqFields (d + 2) xs xs [fld "Leaves" 4 0 0, fld "Index" 3 1 8, fld "Done" 3 2 16, fld "PC" 24 3 24, fld "Vars" 45 4 28]).run Try.prog w = .ok true w := by
  have p0 : (part 4 xs 0).run Try.prog w = .ok (.bool a) w := run_part_plain w (by kernel_rfl) h0
  have p1 : (part 3 xs 1).run Try.prog w = .ok (intV b) w := run_part_plain w (by kernel_rfl) h1
  have p2 : (part 3 xs 2).run Try.prog w = .ok (intV c) w := run_part_plain w (by kernel_rfl) h2
  have p3 : (part 24 xs 3).run Try.prog w = .ok (.int .u32 e) w := run_part_plain w (by kernel_rfl) h3
  have p4 := part_vars xs w
  rw [h4] at p4
  have e0 : (Op.equalIn (d + 2) 4 (.bool a) (.bool a)).run Try.prog w = .ok (a == a) w := run_equalIn_bool' w (d + 1) _ _ _ Try.underlying4
  have e1 : ∀ z : Int, (Op.equalIn (d + 2) 3 (.int .i64 z) (.int .i64 z)).run Try.prog w = .ok (z == z) w := fun z => run_equalIn_int w (d + 1) _ _ _ z z Try.underlying3
  have e2 : (Op.equalIn (d + 2) 24 (.int .u32 e) (.int .u32 e)).run Try.prog w = .ok (e == e) w := run_equalIn_int w (d + 1) _ _ _ _ _ Try.underlying24
  have e3 : (Op.equalIn (d + 2) 45 (.agg ys) (.agg ys)).run Try.prog w = .ok true w := by
    obtain ⟨inf, hinf⟩ := Option.isSome_iff_exists.1 (show (Try.prog.info? 24).isSome = true by kernel_rfl)
    rw [run_equalIn_array (P := Try.prog) w (d + 1) _ _ Try.underlying45 hinf]
    exact items_same d _ w _ fun i hi => h5 i (by simpa using hi)
  rw [eqFields_cons (f := fld "Leaves" 4 0 0) (by simp [fld]) p0 p0 (e0.trans (by rw [beq_self_eq_true]))]
  rw [eqFields_cons (f := fld "Index" 3 1 8) (by simp [fld]) p1 p1 ((e1 b).trans (by rw [beq_self_eq_true]))]
  rw [eqFields_cons (f := fld "Done" 3 2 16) (by simp [fld]) p2 p2 ((e1 c).trans (by rw [beq_self_eq_true]))]
  rw [eqFields_cons (f := fld "PC" 24 3 24) (by simp [fld]) p3 p3 (e2.trans (by rw [beq_self_eq_true]))]
  rw [eqFields_cons (f := fld "Vars" 45 4 28) (by simp [fld]) p4 p4 e3]
  simp only [Op.eqFields, Sem.run_pure]
theorem out_equal (x : Outc) (hx : x.vars.length = 28) (w : World) : (Op.equalIn 10000 47 (outV x) (outV x)).run Try.prog w = .ok true w := by
  rw [run_equalIn_agg _ _ _ _ _ (by kernel_rfl) (by kernel_rfl), out_fields]
  refine fields_same 9997 x.leaves x.index x.done x.pc _ _ w rfl rfl rfl rfl rfl fun i hi => ⟨x.vars[i]'(by omega), ?_⟩
  rw [Array.getElem?_extract]
  have : (outL x).toArray[4 + i]? = some (.int .u32 (x.vars[i]'(by omega))) := by
    have h4 : 4 + i = i + 1 + 1 + 1 + 1 := by omega
    simp [outL, h4, List.getElem?_map, List.getElem?_eq_getElem (show i < x.vars.length by omega)]
  rw [this, if_pos (by simp [hx]; omega)]
theorem out_eql (x : Outc) (hx : x.vars.length = 28) (w : World) : (binOp .eql 47 (outV x) (outV x)).run Try.prog w = .ok (.bool true) w := by
  rw [run_eql_struct, out_equal x hx]; rfl
theorem q_eql_out {w0 : World} {G : Gs} {S : List Ow} {f : Fr} {o : Oper} {K : AV → Prop} {x y : Operand} {t' : TypeId} (z : Outc) (hz : z.vars.length = 28) (hop : o.op = .binOp .eql 47 x y t') (hx : f.ev x = .p (.agg (outC z))) (hy : f.ev y = .p (.agg (outC z))) (hk : K (one (.bool true))) : QRun Try.prog w0 G S f o K := by
  refine ⟨_, hk, fun r a hf => ?_⟩
  have h1 := hf.ev x
  have h2 := hf.ev y
  rw [hx] at h1; rw [hy] at h2
  have e1 := AV.val_den (val_agg _) h1
  have e2 := AV.val_den (val_agg _) h2
  refine ⟨_, den_one _ _, fun w hR => ?_⟩
  have hg := run_eqGuard_agg (P := Try.prog) w .eql 47 x y (outL z).toArray (outL z).toArray (by kernel_rfl)
  have hb := out_eql z hz w
  simp only [execOp, hop, e1, e2, Sem.run_bind, hg, Result.andThen_ok, hb, Sem.run_pure]
end Go.Proofs.Ytmjfgnnefcimiaa
