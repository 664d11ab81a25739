/- Walks: a block agrees with the machine. -/
import Derived.Test.YtnhdcclpjildjaaGreatK15
import Derived.Test.YtnhdcclpjildjaaGreatK18
namespace Go.Proofs.YtnhdcclpjildjaaGreat
open Go.RowKit

abbrev ocT : TypeId := 55
abbrev blkT : TypeId := 32
def AgrE (s : St) (most : Int) (n p : Nat) (M : MemP) (g : Nat) (gs : List Nat) (w : World) : Ending → World → Prop := fun e w' => ∃ s' M', e = .returned (.tuple #[.bool true, outV (outR (runM M s most))]) ∧ s'.ok ∧ s'.steps ≤ s.steps + 64 ∧ M'.ok n p ∧ ObjsAt w' (g :: gs) (cpuU 0 (stL s' []) n p M') ∧ GrownBys w w' (g :: gs)
theorem seven_blocks {w : World} {gs : List Nat} {n p : Nat} {us : List Value} {M : MemP} (h : ObjsAt w gs (cpuU 0 us n p M)) : ∃ g0 g1 g2 g3 g4 g5 g6, gs = [g0, g1, g2, g3, g4, g5, g6] := by
 have := h.len
 match gs, this with
 | [g0, g1, g2, g3, g4, g5, g6], _ => exact ⟨g0, g1, g2, g3, g4, g5, g6, rfl⟩
abbrev agU (n p : Nat) (L : List Value) (M : MemP) (B Z : List Value) (LS : List Value) (Mc : MemP) (T : List Ow) : List Ow :=
 .cells cpuT (L.map .v ++ [.ref 1 0]) :: memL 1 n p M (.cells blkT (B.map .v) :: .cells ocT (Z.map .v) :: .cells stT (LS.map .v) :: memL 10 n p Mc T)
theorem agU_cpu (n p : Nat) (L : List Value) (M : MemP) (B Z LS : List Value) (Mc : MemP) (T : List Ow) : ∀ (i : Nat) (o : Ow), (cpuU 0 L n p M)[i]? = some o → (agU n p L M B Z LS Mc T)[i]? = some o := fun i o h => by
 have hi : i < 7 := by
  rcases Nat.lt_or_ge i 7 with h1 | h1
  ·exact h1
  ·rw [List.getElem?_eq_none (by simpa using h1)] at h; cases h
 rcases (by omega : i = 0 ∨ i = 1 ∨ i = 2 ∨ i = 3 ∨ i = 4 ∨ i = 5 ∨ i = 6) with rfl | rfl | rfl | rfl | rfl | rfl | rfl <;> exact h
theorem agU_grp (g g1 g2 g3 g4 g5 g6 n p : Nat) (L : List Value) (M : MemP) (B Z LS : List Value) (Mc : MemP) (us : List Value) : grpOk ⟨[g, g1, g2, g3, g4, g5, g6], []⟩ (agU n p L M B Z LS Mc [.cells ocT (us.map .v)]) = true := by
 show sbnd 17 (agU n p L M B Z LS Mc [.cells ocT (us.map .v)]) = true
 have h : ∀ us : List Value, bndL 17 (us.map .v ++ [.ref 1 0]) = true := fun us => by
  induction us with
  | nil => rfl
  | cons u us ih => simpa only [List.map_cons, List.cons_append, bndL, CV.bnd] using ih
 simp only [sbnd, Ow.bnd, bndL_vals, bndL, CV.bnd, h]
 rfl
theorem of_agg (L : List Value) : AV.of (.agg L.toArray) = .p (.agg (L.map .v)) := rfl
theorem q_neq_bool {P : Program} {w0 : World} {G : Gs} {S : List Ow} {f : Fr} {o : Oper} {K : AV → Prop} {t t' : TypeId} {x y : Operand} (a b : Bool) (hop : o.op = .binOp .neq t x y t') (ht : P.underlying t = some .bool) (hx : f.ev x = one (.bool a)) (hy : f.ev y = one (.bool b)) (hk : K (one (.bool (!(a == b))))) : QRun P w0 G S f o K := by
 refine ⟨_, hk, fun r act hf => ⟨_, den_one _ _, fun w hR => ?_⟩⟩
 have h1 := hf.ev x
 have h2 := hf.ev y
 rw [hx] at h1; rw [hy] at h2
 simp [execOp, hop, den_v h1, den_v h2, eqGuard, run_neq_bool w t a b ht]
theorem val_tup1 (x : Value) (us : List Value) : (AV.tup [.c (.v x), .agg (us.map .v)]).val = some (.tuple #[x, .agg us.toArray]) := by
 simp only [AV.val, pvalL, Pc.val, valL_vals us, CV.val]
theorem stepR_shape {s : St} {M : MemP} {v : Value} {M' : MemP} (h : StepR s M v M') : ∃ s' k inf, v = .agg (stL s' [] ++ [intV k, u32V inf]).toArray ∧ (M.simp s.pc = true → stepQ (qAt (readQ M.fet) s.pc) s.pc s.R M = none → k ≠ 0) := by
 unfold StepR at h
 unfold MemP.simp qAt
 cases hr : readQ M.fet s.pc with
 | none =>
  rw [hr] at h
  obtain ⟨k, inf, hk, hv, _⟩ := h
  exact ⟨s, k, inf, hv, fun _ _ => hk⟩
 | some i =>
  rw [hr] at h
  dsimp only at h ⊢
  by_cases hs : simpleQ i.op = true
  ·rw [if_pos hs] at h
   rw [Option.getD_some]
   cases hq : stepQ i s.pc s.R M with
   | none =>
    rw [hq] at h
    obtain ⟨k, inf, hk, hv, _⟩ := h
    exact ⟨s, k, inf, hv, fun _ _ => hk⟩
   | some y =>
    rw [hq] at h
    exact ⟨_, 0, 0, h.1, fun _ h => by cases h⟩
  ·rw [if_neg hs] at h
   obtain ⟨s', k, inf, hv⟩ := h
   exact ⟨s', k, inf, hv, fun h => absurd h hs⟩
theorem agU_ren (n p : Nat) (L : List Value) (M : MemP) (B Z LS : List Value) (Mc : MemP) (us vs os : List Value) : sbnd 19 (agU n p L M B Z LS Mc [.cells ocT (us.map .v), .cells stT (vs.map .v), .cells outT (os.map .v)]) = true := by
 have h : ∀ us : List Value, bndL 19 (us.map .v ++ [.ref 1 0]) = true := fun us => by
  induction us with
  | nil => rfl
  | cons u us ih => simpa only [List.map_cons, List.cons_append, bndL, CV.bnd] using ih
 simp only [sbnd, Ow.bnd, bndL_vals, bndL, CV.bnd, h]
 rfl
theorem cpu_ren (L : List Value) : renL (fun i => [0, 1, 2, 3, 4, 5, 6, 7, 8, 9, 10, 11, 12, 13, 14, 15, 16, 17, 24].getD i 0) (L.map CV.v ++ [.ref 1 0]) = L.map CV.v ++ [.ref 1 0] := by
 induction L with
 | nil => rfl
 | cons u us ih => exact congrArg (CV.v u :: ·) ih
theorem outset {L : List Value} (h : StC L) (x y : Value) : setAll ((stL ⟨0, fun _ => 0, 0, 0, 0, 0, 0, 0, 0⟩ [intV 0, u32V 0]).map CV.v) 0 (outSC L (.v x) (.v y)) = (L ++ [x, y]).map .v := by
 rw [setAll_same (by rw [outSC_len h]; rfl), List.map_append]; rfl
set_option maxRecDepth 100000 in
set_option maxHeartbeats 8000000 in
theorem agrees_walk (s : St) (hs : s.ok) (M : MemP) (n p : Nat) (most : Int) (A1 A2 A3 : Option Addr) (c1 c2 c3 : Nat) (w : World) (g : Nat) (gs : List Nat) (hU : ObjsAt w (g :: gs) (cpuU 0 (stL s []) n p M)) (hM : M.ok n p) (hp : 1 ≤ p) (hst : s.steps < 1000000)
  (h1 : SlOld w ⟨g :: gs, []⟩ A1 ((liftM M s.pc most).at_.map (.int .u32))) (h2 : SlOld w ⟨g :: gs, []⟩ A2 ((liftM M s.pc most).pages.map (.int .i64))) (h3 : SlOld w ⟨g :: gs, []⟩ A3 ((liftM M s.pc most).ops.flatMap opC)) :
  Calls Tryz.prog 20 #[.agg #[.slice A1 (liftM M s.pc most).at_.length c1, .slice A2 (liftM M s.pc most).pages.length c2, .slice A3 (liftM M s.pc most).ops.length c3], .pointer (some ⟨g, 0, none⟩)] w (AgrE s most n p M g gs w) := by
 obtain ⟨g0, g1, g2, g3, g4, g5, g6, hg⟩ := seven_blocks hU
 injection hg with hg0 hgs
 subst hgs; subst hg0
 unfold AgrE
 have hlo := fun t => lift_out hM hs most t
 obtain ⟨hbok, hbv, _⟩ := liftM_ok hM s.pc most
 obtain ⟨bl, hbl⟩ : ∃ bl, bl = liftM M s.pc most := ⟨_, rfl⟩
 rw [← hbl] at h1 h2 h3 hlo hbok hbv ⊢
 have hF : ∀ a i, readQ M.fet a = some i → i.ok := fun a i h => readQ_ok (fun a b h => fet_byte hM a b h) h
 obtain ⟨ll1, ll2⟩ := limN_ok most
 obtain ⟨_, hri, hrl⟩ := run_iter (F := readQ M.fet) (pc := s.pc) (n := limN most) (limN most) 0 s.R M (by omega) (by omega)
 obtain ⟨r, hr⟩ : ∃ r, r = runM M s most := ⟨_, rfl⟩
 have hrd : runQ (readQ M.fet) s.pc (limN most) (limN most) 0 s.R M = r := hr.symm
 rw [hrd] at hri hrl
 rw [Nat.sub_zero, show qAddr s.pc 0 = s.pc from by have := hs.pc; unfold word at this; unfold qAddr cut32; omega] at hri
 rw [← hr] at hlo ⊢
 have hlen : bl.at_.length ≤ 64 := by
  have q := (lift_len hF s.pc ll2 (limN most) 0 (by omega) (by omega)).2.2.2
  have e : bl.at_ = liftAts s.pc (liftLen (readQ M.fet) s.pc (limN most) (limN most) 0) := by rw [hbl]; rfl
  rw [e, liftAts_length]; omega
 have hro : RunOk M n p s.R s.pc M := ⟨hs.pc, hs.reg, hs.zero, hM, rfl⟩
 have hrf := iter_ok hF r.done hro hri
 dsimp only at hrf
 obtain ⟨o, ho⟩ : ∃ o, o = outR r := ⟨_, rfl⟩
 have hov : VarsOk o.vars := by rw [ho]; exact gL_ok hrf.reg
 have hdn : r.done ≤ bl.at_.length := by
  obtain ⟨_, q1, q2⟩ := hlo ⟨[], [], [], [], []⟩
  cases hl : r.leaves with
  | true => have := q2 hl; omega
  | false => have := q1 hl; omega
 rw [← ho]
 obtain ⟨L, hL⟩ : ∃ L, L = stL s [] := ⟨_, rfl⟩
 have hSC : StC L := by rw [hL]; exact stC_of s
 rw [← hL] at hU
 refine calls_objs_satq [.p (.agg [.v (.slice A1 bl.at_.length c1), .v (.slice A2 bl.pages.length c2), .v (.slice A3 bl.ops.length c3)]), .p (.c (.ref 0 0))] [.agg #[.slice A1 bl.at_.length c1, .slice A2 bl.pages.length c2, .slice A3 bl.ops.length c3], .pointer (some ⟨g, 0, none⟩)] Tryz.func20 Tryz.ntmps20 rfl (by simp) hU ⟨_, _, rfl, AV.of_den _ (.agg #[.slice A1 bl.at_.length c1, .slice A2 bl.pages.length c2, .slice A3 bl.ops.length c3]), _, _, rfl, den_mk_ref rfl, rfl⟩ ?_
 refine satq_seqN ?_
 conv => whnf
 obtain ⟨Z, hZ⟩ : ∃ Z : List Value, Z = outL ⟨false, 0, 0, 0, List.replicate 28 0⟩ := ⟨_, rfl⟩
 have hZl : (Z.map CV.v).length = 32 := by rw [hZ]; rfl
 refine satq_seqN ?_
 conv => whnf
 erw [cpu_cut hSC.len]
 conv => whnf
 erw [beq_len hSC.clen]
 conv => whnf
 erw [hSC.one]
 conv => whnf
 erw [ble_of (m := stC ⟨0, fun _ => 0, 0, 0, 0, 0, 0, 0, 0⟩ []) (hSC.clen.trans rfl)]
 conv => whnf
 refine satq_as (f' := [(1, .p (.c (.ref 0 0))), (2, .p (.c (.ref 7 0))), (4, one (.bool false)), (5, .p (.c (.ref 8 0))), (6, .p (.c (.ref 9 0)))]) (S' := .cells cpuT (L.map .v ++ [.ref 1 0]) :: memL 1 n p M [.cells blkT (([.slice A1 bl.at_.length c1, .slice A2 bl.pages.length c2, .slice A3 bl.ops.length c3] : List Value).map .v), .cells ocT (Z.map .v), .cells stT (L.map .v)]) (ent_same rfl (aI rfl (aI rfl (aI rfl (aI rfl (aI rfl trivial))))) (aI ((aI rfl (Or.inl rfl))) (aI ((aI rfl (Or.inl rfl))) (aI ((aI rfl (Or.inl rfl))) (aI ((aI rfl (Or.inl rfl))) (aI ((aI rfl (Or.inl rfl))) (aI ((aI rfl (Or.inl rfl))) (aI ((aI rfl (Or.inl rfl))) (aI ((aI rfl (Or.inl rfl))) (aI ((aI rfl (Or.inl (by rw [hZ]; rfl)))) (aI ((aI rfl (Or.inl (setAll_same hSC.clen.symm)))) trivial))))))))))) ?_
 clear hZ
 refine satq_seqN ?_
 conv => whnf
 erw [cpu_at hSC.len [.ref 1 0] 0]
 conv => whnf
 refine call_newObjsX (α := { t : Tl // True }) (fun t => memS 0 n p (M.tl t.1)) (fun t => memS 10 n p (M.tl t.1)) (fun _ => True) (by kernel_rfl) (fun _ _ => memS_sh 10 n p _) (fun _ _ => memS_ob n p _) (fun r w' xs hR hd => ?_) fun t _ => ?_
 ·obtain ⟨u, l, rfl, d1, d2⟩ := hd
  obtain rfl : l = [] := d2
  obtain ⟨q, qs, hq, hUq⟩ := hR.objsAt 1 (memS 0 n p M) (memS 1 n p M) (by simp) (fun i hi => by rcases (by have : i < 6 := hi; omega : i = 0 ∨ i = 1 ∨ i = 2 ∨ i = 3 ∨ i = 4 ∨ i = 5) with rfl | rfl | rfl | rfl | rfl | rfl <;> rfl) (memS_sh 1 n p M) (memS_ob n p M)
  obtain ⟨b, hb, rfl⟩ := den_ref d1
  rw [hq] at hb; injection hb with hb; subst hb
  exact (copy_walk M n p w' q qs hUq hM hp).mono fun e w'' ⟨g', gs', M', he, ⟨t1, t2, t3, t4, t5, hM'⟩, hn⟩ => ⟨g', gs', ⟨⟨t1, t2, t3, t4, t5⟩, trivial⟩, he, trivial, by rw [hM'] at hn; exact hn⟩
 obtain ⟨t, _⟩ := t
 dsimp only
 obtain ⟨hev, hlf, hlt⟩ := hlo t
 rw [← ho] at hev
 conv => whnf
 have hvE := (enter_reg hs).vars
 have hEval : ∀ (w' : World) (q : Nat) (qs : List Nat), OldKeeps w ⟨[g, g1, g2, g3, g4, g5, g6], []⟩ w' (q :: qs) → ObjsAt w' (q :: qs) (memS 0 n p (M.tl t)) → Calls Tryz.prog 29 #[.agg #[.slice A1 bl.at_.length c1, .slice A2 bl.pages.length c2, .slice A3 bl.ops.length c3], varsV (entL s.R 16), .pointer (some ⟨q, 0, none⟩)] w' fun e w2 => e = .returned (outV o) ∧ ObjsAt w2 (q :: qs) (memS 0 n p (r.M.tl t)) ∧ GrownBys w' w2 (q :: qs) := fun w' q qs hk hUq => by
  have old : ∀ {A : Option Addr} {xs : List Value}, SlOld w ⟨[g, g1, g2, g3, g4, g5, g6], []⟩ A xs → SlOld w' ⟨q :: qs, []⟩ A xs := fun h j u hj => by
   obtain ⟨b, off, e1, e2, e3, e4⟩ := h j u hj
   obtain ⟨k1, k2, k3⟩ := hk b e2 e3
   refine ⟨b, off, e1, k1, fun hm => hm.elim k2 (fun h => by cases h), ?_⟩
   simp only [World.cell?] at e4 ⊢
   rw [k3]; exact e4
  refine (eval_walk bl (entL s.R 16) n p (M.tl t) A1 A2 A3 c1 c2 c3 w' q qs hUq (tl_ok hM t) hbok hbv hvE (old h1) (old h2) (old h3)).mono fun e w2 h => ?_
  unfold EvalR at h
  rw [hev] at h
  exact h
 refine satq_mid (α := Unit) (fun _ => [(1, .p (.c (.ref 0 0))), (2, .p (.c (.ref 7 0))), (4, one (.bool false)), (5, .p (.c (.ref 8 0))), (6, .p (.c (.ref 9 0))), (7, .p (.c (.ref 10 0))), (8, .p (.c (.ref 16 0)))]) (fun _ => agU n p L M ([.slice A1 bl.at_.length c1, .slice A2 bl.pages.length c2, .slice A3 bl.ops.length c3] : List Value) Z L (r.M.tl t) [.cells ocT (outC o)]) ?_ fun _ => ?_
 ·refine satq_vcN ?_
  refine sat_anyG (.q 3 (.alt 0 (.alt 1 (.alt 2 (.alt 4 (.alt 5 (.alt 6 .done .no) .no) (.alt 5 (.alt 4 (.alt 6 .done .no) .no) .no)) (.alt 5 (.alt 2 (.alt 4 (.alt 6 .done .no) .no) .no) .no)) (.alt 5 (.alt 1 (.alt 2 (.alt 4 (.alt 6 .done .no) .no) .no) .no) .no)) (.alt 1 (.alt 0 (.alt 2 (.alt 4 (.alt 5 (.alt 6 .done .no) .no) (.alt 5 (.alt 4 (.alt 6 .done .no) .no) .no)) (.alt 5 (.alt 2 (.alt 4 (.alt 6 .done .no) .no) .no) .no)) (.alt 2 (.alt 0 (.alt 4 (.alt 5 (.alt 6 .done .no) .no) (.alt 5 (.alt 4 (.alt 6 .done .no) .no) .no)) (.alt 5 (.alt 0 (.alt 4 (.alt 6 .done .no) .no) .no) .no)) (.alt 5 (.alt 0 (.alt 2 (.alt 4 (.alt 6 .done .no) .no) .no) (.alt 2 (.alt 0 (.alt 4 (.alt 6 .done .no) .no) .no) .no)) .no))) (.alt 5 (.alt 0 (.alt 1 (.alt 2 (.alt 4 (.alt 6 .done .no) .no) .no) .no) (.alt 1 (.alt 0 (.alt 2 (.alt 4 (.alt 6 .done .no) .no) .no) (.alt 2 (.alt 0 (.alt 4 (.alt 6 .done .no) .no) .no) .no)) .no)) .no)))) mixed (by kernel_rfl) (by kernel_rfl) ?_
  conv => whnf
  repeat' (first
   | exact atq_mid () (ent_same rfl (aI rfl (aI rfl (aI rfl (aI rfl (aI rfl (aI rfl (aI rfl trivial))))))) (aI sM (aI sM (aI sM (aI sM (aI sM (aI sM (aI sM (aI sM (aI sM (aI sM (aI sM (aI sM (aI sM (aI sM (aI sM (aI sM (aI sM trivial))))))))))))))))))
   | (refine call_con (x := varsV (entL s.R 16)) (avals_2st L) (by kernel_rfl) (fun r w' hR => by rw [hL]; exact enter_walk s w') ?_; (conv=>whnf))
   | (refine call_memW (pre := [.p (.agg [.v (.slice A1 bl.at_.length c1), .v (.slice A2 bl.pages.length c2), .v (.slice A3 bl.ops.length c3)]), .p (.agg (varsC (entL s.R 16)))]) (suf := []) 10 n p (M.tl t) (r.M.tl t) (outV o) (fun i hi => by rcases (by have : i < 6 := hi; omega : i = 0 ∨ i = 1 ∨ i = 2 ∨ i = 3 ∨ i = 4 ∨ i = 5) with rfl | rfl | rfl | rfl | rfl | rfl <;> rfl) (avals_evl _ _ _ _) rfl (by kernel_rfl) (fun w' q qs hk hUq => hEval w' q qs hk hUq) ?_; (conv=>whnf))
   | (erw [cut_all hSC.clen]; (conv=>whnf))
   | (erw [beq_len (outC_length (x := o) hov)]; (conv=>whnf); erw [onesL_out]; (conv=>whnf); erw [ble_of (m := outC ⟨false, 0, 0, 0, List.replicate 28 0⟩) ((outC_length (x := o) hov).trans rfl)]; (conv=>whnf); erw [out_all (x := o) hov _ rfl]; (conv=>whnf))
   | (refine ⟨?_, trivial⟩; (conv=>whnf))
   | (refine ⟨?_, ?_, trivial⟩ <;> (conv=>whnf))
   | (refine ⟨?_, ?_, ?_, trivial⟩ <;> (conv=>whnf)))
  all_goals exact (1 : Nat)
 obtain ⟨sf, hsf⟩ : ∃ sf : St, sf = { s with pc := r.pc, R := r.R, steps := s.steps + r.done } := ⟨_, rfl⟩
 have hst0 := hs.steps
 have hod : o.done = (r.done : Int) := by rw [ho]; rfl
 have hsfo : sf.ok := by rw [hsf]; exact ⟨hrf.pc, hrf.reg, hrf.zero, hs.fl, by show 0 ≤ s.steps + (r.done : Int) ∧ s.steps + (r.done : Int) < 1099511627776; omega⟩
 obtain ⟨Lf, hLf⟩ : ∃ Lf, Lf = stL sf [] := ⟨_, rfl⟩
 have hLfS : StC Lf := by rw [hLf]; exact stC_of sf
 refine satq_mid (α := Unit) (fun _ => [(1, .p (.c (.ref 0 0))), (2, .p (.c (.ref 7 0))), (4, one (.bool false)), (5, .p (.c (.ref 8 0))), (6, .p (.c (.ref 9 0))), (7, .p (.c (.ref 10 0))), (8, .p (.c (.ref 16 0)))]) (fun _ => agU n p Lf r.M ([.slice A1 bl.at_.length c1, .slice A2 bl.pages.length c2, .slice A3 bl.ops.length c3] : List Value) Z L (r.M.tl t) [.cells ocT (outC o)]) ?_ fun _ => ?_
 ·refine satq_seqN ?_
  conv => whnf
  refine satq_block ?_
  refine satq_loop (α := { x : (Nat × (Int → Int) × Int × MemP) × List Value // x.1.1 ≤ r.done ∧ iterQ (readQ M.fet) x.1.1 s.R s.pc M = some x.1.2 ∧ x.2 = stL { s with pc := x.1.2.2.1, R := x.1.2.1, steps := s.steps + x.1.1 } [] }) (fun x => [(1, .p (.c (.ref 0 0))), (2, .p (.c (.ref 7 0))), (4, one (.bool false)), (5, .p (.c (.ref 8 0))), (6, .p (.c (.ref 9 0))), (7, .p (.c (.ref 10 0))), (8, .p (.c (.ref 16 0))), (9, one (intV (x.1.1.1 : Int)))]) (fun x => agU n p x.1.2 x.1.1.2.2.2 ([.slice A1 bl.at_.length c1, .slice A2 bl.pages.length c2, .slice A3 bl.ops.length c3] : List Value) Z L (r.M.tl t) [.cells ocT (outC o)]) (fun x => r.done - x.1.1.1)
   ⟨((0, s.R, s.pc, M), L), by show 0 ≤ r.done; omega, rfl, by
    have e : s.steps + ((0 : Nat) : Int) = s.steps := by omega
    show L = stL { s with pc := s.pc, R := s.R, steps := s.steps + ((0 : Nat) : Int) } []
    rw [e, hL]⟩ (ent_same rfl (aI rfl (aI rfl (aI rfl (aI rfl (aI rfl (aI rfl (aI rfl (aI rfl trivial)))))))) (aI sM (aI sM (aI sM (aI sM (aI sM (aI sM (aI sM (aI sM (aI sM (aI sM (aI sM (aI sM (aI sM (aI sM (aI sM (aI sM (aI sM trivial)))))))))))))))))) fun x => ?_
  obtain ⟨⟨⟨j, Rj, aj, Mj⟩, Lj⟩, hj, hit, hLj⟩ := x
  dsimp only at hj hit hLj ⊢
  obtain ⟨sj, hsj⟩ : ∃ sj : St, sj = { s with pc := aj, R := Rj, steps := s.steps + (j : Int) } := ⟨_, rfl⟩
  rw [← hsj] at hLj
  have hrj := iter_ok hF j hro hit
  dsimp only at hrj
  have hsjo : sj.ok := by rw [hsj]; exact ⟨hrj.pc, hrj.reg, hrj.zero, hs.fl, by show 0 ≤ s.steps + (j : Int) ∧ s.steps + (j : Int) < 1099511627776; omega⟩
  have hLjS : StC Lj := by rw [hLj]; exact stC_of sj
  refine satq_seqN ?_
  conv => whnf
  refine ⟨fun hc => ?_, fun hc => ?_⟩
  ·have hlt : j < r.done := by
    have : (j : Int) < o.done := by simpa using hc
    omega
   obtain ⟨z, hz⟩ := iter_pre r.done (j + 1) (by omega) hri
   have hz2 := hz
   rw [iter_snoc, hit] at hz2
   have hz2 : stepQ (qAt (readQ M.fet) aj) aj Rj Mj = some z := hz2
   obtain ⟨i, hFi, hqi⟩ := step_some hz2
   rw [hqi] at hz2
   obtain ⟨R2, a2, M2⟩ := z
   have hop := (stepQ_facts (hF _ _ hFi) hrj.reg hrj.zero hrj.mem hz2).2.2.2.2.2
   obtain ⟨s2, hs2⟩ : ∃ s2 : St, s2 = { sj with pc := a2, R := R2, steps := sj.steps + 1 } := ⟨_, rfl⟩
   obtain ⟨L2, hL2⟩ : ∃ L2, L2 = stL s2 [] := ⟨_, rfl⟩
   have hL2S : StC L2 := by rw [hL2]; exact stC_of s2
   have hstep : ∀ (w' : World) (q : Nat) (qs : List Nat), ObjsAt w' (q :: qs) (memS 0 n p Mj) → Calls Tryz.prog 24 #[.agg Lj.toArray, .pointer (some ⟨q, 0, none⟩)] w' fun e w2 => e = .returned (.agg (L2 ++ [intV 0, u32V 0]).toArray) ∧ ObjsAt w2 (q :: qs) (memS 0 n p M2) ∧ GrownBys w' w2 (q :: qs) := fun w' q qs hUq => by
    rw [hLj]
    refine (step_walk sj hsjo Mj n p w' q qs hUq hrj.mem).mono fun e w2 ⟨v, M', he, hR, hMo, hO, hG⟩ => ?_
    have hpcj : sj.pc = aj := by rw [hsj]
    have hRj : sj.R = Rj := by rw [hsj]
    unfold StepR at hR
    rw [hrj.fet, hpcj, hFi, hRj] at hR
    dsimp only at hR
    rw [if_pos (by unfold simpleQ; simpa using hop), hz2] at hR
    obtain ⟨hv, hm⟩ := hR
    subst hm
    refine ⟨?_, hO, hG⟩
    rw [he, hv, hL2, hs2]
    rfl
   obtain ⟨O, hO⟩ : ∃ O, O = outSC L2 (.v (intV 0)) (.v (u32V 0)) := ⟨_, rfl⟩
   have hOl : O.length = 26 := by rw [hO]; exact outSC_len hL2S _ _
   have hO1 : ∀ S, onesL S O = true := fun S => by rw [hO]; exact outSC_one hL2S S rfl
   conv => whnf
   refine satq_in (satq_block ?_)
   refine satq_mid (α := Unit) (fun _ => [(1, .p (.c (.ref 0 0))), (2, .p (.c (.ref 7 0))), (4, one (.bool false)), (5, .p (.c (.ref 8 0))), (6, .p (.c (.ref 9 0))), (7, .p (.c (.ref 10 0))), (8, .p (.c (.ref 16 0))), (9, one (intV (j : Int))), (10, .p (.c (.ref 17 0)))]) (fun _ => agU n p Lj M2 ([.slice A1 bl.at_.length c1, .slice A2 bl.pages.length c2, .slice A3 bl.ops.length c3] : List Value) Z L (r.M.tl t) [.cells ocT (outC o), .cells outT O]) ?_ fun _ => ?_
   ·refine satq_vcN ?_
    refine sat_anyG (.q 0 (.q 1 (.q 2 (.q 4 (.q 5 (.q 6 (.alt 3 (.alt 7 (.alt 8 (.alt 9 (.alt 10 .done .no) .no) (.alt 9 (.alt 8 (.alt 10 .done .no) .no) .no)) (.alt 9 (.alt 7 (.alt 8 (.alt 10 .done .no) .no) .no) .no)) (.alt 7 (.alt 3 (.alt 8 (.alt 9 (.alt 10 .done .no) .no) (.alt 9 (.alt 8 (.alt 10 .done .no) .no) .no)) (.alt 9 (.alt 3 (.alt 8 (.alt 10 .done .no) .no) .no) .no)) (.alt 9 (.alt 3 (.alt 7 (.alt 8 (.alt 10 .done .no) .no) .no) (.alt 7 (.alt 3 (.alt 8 (.alt 10 .done .no) .no) .no) .no)) .no))))))))) mixed (by kernel_rfl) (by kernel_rfl) ?_
    conv => whnf
    repeat' (first
     | exact atq_mid () (ent_same rfl (aI rfl (aI rfl (aI rfl (aI rfl (aI rfl (aI rfl (aI rfl (aI rfl (aI rfl trivial))))))))) (aI sM (aI sM (aI sM (aI sM (aI sM (aI sM (aI sM (aI sM (aI sM (aI sM (aI sM (aI sM (aI sM (aI sM (aI sM (aI sM (aI sM (aI ((aI rfl (Or.inl (setAll_same (show ((stL ⟨0, fun _ => 0, 0, 0, 0, 0, 0, 0, 0⟩ [intV 0, u32V 0]).map CV.v).length = O.length from hOl.symm))))) trivial)))))))))))))))))))
     | (refine call_memW (pre := [.p (.agg (Lj.map .v))]) (suf := []) 1 n p Mj M2 (.agg (L2 ++ [intV 0, u32V 0]).toArray) (fun i hi => by rcases (by have : i < 6 := hi; omega : i = 0 ∨ i = 1 ∨ i = 2 ∨ i = 3 ∨ i = 4 ∨ i = 5) with rfl | rfl | rfl | rfl | rfl | rfl <;> rfl) (avals_1st Lj) rfl (by kernel_rfl) (fun w' q qs hk hUq => hstep w' q qs hUq) ?_; rw [of_outS, ← hO]; (conv=>whnf))
     | (erw [cpu_cut hLjS.len]; (conv=>whnf))
     | (erw [cpu_at hLjS.len [.ref 1 0] 0]; (conv=>whnf))
     | (erw [beq_len hOl]; (conv=>whnf); erw [hO1]; (conv=>whnf); erw [ble_of (m := (stL ⟨0, fun _ => 0, 0, 0, 0, 0, 0, 0, 0⟩ [intV 0, u32V 0]).map CV.v) (hOl.trans rfl)]; (conv=>whnf))
     | (refine ⟨?_, trivial⟩; (conv=>whnf))
     | (refine ⟨?_, ?_, trivial⟩ <;> (conv=>whnf))
     | (refine ⟨?_, ?_, ?_, trivial⟩ <;> (conv=>whnf)))
    all_goals exact (1 : Nat)
   have hO24 : O[0 + 24 + 0]? = some (.v (intV 0)) := by
    rw [hO]
    show (L2.map CV.v ++ [.v (intV 0), .v (u32V 0)])[24 + 0]? = _
    rw [cpu_at hL2S.len]; rfl
   have hOc : cut O 0 24 = some (L2.map .v) := by rw [hO]; exact cpu_cut hL2S.len _
   have hCl : (Lj.map CV.v ++ [CV.ref 1 0]).length = 25 := by rw [List.length_append, hLjS.clen]; rfl
   refine satq_seqN ?_
   conv => whnf
   erw [hO24]
   conv => whnf
   (repeat ((first | apply k1 | apply k2 | apply k3 | apply k4 | refine k5 (by decide) ?_ | refine k6 (by decide) ?_); conv => whnf))
   refine satq_vcN ?_
   conv => whnf
   erw [hOc]
   conv => whnf
   erw [beq_len hL2S.clen]
   conv => whnf
   erw [hL2S.one]
   conv => whnf
   erw [len_ble _ hCl (m := 0 + (L2.map CV.v).length) (by rw [hL2S.clen]; omega)]
   conv => whnf
   erw [len_big _ hCl (by omega)]
   conv => whnf
   refine atq_block (atq_on ?_)
   refine satq_vcN ?_
   conv => whnf
   refine ⟨(j : Int) + 1, wr64 (by omega), ?_⟩
   conv => whnf
   exact atq_next ⟨((j + 1, R2, a2, M2), L2), by show j + 1 ≤ r.done; omega, hz, by
    rw [hL2, hs2, hsj]
    show stL { s with pc := a2, R := R2, steps := s.steps + (j : Int) + 1 } [] = stL { s with pc := a2, R := R2, steps := s.steps + ((j + 1 : Nat) : Int) } []
    rw [show s.steps + (j : Int) + 1 = s.steps + ((j + 1 : Nat) : Int) by omega]⟩ (ent_drop (aI rfl (aI rfl (aI rfl (aI rfl (aI rfl (aI rfl (aI rfl (aI rfl trivial)))))))) (aI ((aI rfl (Or.inl (cpu_put hLjS.len hL2S.len _)))) (aI sM (aI sM (aI sM (aI sM (aI sM (aI sM (aI sM (aI sM (aI sM (aI sM (aI sM (aI sM (aI sM (aI sM (aI sM (aI sM trivial))))))))))))))))) rfl (agU_grp _ _ _ _ _ _ _ _ _ _ _ _ _ _ _ _)) (by show r.done - (j + 1) < r.done - j; omega)
  ·have hje : j = r.done := by
    have : ¬ (j : Int) < o.done := by simpa using hc
    omega
   subst hje
   rw [hri] at hit
   injection hit with hit
   injection hit with e1 hit
   injection hit with e2 e3
   subst e1; subst e2; subst e3
   rw [← hsf] at hsj
   subst hsj
   rw [← hLf] at hLj
   subst hLj
   conv => whnf
   exact atq_out (atq_exit (atq_mid () (ent_same rfl (aI rfl (aI rfl (aI rfl (aI rfl (aI rfl (aI rfl (aI rfl trivial))))))) (aI sM (aI sM (aI sM (aI sM (aI sM (aI sM (aI sM (aI sM (aI sM (aI sM (aI sM (aI sM (aI sM (aI sM (aI sM (aI sM (aI sM trivial))))))))))))))))))))
 obtain ⟨sw, hsw⟩ : ∃ sw : St, sw = { s with R := lvR (getV o.vars), f := 0 } := ⟨_, rfl⟩
 obtain ⟨Lw, hLw⟩ : ∃ Lw, Lw = stL sw [] := ⟨_, rfl⟩
 have hLwS : StC Lw := by rw [hLw]; exact stC_of sw
 refine satq_mid (α := Unit) (fun _ => [(1, .p (.c (.ref 0 0))), (2, .p (.c (.ref 7 0))), (4, one (.bool false)), (5, .p (.c (.ref 8 0))), (6, .p (.c (.ref 9 0))), (7, .p (.c (.ref 10 0))), (8, .p (.c (.ref 16 0))), (11, .p (.c (.ref 17 0)))]) (fun _ => agU n p Lf r.M ([.slice A1 bl.at_.length c1, .slice A2 bl.pages.length c2, .slice A3 bl.ops.length c3] : List Value) Z L (r.M.tl t) [.cells ocT (outC o), .cells stT (Lw.map .v)]) ?_ fun _ => ?_
 ·refine satq_vcN ?_
  conv => whnf
  erw [cut_all hSC.clen]
  conv => whnf
  erw [cut_vars (x := o) hov.len]
  conv => whnf
  refine call_con (x := .agg Lw.toArray) (avals_2stv L o.vars) (by kernel_rfl) (fun r w' hR => by rw [hL, hLw, hsw]; exact leave_walk s o.vars hov w') ?_
  rw [of_agg]
  conv => whnf
  erw [beq_len hLwS.clen]
  conv => whnf
  erw [hLwS.one]
  conv => whnf
  erw [ble_of (m := stC ⟨0, fun _ => 0, 0, 0, 0, 0, 0, 0, 0⟩ []) (hLwS.clen.trans rfl)]
  conv => whnf
  exact atq_mid () (ent_same rfl (aI rfl (aI rfl (aI rfl (aI rfl (aI rfl (aI rfl (aI rfl (aI rfl trivial)))))))) (aI sM (aI sM (aI sM (aI sM (aI sM (aI sM (aI sM (aI sM (aI sM (aI sM (aI sM (aI sM (aI sM (aI sM (aI sM (aI sM (aI sM (aI ((aI rfl (Or.inl (setAll_same (show (stC ⟨0, fun _ => 0, 0, 0, 0, 0, 0, 0, 0⟩ []).length = (Lw.map CV.v).length from hLwS.clen.symm))))) trivial)))))))))))))))))))
 refine satq_mid (α := { X : List Value // X = stL { sw with pc := r.pc } [] }) (fun _ => [(1, .p (.c (.ref 0 0))), (2, .p (.c (.ref 7 0))), (4, one (.bool false)), (5, .p (.c (.ref 8 0))), (6, .p (.c (.ref 9 0))), (7, .p (.c (.ref 10 0))), (8, .p (.c (.ref 16 0))), (11, .p (.c (.ref 17 0)))]) (fun x => agU n p Lf r.M ([.slice A1 bl.at_.length c1, .slice A2 bl.pages.length c2, .slice A3 bl.ops.length c3] : List Value) Z L (r.M.tl t) [.cells ocT (outC o), .cells stT (x.1.map .v)]) ?_ fun x => ?_
 ·refine satq_vcN ?_
  conv => whnf
  erw [len_ble _ hLwS.clen (m := 0 + 0 + 1) (by omega)]
  conv => whnf
  erw [len_big _ hLwS.clen (by omega)]
  conv => whnf
  exact atq_mid ⟨_, rfl⟩ (ent_same rfl (aI rfl (aI rfl (aI rfl (aI rfl (aI rfl (aI rfl (aI rfl (aI rfl trivial)))))))) (aI sM (aI sM (aI sM (aI sM (aI sM (aI sM (aI sM (aI sM (aI sM (aI sM (aI sM (aI sM (aI sM (aI sM (aI sM (aI sM (aI sM (aI ((aI rfl (Or.inl (by rw [hLw, ho]; rfl)))) trivial)))))))))))))))))))
 obtain ⟨X, hX⟩ := x
 dsimp only
 have hXl : (X.map CV.v).length = 24 := by rw [hX]; rfl
 have hL22 : (L.map CV.v)[0 + 22]? = some (.v (intV s.steps)) := by rw [hL]; rfl
 refine satq_mid (α := Unit) (fun _ => [(1, .p (.c (.ref 0 0))), (2, .p (.c (.ref 7 0))), (4, one (.bool false)), (5, .p (.c (.ref 8 0))), (6, .p (.c (.ref 9 0))), (7, .p (.c (.ref 10 0))), (8, .p (.c (.ref 16 0))), (11, .p (.c (.ref 17 0)))]) (fun _ => agU n p Lf r.M ([.slice A1 bl.at_.length c1, .slice A2 bl.pages.length c2, .slice A3 bl.ops.length c3] : List Value) Z L (r.M.tl t) [.cells ocT (outC o), .cells stT (Lf.map .v)]) ?_ fun _ => ?_
 ·refine satq_vcN ?_
  conv => whnf
  erw [hL22]
  conv => whnf
  refine ⟨s.steps + r.done, by rw [hod]; exact wr64 (by omega), ?_⟩
  conv => whnf
  erw [len_ble _ hXl (m := 0 + 22 + 1) (by omega)]
  conv => whnf
  erw [len_big _ hXl (by omega)]
  conv => whnf
  have hfin : stL { s with pc := r.pc, R := lvR (getV o.vars), f := 0, steps := s.steps + r.done } [] = Lf := by
   rw [hLf, hsf, ho, show (0 : Int) = s.f from hs.fl.symm]
   exact stL_congr (s := { s with pc := r.pc, steps := s.steps + r.done }) (R := lvR (getV (gL r.R))) (R' := r.R) (fun j j0 j1 => by
    unfold lvR
    split
    ·rename_i h; rw [h]; exact hrf.zero.symm
    ·exact gL_get r.R j0 j1) []
  exact atq_mid () (ent_same rfl (aI rfl (aI rfl (aI rfl (aI rfl (aI rfl (aI rfl (aI rfl (aI rfl trivial)))))))) (aI sM (aI sM (aI sM (aI sM (aI sM (aI sM (aI sM (aI sM (aI sM (aI sM (aI sM (aI sM (aI sM (aI sM (aI sM (aI sM (aI sM (aI ((aI rfl (Or.inl (by rw [← hfin, hX, hsw]; rfl)))) trivial)))))))))))))))))))
 clear hXl hX X
 refine satq_seqN ?_
 conv => whnf
 erw [cpu_at hLfS.len [.ref 1 0] 0]
 conv => whnf
 refine callS_val (.bool true) (by kernel_rfl) (fun r' w' us hR hd => ?_) ?_
 ·obtain ⟨u, l, rfl, d1, d2⟩ := hd
  obtain ⟨u2, l2, rfl, d3, d4⟩ := d2
  obtain rfl : l2 = [] := d4
  obtain ⟨q, qs, hq, hUq⟩ := hR.objsAt 10 (memS 0 n p (r.M.tl t)) (memS 10 n p (r.M.tl t)) (by simp) (fun i hi => by rcases (by have : i < 6 := hi; omega : i = 0 ∨ i = 1 ∨ i = 2 ∨ i = 3 ∨ i = 4 ∨ i = 5) with rfl | rfl | rfl | rfl | rfl | rfl <;> rfl) (memS_sh 10 n p _) (memS_ob n p _)
  obtain ⟨q2, qs2, hq2, hUq2⟩ := hR.objsAt 1 (memS 0 n p r.M) (memS 1 n p r.M) (by simp) (fun i hi => by rcases (by have : i < 6 := hi; omega : i = 0 ∨ i = 1 ∨ i = 2 ∨ i = 3 ∨ i = 4 ∨ i = 5) with rfl | rfl | rfl | rfl | rfl | rfl <;> rfl) (memS_sh 1 n p _) (memS_ob n p _)
  obtain ⟨b, hb, rfl⟩ := den_ref d1
  rw [hq] at hb; injection hb with hb; subst hb
  obtain ⟨b, hb, rfl⟩ := den_ref d3
  rw [hq2] at hb; injection hb with hb; subst hb
  exact mem_same2 (r.M.tl t) r.M n p w' q q2 qs qs2 hUq hUq2 (tl_ok hrf.mem t) hrf.mem rfl rfl rfl
 conv => whnf
 refine satq_seqN ?_
 refine sat_quiet mixed (by kernel_rfl) ?_
 conv => whnf
 erw [cut_all hLfS.clen]
 conv => whnf
 erw [cpu_cut hLfS.len]
 conv => whnf
 refine q_neq_st sf hLf rfl rfl rfl ?_
 conv => whnf
 (repeat ((first | apply k1 | apply k2 | apply k3 | apply k4 | refine k5 (by decide) ?_ | refine k6 (by decide) ?_); conv => whnf))
 rw [show decide (o.done < 0) = false from decide_eq_false (by omega)]
 (repeat ((first | apply k1 | apply k2 | apply k3 | apply k4 | refine k5 (by decide) ?_ | refine k6 (by decide) ?_); conv => whnf))
 have hle : decide (o.done < (bl.at_.length : Int)) = o.leaves := by
  have h0 : o.leaves = r.leaves := by rw [ho]; rfl
  rw [h0]
  cases hl : r.leaves with
  | true => have := hlt hl; exact decide_eq_true (by omega)
  | false => have := hlf hl; exact decide_eq_false (by omega)
 rw [hle]
 refine q_neq_bool o.leaves o.leaves rfl rfl rfl rfl ?_
 rw [show (!(o.leaves == o.leaves)) = false by simp]
 conv => whnf
 (repeat ((first | apply k1 | apply k2 | apply k3 | apply k4 | refine k5 (by decide) ?_ | refine k6 (by decide) ?_); conv => whnf))
 refine satq_as (f' := [(1, .p (.c (.ref 0 0))), (2, .p (.c (.ref 7 0))), (4, one (.bool false)), (5, .p (.c (.ref 8 0))), (6, .p (.c (.ref 9 0))), (7, .p (.c (.ref 10 0))), (8, .p (.c (.ref 16 0))), (11, .p (.c (.ref 17 0)))]) (S' := agU n p Lf r.M ([.slice A1 bl.at_.length c1, .slice A2 bl.pages.length c2, .slice A3 bl.ops.length c3] : List Value) Z L (r.M.tl t) [.cells ocT (outC o), .cells stT (Lf.map .v)]) (ent_same rfl (aI rfl (aI rfl (aI rfl (aI rfl (aI rfl (aI rfl (aI rfl (aI rfl trivial)))))))) (aI sM (aI sM (aI sM (aI sM (aI sM (aI sM (aI sM (aI sM (aI sM (aI sM (aI sM (aI sM (aI sM (aI sM (aI sM (aI sM (aI sM (aI sM trivial))))))))))))))))))) ?_
 cases hlv : o.leaves with
 | false =>
  refine satq_seqN ?_
  conv => whnf
  rw [hlv]
  (repeat ((first | apply k1 | apply k2 | apply k3 | apply k4 | refine k5 (by decide) ?_ | refine k6 (by decide) ?_); conv => whnf))
  refine sat_tail 2 mixed (by kernel_rfl) ?_
  conv => whnf
  erw [cut_all (outC_length (x := o) hov)]
  conv => whnf
  erw [beq_len (outC_length (x := o) hov)]
  conv => whnf
  erw [onesL_out]
  conv => whnf
  erw [len_ble _ hZl (m := 0 + (outC o).length) (by rw [outC_length hov]; omega)]
  conv => whnf
  erw [len_big _ hZl (by omega)]
  conv => whnf
  erw [setAll_same (show (Z.map CV.v).length = (outC o).length by rw [outC_length hov]; exact hZl)]
  refine atq_ret ?_
  conv => whnf
  erw [cut_all (outC_length (x := o) hov)]
  conv => whnf
  refine fin_objs (U := cpuU 0 Lf n p r.M) (val_tup1 _ (outL o)) rfl (agU_cpu n p Lf r.M _ (outL o) L (r.M.tl t) _) (cpuU_ob Lf n p r.M) fun w' q1 q2 => ⟨sf, r.M, rfl, hsfo, by rw [hsf]; show s.steps + (r.done : Int) ≤ s.steps + 64; omega, hrf.mem, by rw [← hLf]; exact q1, q2⟩
 | true =>
  have hrl2 : stepQ (qAt (readQ M.fet) r.pc) r.pc r.R r.M = none := hrl (by
   have : o.leaves = r.leaves := by rw [ho]; rfl
   rw [← this]; exact hlv)
  have hP0 : (Lf.map CV.v ++ [CV.ref 1 0])[0 + 0 + 0]? = some (.v (u32V sf.pc)) := by
   rw [cpu_pre hLfS.len _ (by omega), hLf]; rfl
  refine satq_seqN ?_
  conv => whnf
  rw [hlv]
  (repeat ((first | apply k1 | apply k2 | apply k3 | apply k4 | refine k5 (by decide) ?_ | refine k6 (by decide) ?_); conv => whnf))
  refine satq_mid (α := Unit) (fun _ => [(1, .p (.c (.ref 0 0))), (2, .p (.c (.ref 7 0))), (4, one (.bool false)), (5, .p (.c (.ref 8 0))), (6, .p (.c (.ref 9 0))), (7, .p (.c (.ref 10 0))), (8, .p (.c (.ref 16 0))), (13, one (.bool (r.M.simp sf.pc)))]) (fun _ => agU n p Lf r.M ([.slice A1 bl.at_.length c1, .slice A2 bl.pages.length c2, .slice A3 bl.ops.length c3] : List Value) Z L (r.M.tl t) [.cells ocT (outC o), .cells stT (Lf.map .v)]) ?_ fun _ => ?_
  ·refine satq_vcN ?_
   refine sat_quiet mixed (by kernel_rfl) ?_
   conv => whnf
   erw [hP0]
   conv => whnf
   erw [cpu_at hLfS.len [.ref 1 0] 0]
   conv => whnf
   refine ⟨by kernel_rfl, .bool (r.M.simp sf.pc), ?_, fun r' w' us hR hd => ?_⟩
   ·conv => whnf
    exact atq_mid () (ent_same rfl (aI rfl (aI rfl (aI rfl (aI rfl (aI rfl (aI rfl (aI rfl (aI rfl trivial)))))))) (aI sM (aI sM (aI sM (aI sM (aI sM (aI sM (aI sM (aI sM (aI sM (aI sM (aI sM (aI sM (aI sM (aI sM (aI sM (aI sM (aI sM (aI sM trivial)))))))))))))))))))
   ·obtain ⟨u, l, rfl, d1, d2⟩ := hd
    obtain ⟨u2, l2, rfl, d3, d4⟩ := d2
    obtain rfl : l2 = [] := d4
    obtain ⟨q, qs, hq, hUq⟩ := hR.objsAt 1 (memS 0 n p r.M) (memS 1 n p r.M) (by simp) (fun i hi => by rcases (by have : i < 6 := hi; omega : i = 0 ∨ i = 1 ∨ i = 2 ∨ i = 3 ∨ i = 4 ∨ i = 5) with rfl | rfl | rfl | rfl | rfl | rfl <;> rfl) (memS_sh 1 n p _) (memS_ob n p _)
    obtain rfl := den_v d1
    obtain ⟨b, hb, rfl⟩ := den_ref d3
    rw [hq] at hb; injection hb with hb; subst hb
    exact (simple_walk r.M n p sf.pc w' q qs hUq hrf.mem hsfo.pc).mono fun e w2 ⟨z1, z2, z3⟩ => ⟨z1, objs_below (memS_ob n p r.M) hUq z2 z3⟩
  have hcopy : ∀ (w' : World) (xs : List Value) {rr : Env}, (∃ q qs, rr.blk 1 = some q ∧ ObjsAt w' (q :: qs) (memS 0 n p r.M)) → avdenL rr [.p (.c (.ref 1 0))] xs → Calls Tryz.prog 25 xs.toArray w' fun e w2 => ∃ g gs, ∃ x : { t : Tl // True }, e = .returned (.pointer (some ⟨g, 0, none⟩)) ∧ True ∧ NewObjs w' w2 (g :: gs) (memS 0 n p (r.M.tl x.1)) := fun w' xs rr ⟨q, qs, hq, hUq⟩ hd => by
   obtain ⟨u, l, rfl, d1, d2⟩ := hd
   obtain rfl : l = [] := d2
   obtain ⟨b, hb, rfl⟩ := den_ref d1
   rw [hq] at hb; injection hb with hb; subst hb
   exact (copy_walk r.M n p w' q qs hUq hrf.mem hp).mono fun e w'' ⟨g', gs', M', he, ⟨t1, t2, t3, t4, t5, hM'⟩, hn⟩ => ⟨g', gs', ⟨⟨t1, t2, t3, t4, t5⟩, trivial⟩, he, trivial, by rw [hM'] at hn; exact hn⟩
  have hstep2 : ∀ (t2 : Tl) (w' : World) (q : Nat) (qs : List Nat), ObjsAt w' (q :: qs) (memS 0 n p (r.M.tl t2)) → Calls Tryz.prog 24 #[.agg Lf.toArray, .pointer (some ⟨q, 0, none⟩)] w' fun e w2 => ∃ x : (List Value × Int × Int) × MemP, (StC x.1.1 ∧ (r.M.simp sf.pc = true → x.1.2.1 ≠ 0)) ∧ e = .returned (.agg (x.1.1 ++ [intV x.1.2.1, u32V x.1.2.2]).toArray) ∧ ObjsAt w2 (q :: qs) (memS 0 n p x.2) ∧ GrownBys w' w2 (q :: qs) := fun t2 w' q qs hUq => by
   rw [hLf]
   refine (step_walk sf hsfo (r.M.tl t2) n p w' q qs hUq (tl_ok hrf.mem t2)).mono fun e w2 ⟨v, M', he, hR, hMo, hO, hG⟩ => ?_
   obtain ⟨s', k, inf, hv, hk⟩ := stepR_shape hR
   refine ⟨((stL s' [], k, inf), M'), ⟨stC_of s', fun h => hk h ?_⟩, by rw [he, hv], hO, hG⟩
   have hpc : sf.pc = r.pc := by rw [hsf]
   have hRR : sf.R = r.R := by rw [hsf]
   rw [tl_fet, hrf.fet, hpc, hRR, stepQ_tl, hrl2]; rfl
  refine satq_mid (α := { x : List Value × Int × Int // StC x.1 ∧ (r.M.simp sf.pc = true → x.2.1 ≠ 0) }) (fun _ => [(1, .p (.c (.ref 0 0))), (2, .p (.c (.ref 7 0))), (4, one (.bool false)), (5, .p (.c (.ref 8 0))), (6, .p (.c (.ref 9 0))), (7, .p (.c (.ref 10 0))), (8, .p (.c (.ref 16 0))), (13, one (.bool (r.M.simp sf.pc))), (14, .p (.c (.ref 18 0)))]) (fun x => agU n p Lf r.M ([.slice A1 bl.at_.length c1, .slice A2 bl.pages.length c2, .slice A3 bl.ops.length c3] : List Value) Z L (r.M.tl t) [.cells ocT (outC o), .cells stT (Lf.map .v), .cells outT ((x.1.1 ++ [intV x.1.2.1, u32V x.1.2.2]).map .v)]) ?_ fun x => ?_
  ·refine satq_vcN ?_
   refine sat_anyG (.q 0 (.q 1 (.q 2 (.q 4 (.q 5 (.q 6 (.alt 3 (.alt 7 (.alt 8 (.alt 9 (.alt 10 (.alt 11 .done .no) .no) (.alt 10 (.alt 9 (.alt 11 .done .no) .no) .no)) (.alt 10 (.alt 8 (.alt 9 (.alt 11 .done .no) .no) .no) .no)) (.alt 10 (.alt 7 (.alt 8 (.alt 9 (.alt 11 .done .no) .no) .no) .no) .no)) (.alt 7 (.alt 3 (.alt 8 (.alt 9 (.alt 10 (.alt 11 .done .no) .no) (.alt 10 (.alt 9 (.alt 11 .done .no) .no) .no)) (.alt 10 (.alt 8 (.alt 9 (.alt 11 .done .no) .no) .no) .no)) (.alt 8 (.alt 3 (.alt 9 (.alt 10 (.alt 11 .done .no) .no) (.alt 10 (.alt 9 (.alt 11 .done .no) .no) .no)) (.alt 10 (.alt 3 (.alt 9 (.alt 11 .done .no) .no) .no) .no)) (.alt 10 (.alt 3 (.alt 8 (.alt 9 (.alt 11 .done .no) .no) .no) (.alt 8 (.alt 3 (.alt 9 (.alt 11 .done .no) .no) .no) .no)) .no))) (.alt 10 (.alt 3 (.alt 7 (.alt 8 (.alt 9 (.alt 11 .done .no) .no) .no) .no) (.alt 7 (.alt 3 (.alt 8 (.alt 9 (.alt 11 .done .no) .no) .no) (.alt 8 (.alt 3 (.alt 9 (.alt 11 .done .no) .no) .no) .no)) .no)) .no))))))))) mixed (by kernel_rfl) (by kernel_rfl) ?_
   conv => whnf
   repeat' (first
    | exact atq_mid ⟨(L3, k3, i3), hL3, hk3⟩ (ent_drop (aI rfl (aI rfl (aI rfl (aI rfl (aI rfl (aI rfl (aI rfl (aI rfl (aI rfl trivial))))))))) (aI sM (aI sM (aI sM (aI sM (aI sM (aI sM (aI sM (aI sM (aI sM (aI sM (aI sM (aI sM (aI sM (aI sM (aI sM (aI sM (aI sM (aI sM (aI ((aI rfl (Or.inl (outset hL3 _ _)))) trivial))))))))))))))))))) rfl (agU_ren _ _ _ _ _ _ _ _ _ _ _))
    | exact atq_mid ⟨(L3, k3, i3), hL3, hk3⟩ (ent_ren [0, 1, 2, 3, 4, 5, 6, 7, 8, 9, 10, 11, 12, 13, 14, 15, 16, 17, 24] (aI rfl (aI rfl (aI rfl (aI rfl (aI rfl (aI rfl (aI rfl (aI rfl (aI rfl trivial))))))))) (aI ((Exists.intro _ (aI rfl (aI rfl (Or.inl (cpu_ren Lf).symm))))) (aI ((Exists.intro _ (aI rfl sM))) (aI ((Exists.intro _ (aI rfl (aI rfl (Or.inl (renL_vals _ _).symm))))) (aI ((Exists.intro _ (aI rfl (aI rfl (Or.inl (renL_vals _ _).symm))))) (aI ((Exists.intro _ (aI rfl (aI rfl (Or.inl (renL_vals _ _).symm))))) (aI ((Exists.intro _ (aI rfl (aI rfl (Or.inl (renL_vals _ _).symm))))) (aI ((Exists.intro _ (aI rfl (aI rfl (Or.inl (renL_vals _ _).symm))))) (aI ((Exists.intro _ (aI rfl (aI rfl (Or.inl (renL_vals _ _).symm))))) (aI ((Exists.intro _ (aI rfl (aI rfl (Or.inl (renL_vals _ _).symm))))) (aI ((Exists.intro _ (aI rfl (aI rfl (Or.inl (renL_vals _ _).symm))))) (aI ((Exists.intro _ (aI rfl sM))) (aI ((Exists.intro _ (aI rfl (aI rfl (Or.inl (renL_vals _ _).symm))))) (aI ((Exists.intro _ (aI rfl (aI rfl (Or.inl (renL_vals _ _).symm))))) (aI ((Exists.intro _ (aI rfl (aI rfl (Or.inl (renL_vals _ _).symm))))) (aI ((Exists.intro _ (aI rfl (aI rfl (Or.inl (renL_vals _ _).symm))))) (aI ((Exists.intro _ (aI rfl (aI rfl (Or.inl (renL_vals _ _).symm))))) (aI ((Exists.intro _ (aI rfl (aI rfl (Or.inl (renL_vals _ _).symm))))) (aI ((Exists.intro _ (aI rfl (aI rfl (Or.inl (renL_vals _ _).symm))))) (aI ((Exists.intro _ (aI rfl (aI rfl (Or.inl ((outset hL3 _ _).trans (renL_vals _ _).symm)))))) trivial))))))))))))))))))) rfl (agU_ren _ _ _ _ _ _ _ _ _ _ _) rfl rfl rfl)
    | (refine call_newObjsX (α := { t : Tl // True }) (fun t => memS 0 n p (r.M.tl t.1)) (fun t => memS 18 n p (r.M.tl t.1)) (fun _ => True) (by kernel_rfl) (fun _ _ => memS_sh 18 n p _) (fun _ _ => memS_ob n p _) (fun r' w' xs hR hd => hcopy w' xs (hR.objsAt 1 (memS 0 n p r.M) (memS 1 n p r.M) (by simp) (fun i hi => by rcases (by have : i < 6 := hi; omega : i = 0 ∨ i = 1 ∨ i = 2 ∨ i = 3 ∨ i = 4 ∨ i = 5) with rfl | rfl | rfl | rfl | rfl | rfl <;> rfl) (memS_sh 1 n p _) (memS_ob n p _)) hd) fun t2 _ => ?_; obtain ⟨t2, _⟩ := t2; (conv=>whnf))
    | (refine call_newObjsX (α := { t : Tl // True }) (fun t => memS 0 n p (r.M.tl t.1)) (fun t => memS 19 n p (r.M.tl t.1)) (fun _ => True) (by kernel_rfl) (fun _ _ => memS_sh 19 n p _) (fun _ _ => memS_ob n p _) (fun r' w' xs hR hd => hcopy w' xs (hR.objsAt 1 (memS 0 n p r.M) (memS 1 n p r.M) (by simp) (fun i hi => by rcases (by have : i < 6 := hi; omega : i = 0 ∨ i = 1 ∨ i = 2 ∨ i = 3 ∨ i = 4 ∨ i = 5) with rfl | rfl | rfl | rfl | rfl | rfl <;> rfl) (memS_sh 1 n p _) (memS_ob n p _)) hd) fun t2 _ => ?_; obtain ⟨t2, _⟩ := t2; (conv=>whnf))
    | (refine call_objs (α := (List Value × Int × Int) × MemP) (pre := [.p (.agg (Lf.map .v))]) (suf := []) 18 (memS 0 n p (r.M.tl t2)) (memS 18 n p (r.M.tl t2)) (fun x => memS 0 n p x.2) (fun x => memS 18 n p x.2) (fun x => .agg (x.1.1 ++ [intV x.1.2.1, u32V x.1.2.2]).toArray) (fun x => StC x.1.1 ∧ (r.M.simp sf.pc = true → x.1.2.1 ≠ 0)) (by simp) (memS_sh 18 n p _) (memS_ob n p _) (fun i hi => by rcases (by have : i < 6 := hi; omega : i = 0 ∨ i = 1 ∨ i = 2 ∨ i = 3 ∨ i = 4 ∨ i = 5) with rfl | rfl | rfl | rfl | rfl | rfl <;> rfl) (avals_1st Lf) rfl (by kernel_rfl) (fun _ _ => memS_sh 18 n p _) (fun _ _ => memS_ob n p _) (fun _ _ => rfl) (fun w' q qs hk hUq => hstep2 t2 w' q qs hUq) fun x hx => ?_; obtain ⟨⟨L3, k3, i3⟩, M3⟩ := x; obtain ⟨hL3, hk3⟩ := hx; dsimp only at hL3 hk3 ⊢; rw [of_outS]; (conv=>whnf))
    | (refine call_objs (α := (List Value × Int × Int) × MemP) (pre := [.p (.agg (Lf.map .v))]) (suf := []) 19 (memS 0 n p (r.M.tl t2)) (memS 19 n p (r.M.tl t2)) (fun x => memS 0 n p x.2) (fun x => memS 19 n p x.2) (fun x => .agg (x.1.1 ++ [intV x.1.2.1, u32V x.1.2.2]).toArray) (fun x => StC x.1.1 ∧ (r.M.simp sf.pc = true → x.1.2.1 ≠ 0)) (by simp) (memS_sh 19 n p _) (memS_ob n p _) (fun i hi => by rcases (by have : i < 6 := hi; omega : i = 0 ∨ i = 1 ∨ i = 2 ∨ i = 3 ∨ i = 4 ∨ i = 5) with rfl | rfl | rfl | rfl | rfl | rfl <;> rfl) (avals_1st Lf) rfl (by kernel_rfl) (fun _ _ => memS_sh 19 n p _) (fun _ _ => memS_ob n p _) (fun _ _ => rfl) (fun w' q qs hk hUq => hstep2 t2 w' q qs hUq) fun x hx => ?_; obtain ⟨⟨L3, k3, i3⟩, M3⟩ := x; obtain ⟨hL3, hk3⟩ := hx; dsimp only at hL3 hk3 ⊢; rw [of_outS]; (conv=>whnf))
    | (erw [cpu_cut hLfS.len]; (conv=>whnf))
    | (erw [cpu_at hLfS.len [.ref 1 0] 0]; (conv=>whnf))
    | (erw [beq_len (outSC_len hL3 (.v (intV k3)) (.v (u32V i3)))]; (conv=>whnf); erw [outSC_one hL3 _ rfl]; (conv=>whnf); erw [ble_of (m := (stL ⟨0, fun _ => 0, 0, 0, 0, 0, 0, 0, 0⟩ [intV 0, u32V 0]).map CV.v) ((outSC_len hL3 (.v (intV k3)) (.v (u32V i3))).trans rfl)]; (conv=>whnf))
    | (refine ⟨?_, trivial⟩; (conv=>whnf))
    | (refine ⟨?_, ?_, trivial⟩ <;> (conv=>whnf))
    | (refine ⟨?_, ?_, ?_, trivial⟩ <;> (conv=>whnf)))
   all_goals exact (5 : Nat)
  obtain ⟨⟨L3, k3, i3⟩, hL3, hk3⟩ := x
  dsimp only at hL3 hk3 ⊢
  have hO24 : ((L3 ++ [intV k3, u32V i3]).map CV.v)[0 + 24 + 0]? = some (.v (intV k3)) := by
   rw [List.map_append]
   show (L3.map CV.v ++ [.v (intV k3), .v (u32V i3)])[24 + 0]? = _
   rw [cpu_at hL3.len]; rfl
  cases hsm : r.M.simp sf.pc with
  | false =>
   refine satq_vcN ?_
   refine sat_tail 10 mixed (by kernel_rfl) ?_
   conv => whnf
   (repeat ((first | apply k1 | apply k2 | apply k3 | apply k4 | refine k5 (by decide) ?_ | refine k6 (by decide) ?_); conv => whnf))
   erw [cut_all (outC_length (x := o) hov)]
   conv => whnf
   erw [beq_len (outC_length (x := o) hov)]
   conv => whnf
   erw [onesL_out]
   conv => whnf
   erw [len_ble _ hZl (m := 0 + (outC o).length) (by rw [outC_length hov]; omega)]
   conv => whnf
   erw [len_big _ hZl (by omega)]
   conv => whnf
   erw [setAll_same (show (Z.map CV.v).length = (outC o).length by rw [outC_length hov]; exact hZl)]
   refine atq_ret ?_
   conv => whnf
   erw [cut_all (outC_length (x := o) hov)]
   conv => whnf
   refine fin_objs (U := cpuU 0 Lf n p r.M) (val_tup1 _ (outL o)) rfl (agU_cpu n p Lf r.M _ (outL o) L (r.M.tl t) _) (cpuU_ob Lf n p r.M) fun w' q1 q2 => ⟨sf, r.M, rfl, hsfo, by rw [hsf]; show s.steps + (r.done : Int) ≤ s.steps + 64; omega, hrf.mem, by rw [← hLf]; exact q1, q2⟩
  | true =>
   have hk4 : (k3 != 0) = true := by simpa using hk3 hsm
   refine satq_vcN ?_
   refine sat_tail 10 mixed (by kernel_rfl) ?_
   conv => whnf
   (repeat ((first | apply k1 | apply k2 | apply k3 | apply k4 | refine k5 (by decide) ?_ | refine k6 (by decide) ?_); conv => whnf))
   erw [hO24]
   conv => whnf
   (repeat ((first | apply k1 | apply k2 | apply k3 | apply k4 | refine k5 (by decide) ?_ | refine k6 (by decide) ?_); conv => whnf))
   rw [hk4]
   conv => whnf
   (repeat ((first | apply k1 | apply k2 | apply k3 | apply k4 | refine k5 (by decide) ?_ | refine k6 (by decide) ?_); conv => whnf))
   erw [cut_all (outC_length (x := o) hov)]
   conv => whnf
   erw [beq_len (outC_length (x := o) hov)]
   conv => whnf
   erw [onesL_out]
   conv => whnf
   erw [len_ble _ hZl (m := 0 + (outC o).length) (by rw [outC_length hov]; omega)]
   conv => whnf
   erw [len_big _ hZl (by omega)]
   conv => whnf
   erw [setAll_same (show (Z.map CV.v).length = (outC o).length by rw [outC_length hov]; exact hZl)]
   refine atq_ret ?_
   conv => whnf
   erw [cut_all (outC_length (x := o) hov)]
   conv => whnf
   refine fin_objs (U := cpuU 0 Lf n p r.M) (val_tup1 _ (outL o)) rfl (agU_cpu n p Lf r.M _ (outL o) L (r.M.tl t) _) (cpuU_ob Lf n p r.M) fun w' q1 q2 => ⟨sf, r.M, rfl, hsfo, by rw [hsf]; show s.steps + (r.done : Int) ≤ s.steps + 64; omega, hrf.mem, by rw [← hLf]; exact q1, q2⟩
end Go.Proofs.YtnhdcclpjildjaaGreat
