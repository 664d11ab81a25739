/- The lifter's table of plain operations. -/
import Derived.Test.YtnhdcclpjildjaaGreatMStopsC
namespace Go.Proofs.YtnhdcclpjildjaaGreat
open Go.RowKit

section
variable {R : Value → Option (DataW Unit × List MemPlace)} {mk : Int → Value} {cd : Int → DataW Unit} {good : Int → Prop} {n : Nat} {m : Int → Option Int}
variable {w0 : World} {G : Gs} {N : Nd} {o : Oper} {f : Fr} {S : List Ow} {K : Fr → List Ow → Prop}
theorem op_insert {t e : TypeId} {mo x v : Operand} (hop : o.op = .insert t mo x v) (ht : Tryz.prog.underlying t = some (.map 3 e)) (E : Elems R mk cd good) (i : Nat) (k y : Int)
  (hm : f.ev mo = .p (.c (.mp i))) (hi : S[i]? = some (mapOw R cd n m)) (hx : f.ev x = one (.int .i64 k)) (hv : f.ev v = one (mk y)) (hn : n < 1000000) (hkw : (Lit.int .i64 k).wf = true) (hy : good y) (hdst : dstOk N.n o.dst = true)
  (hk : K (f.put o.dst (.p (.c .any))) (S.set i (mapOw R cd (n + 1) (mput m k y)))) : OpS Tryz.prog w0 G N o f S K := by
 refine ⟨fun r a w hR hf hN hd next Q hK => ?_⟩
 have h1 := hf.ev mo
 have h2 := hf.ev x
 have h3 := hf.ev v
 rw [hm] at h1; rw [hx] at h2; rw [hv] at h3
 obtain ⟨b, hb, hu⟩ := den_mp h1
 obtain ⟨b', hb', hmap, _⟩ := hR.own i _ hi
 rw [hb] at hb'; injection hb' with hb'; subst hb'
 obtain ⟨w', hrun, hmap', hg⟩ := hmap.put E ht hn hkw hy (t := t)
 have hex : (execOp a.eval o).run Tryz.prog w = .ok .skip w' := by
  simp [execOp, hop, hu, den_v h2, den_v h3, hrun]
 exact wp_of_skip hex (hK _ _ _ _ hk (good_value hR hf hN hd hdst (by simp [AV.den, Pc.den, CV.den]) (hR.setBlock hb hg (imap_holds hb hmap') (hR.lt_of_blk hb)) (Env.le.refl r)))
theorem fin_map {R' : Ending → World → Prop} (i : Nat) (hi : S[i]? = some (mapOw R cd n m)) (h : ∀ w b, IMap R cd w b n m → w0.heap.size ≤ b → Below w0.heap.size w0 w → R' (.returned (.map (some b))) w) : Fin w0 Gs.nil S (.p (.c (.mp i))) R' := by
 refine ⟨fun r w u hR hd => ?_⟩
 obtain ⟨b, hb, rfl⟩ := den_mp hd
 obtain ⟨b', hb', hmap, _⟩ := hR.own i _ hi
 rw [hb] at hb'; injection hb' with hb'; subst hb'
 exact h w b hmap (fresh_of hR hb) hR.toBelow
theorem call_newMap {fid : FuncId} {args : List AV} {xs : List Value} {K : AV → List Ow → Prop} (hx : avals args = some xs) (hok : fnOk Tryz.prog fid = true)
  (h : ∀ r w, Rel w0 G S r w → Calls Tryz.prog fid xs.toArray w fun e w' => ∃ b, e = .returned (.map (some b)) ∧ IMap R cd w' b n m ∧ w.heap.size ≤ b ∧ Below w.heap.size w w')
  (hK : K (.p (.c (.mp S.length))) (S ++ [mapOw R cd n m])) : CallS Tryz.prog w0 G fid args S K := by
 refine ⟨hok, fun r w us hR hd => ?_⟩
 obtain rfl := avals_den hx hd
 refine (h r w hR).mono fun e w' ⟨b, he, hmap, hb, hB⟩ => ?_
 refine ⟨_, _, _, r.set S.length (some b) none, he, ?_, hR.snoc hB (fun x hx => by injection hx with hx; subst hx; exact ⟨hb, hmap.lt⟩) (imap_holds (by simp [Env.set]) hmap), hR.le_new _ _, hK⟩
 simp only [AV.den, Pc.den, CV.den]
 exact ⟨b, by simp [Env.set], rfl⟩
end
def plainM (k : Int) : Option Int := if qCode k = 0 then none else some (qCode k)
set_option maxRecDepth 100000 in
set_option maxHeartbeats 2000000 in
theorem plain_walk (w : World) : Calls Tryz.prog 98 #[] w fun e w' => ∃ b, e = .returned (.map (some b)) ∧ IMap i64R i64D w' b 19 plainM ∧ w.heap.size ≤ b ∧ Below w.heap.size w w' := by
 refine calls_satq [] Tryz.func98 Tryz.ntmps98 rfl (by simp) ?_
 refine satq_seqN ?_
 conv => whnf
 refine satq_seqN ?_
 conv => whnf
 refine op_makeMap (R := i64R) (cd := i64D) rfl rfl ?_
 conv => whnf
 refine op_insert (n := 0) rfl Tryz.underlying176 i64Elems 0 1 3 rfl rfl rfl rfl (by decide) (wf_mid (by unfold mid; omega)) (by unfold mid; omega) rfl ?_
 conv => whnf
 refine op_insert (n := 1) rfl Tryz.underlying176 i64Elems 0 2 4 rfl rfl rfl rfl (by decide) (wf_mid (by unfold mid; omega)) (by unfold mid; omega) rfl ?_
 conv => whnf
 refine op_insert (n := 2) rfl Tryz.underlying176 i64Elems 0 3 5 rfl rfl rfl rfl (by decide) (wf_mid (by unfold mid; omega)) (by unfold mid; omega) rfl ?_
 conv => whnf
 refine op_insert (n := 3) rfl Tryz.underlying176 i64Elems 0 4 6 rfl rfl rfl rfl (by decide) (wf_mid (by unfold mid; omega)) (by unfold mid; omega) rfl ?_
 conv => whnf
 refine op_insert (n := 4) rfl Tryz.underlying176 i64Elems 0 5 7 rfl rfl rfl rfl (by decide) (wf_mid (by unfold mid; omega)) (by unfold mid; omega) rfl ?_
 conv => whnf
 refine op_insert (n := 5) rfl Tryz.underlying176 i64Elems 0 6 8 rfl rfl rfl rfl (by decide) (wf_mid (by unfold mid; omega)) (by unfold mid; omega) rfl ?_
 conv => whnf
 refine op_insert (n := 6) rfl Tryz.underlying176 i64Elems 0 7 9 rfl rfl rfl rfl (by decide) (wf_mid (by unfold mid; omega)) (by unfold mid; omega) rfl ?_
 conv => whnf
 refine op_insert (n := 7) rfl Tryz.underlying176 i64Elems 0 8 10 rfl rfl rfl rfl (by decide) (wf_mid (by unfold mid; omega)) (by unfold mid; omega) rfl ?_
 conv => whnf
 refine op_insert (n := 8) rfl Tryz.underlying176 i64Elems 0 9 11 rfl rfl rfl rfl (by decide) (wf_mid (by unfold mid; omega)) (by unfold mid; omega) rfl ?_
 conv => whnf
 refine op_insert (n := 9) rfl Tryz.underlying176 i64Elems 0 10 12 rfl rfl rfl rfl (by decide) (wf_mid (by unfold mid; omega)) (by unfold mid; omega) rfl ?_
 conv => whnf
 refine op_insert (n := 10) rfl Tryz.underlying176 i64Elems 0 11 14 rfl rfl rfl rfl (by decide) (wf_mid (by unfold mid; omega)) (by unfold mid; omega) rfl ?_
 conv => whnf
 refine op_insert (n := 11) rfl Tryz.underlying176 i64Elems 0 12 15 rfl rfl rfl rfl (by decide) (wf_mid (by unfold mid; omega)) (by unfold mid; omega) rfl ?_
 conv => whnf
 refine op_insert (n := 12) rfl Tryz.underlying176 i64Elems 0 16 3 rfl rfl rfl rfl (by decide) (wf_mid (by unfold mid; omega)) (by unfold mid; omega) rfl ?_
 conv => whnf
 refine op_insert (n := 13) rfl Tryz.underlying176 i64Elems 0 17 5 rfl rfl rfl rfl (by decide) (wf_mid (by unfold mid; omega)) (by unfold mid; omega) rfl ?_
 conv => whnf
 refine op_insert (n := 14) rfl Tryz.underlying176 i64Elems 0 18 6 rfl rfl rfl rfl (by decide) (wf_mid (by unfold mid; omega)) (by unfold mid; omega) rfl ?_
 conv => whnf
 refine op_insert (n := 15) rfl Tryz.underlying176 i64Elems 0 19 7 rfl rfl rfl rfl (by decide) (wf_mid (by unfold mid; omega)) (by unfold mid; omega) rfl ?_
 conv => whnf
 refine op_insert (n := 16) rfl Tryz.underlying176 i64Elems 0 20 8 rfl rfl rfl rfl (by decide) (wf_mid (by unfold mid; omega)) (by unfold mid; omega) rfl ?_
 conv => whnf
 refine op_insert (n := 17) rfl Tryz.underlying176 i64Elems 0 21 9 rfl rfl rfl rfl (by decide) (wf_mid (by unfold mid; omega)) (by unfold mid; omega) rfl ?_
 conv => whnf
 refine op_insert (n := 18) rfl Tryz.underlying176 i64Elems 0 22 10 rfl rfl rfl rfl (by decide) (wf_mid (by unfold mid; omega)) (by unfold mid; omega) rfl ?_
 conv => whnf
 refine satq_vcN ?_
 conv => whnf
 refine atq_ret ?_
 conv => whnf
 refine fin_map 0 rfl fun w' b hm hb hB => ⟨b, rfl, hm.is (fun k => ?_), hb, hB⟩
 by_cases hk : 1 ≤ k ∧ k ≤ 22
 ·have : k = 1 ∨ k = 2 ∨ k = 3 ∨ k = 4 ∨ k = 5 ∨ k = 6 ∨ k = 7 ∨ k = 8 ∨ k = 9 ∨ k = 10 ∨ k = 11 ∨ k = 12 ∨ k = 13 ∨ k = 14 ∨ k = 15 ∨ k = 16 ∨ k = 17 ∨ k = 18 ∨ k = 19 ∨ k = 20 ∨ k = 21 ∨ k = 22 := by omega
  rcases this with rfl | rfl | rfl | rfl | rfl | rfl | rfl | rfl | rfl | rfl | rfl | rfl | rfl | rfl | rfl | rfl | rfl | rfl | rfl | rfl | rfl | rfl <;> decide
 ·have hq : qCode k = 0 := by
   unfold qCode
   rw [if_neg (by omega), if_neg (by omega), if_neg (by omega), if_neg (by omega), if_neg (by omega)]
  unfold plainM mput
  rw [if_pos hq]
  simp only [show ¬ k = 1 by omega, show ¬ k = 2 by omega, show ¬ k = 3 by omega, show ¬ k = 4 by omega, show ¬ k = 5 by omega, show ¬ k = 6 by omega, show ¬ k = 7 by omega, show ¬ k = 8 by omega, show ¬ k = 9 by omega, show ¬ k = 10 by omega, show ¬ k = 11 by omega, show ¬ k = 12 by omega, show ¬ k = 16 by omega, show ¬ k = 17 by omega, show ¬ k = 18 by omega, show ¬ k = 19 by omega, show ¬ k = 20 by omega, show ¬ k = 21 by omega, show ¬ k = 22 by omega, if_false]
end Go.Proofs.YtnhdcclpjildjaaGreat
namespace Go.Proofs.YtnhdcclpjildjaaGreat
open Go.RowKit

theorem block_all {w : World} {b : Nat} {us : List Value} {t : TypeId} (h : w.heap[b]? = some (.cells us.toArray t (0, 0))) : CellsAt w Gs.nil b 0 us :=
 cells_list (heap_lt h) (by simp) fun j u hj => by simp [World.cell?, h, hj]
section
variable {w : World} {g : Nat} {vA vP vO : Value} {l : List BOp} {pi : Nat}
theorem lift_jmp {w1 w2 : World} {S : List Ow} {K : Value → World → Prop} {pb : Nat} {us : List Value} {t : TypeId} {fid : FuncId} {args : List AV} {xs : List Value} (l2 : List BOp) (hs : LSt w1 w2 g vA vP vO l pb us t) (hx : avals args = some xs) (hok : fnOk Tryz.prog fid = true)
  (h : ∀ w3 vO1, LiftAt w3 g vA vP vO1 l → Calls Tryz.prog fid xs.toArray w3 fun e w4 => e = .returned (.tuple #[]) ∧ LiftTo w3 w4 g vA vP vO1 l2)
  (hK : ∀ w3, LSt w1 w3 g vA vP vO l2 pb us t → K (.tuple #[]) w3) : Jmp Tryz.prog w2 Gs.nil fid args S K := by
 obtain ⟨vO1, k1, k2⟩ := hs.step
 exact jmp_con (fun u w3 => u = .tuple #[] ∧ LSt w1 w3 g vA vP vO l2 pb us t) hx hok (fun r w3 hR => (h w3 vO1 (k1.later hR.toBelow)).mono fun e w4 ⟨he, hq⟩ => ⟨_, he, rfl, k2 _ _ (hq.early hR.toBelow)⟩) fun u w3 ⟨hu, hj⟩ => hu ▸ hK w3 hj
set_option maxRecDepth 100000 in
set_option maxHeartbeats 4000000 in
theorem instr_walk (i : QI) (at_ : Int) (h : LiftAt w g vA vP vO l) (hi : i.ok) (hlen : l.length ≤ 1000000) :
  Calls Tryz.prog 73 #[pV g, qiV i, .int .u32 at_] w fun e w' => e = .returned (.bool (qTail i at_).isNone) ∧ LiftTo w w' g vA vP vO (l ++ (qBody i at_ ++ (qTail i at_).getD [])) := by
 refine calls_satq [pV g, qiV i, .int .u32 at_] Tryz.func73 Tryz.ntmps73 rfl (by simp) ?_
 refine satq_seqN ?_
 conv => whnf
 refine satq_restart fun r w1 hR => ?_
 obtain ⟨pi, us, f1, f2, f3⟩ := hR.own 0 _ rfl
 obtain rfl := denL_vals_inv (us := qiL i) f3
 have hB1 := hR.toBelow
 have hs := box_ok h hB1 f2 (fresh_of hR f1)
 have h1 := h.later hB1
 refine ⟨slotFr [(0, pV g), (2, .int .u32 at_), (4, pV pi), (6, .bool false)], fun a' hf => slots_den ⟨slot_val hf rfl, slot_val hf rfl, slot_ref hf 4 rfl f1, slot_val hf rfl, trivial⟩, ?_⟩
 clear hR f3
 refine satq_seqN ?_
 conv => whnf
 refine ⟨_, block_cells hs.box (off := 0 + 1) (x := intV i.d) rfl, ?_⟩
 conv => whnf
 refine satq_midW (α := Unit) (fun _ => [(0, one (pV g)), (2, one (.int .u32 at_)), (4, one (pV pi)), (6, one (.bool false)), (7, one (intV (qTarget i.d)))]) (fun _ w2 => LSt w1 w2 g vA vP vO l pi (qiL i) qiT) ?_ fun _ w2 hs2 => ?_
 ·refine satq_seqN ?_
  conv => whnf
  refine satq_cond rfl (fun hc => ?_) (fun hc => ?_)
  ·have ho : i.d = 0 := by simpa using hc
   refine satq_vcN ?_
   conv => whnf
   have ht : qTarget i.d = 20 := by unfold qTarget; rw [if_pos ho]
   rw [ht]
   exact atq_midW () (aI rfl (aI rfl (aI rfl (aI rfl (aI rfl trivial))))) fun r w3 hR => hs.later hR.toBelow
  ·have ho : ¬ i.d = 0 := by simpa using hc
   have ht : qTarget i.d = i.d := by unfold qTarget; rw [if_neg ho]
   rw [ht]
   exact satq_skip (atq_midW () (aI rfl (aI rfl (aI rfl (aI rfl (aI rfl trivial))))) fun r w3 hR => hs.later hR.toBelow)
 refine satq_midW (α := Unit) (fun _ => [(0, one (pV g)), (2, one (.int .u32 at_)), (4, one (pV pi)), (6, one (.bool false)), (7, one (intV (qTarget i.d)))]) (fun _ w3 => LSt w1 w3 g vA vP vO l pi (qiL i) qiT ∧ qCode i.op = 0) ?_ fun _ w3 hs3 => ?_
 ·refine satq_midW (α := Unit) (fun _ => [(0, one (pV g)), (2, one (.int .u32 at_)), (4, one (pV pi)), (6, one (.bool false)), (7, one (intV (qTarget i.d))), (8, one (intV ((plainM i.op).getD 0))), (9, one (.bool (plainM i.op).isSome))]) (fun _ w3 => LSt w1 w3 g vA vP vO l pi (qiL i) qiT) ?_ fun _ w3 hs3 => ?_
  ·refine satq_vcN ?_
   conv => whnf
   refine sat_anyG (.q 1 (.q 2 (.alt 0 (.alt 3 (.alt 4 (.alt 5 (.alt 6 (.alt 7 (.alt 8 .done .no) .no) (.alt 7 (.alt 6 (.alt 8 .done .no) .no) .no)) (.alt 6 (.alt 5 (.alt 7 (.alt 8 .done .no) .no) .no) .no)) .no) .no) .no))) mixed (by kernel_rfl) (by kernel_rfl) ?_
   conv => whnf
   refine ⟨_, block_cells hs2.box (off := 0 + 0) (x := intV i.op) rfl, ?_⟩
   conv => whnf
   refine ⟨?_, trivial⟩
   conv => whnf
   refine call_newMap (R := i64R) (cd := i64D) (n := 19) (m := plainM) rfl (by kernel_rfl) (fun r w' hR => plain_walk w') ?_
   conv => whnf
   refine ⟨?_, trivial⟩
   conv => whnf
   refine q_look_i64 rfl 0 i.op rfl rfl rfl (wf_mid (by have := hi.op; unfold mid; omega)) ?_
   conv => whnf
   refine ⟨?_, trivial⟩
   conv => whnf
   have hend : ∀ {S : List Ow} r w3, Rel w2 Gs.nil S r w3 → LSt w1 w3 g vA vP vO l pi (qiL i) qiT := fun r w3 hR => hs2.later hR.toBelow
   refine ⟨?_, ?_, trivial⟩
   ·conv => whnf
    refine ⟨?_, ?_, trivial⟩
    ·conv => whnf
     refine ⟨?_, trivial⟩
     conv => whnf
     refine ⟨?_, trivial⟩
     conv => whnf
     exact atq_midW () (aI rfl (aI rfl (aI rfl (aI rfl (aI rfl (aI rfl (aI rfl trivial))))))) hend
    ·conv => whnf
     refine ⟨?_, trivial⟩
     conv => whnf
     refine ⟨?_, trivial⟩
     conv => whnf
     exact atq_midW () (aI rfl (aI rfl (aI rfl (aI rfl (aI rfl (aI rfl (aI rfl trivial))))))) hend
   ·conv => whnf
    refine ⟨?_, trivial⟩
    conv => whnf
    refine ⟨?_, trivial⟩
    conv => whnf
    refine ⟨?_, trivial⟩
    conv => whnf
    exact atq_midW () (aI rfl (aI rfl (aI rfl (aI rfl (aI rfl (aI rfl (aI rfl trivial))))))) hend
  refine satq_seqN ?_
  conv => whnf
  refine satq_cond rfl (fun hc => ?_) (fun hc => ?_)
  ·have hq : ¬ qCode i.op = 0 := fun hq => by rw [plainM, if_pos hq] at hc; exact absurd hc (by simp)
   have hm : (plainM i.op).getD 0 = qCode i.op := by unfold plainM; rw [if_neg hq]; rfl
   rw [hm]
   refine satq_in (satq_jump 3 rfl rfl rfl ?_)
   conv => whnf
   refine ⟨_, block_all hs3.box, rfl, ?_⟩
   conv => whnf
   refine lift_jmp (l ++ qArith i) hs3 (by rfl) (by kernel_rfl) (fun w3 vO1 k => arith_walk k i (by omega)) fun w3 hs3 => ?_
   conv => whnf
   refine atq_on ?_
   refine satq_seqN ?_
   conv => whnf
   refine satq_vcN ?_
   conv => whnf
   refine atq_ret_midW (atq_ret ?_)
   conv => whnf
   have hb : qBody i at_ = qArith i := by unfold qBody; rw [if_pos hq]
   have ht : qTail i at_ = none := by unfold qTail; rw [if_pos hq]
   rw [hb, ht]
   exact fin_val rfl fun w3 hB => ⟨rfl, by simpa using (hs3.lift.early hB1).later hB⟩
  ·have hq : qCode i.op = 0 := by
    rcases Classical.em (qCode i.op = 0) with hq | hq
    ·exact hq
    ·rw [plainM, if_neg hq] at hc; exact absurd hc (by simp)
   exact satq_skip (atq_midW () (aI rfl (aI rfl (aI rfl (aI rfl (aI rfl trivial))))) fun r w3 hR => ⟨hs3.later hR.toBelow, hq⟩)
 obtain ⟨hs3, hq⟩ := hs3
 refine satq_midW (α := Unit) (fun _ => [(0, one (pV g)), (2, one (.int .u32 at_)), (4, one (pV pi)), (6, one (.bool false))]) (fun _ w4 => LSt w1 w4 g vA vP vO (l ++ qBody i at_) pi (qiL i) qiT ∧ qTail i at_ = none) ?_ fun _ w4 hs4 => ?_
 ·refine satq_seqN ?_
  conv => whnf
  refine ⟨_, block_cells hs3.box (off := 0 + 0) (x := intV i.op) rfl, ?_⟩
  conv => whnf
  refine satq_block ?_
  refine satq_seqN ?_
  conv => whnf
  refine satq_cond rfl (fun hc => ?_) (fun hc => ?_)
  ·have ho : i.op = 41 := by simpa using hc
   refine satq_jump 6 rfl rfl rfl ?_
   conv => whnf
   refine ⟨_, block_cells hs3.box (off := 0 + 1) (x := intV i.d) rfl, ?_⟩
   conv => whnf
   refine ⟨_, block_cells hs3.box (off := 0 + 4) (x := .int .u32 i.imm) rfl, ?_⟩
   conv => whnf
   refine ⟨by omega, cut32 (i.imm * 1024), by rw [wr32]; rfl, ?_⟩
   conv => whnf
   refine lift_jmp (l ++ qSet i.d (cut32 (i.imm * 1024))) hs3 (by rfl) (by kernel_rfl) (fun w3 vO1 k => set_walkL k i.d _ (by omega)) fun w5 hs5 => ?_
   conv => whnf
   have hb : qBody i at_ = qSet i.d (cut32 (i.imm * 1024)) := by unfold qBody; rw [ho]; rfl
   have ht : qTail i at_ = none := by unfold qTail; rw [ho]; rfl
   rw [hb, ht]
   exact atq_block (atq_midW () (aI rfl (aI rfl (aI rfl (aI rfl trivial)))) fun r w5 hR => ⟨hs5.later hR.toBelow, rfl⟩)
  have n41 : ¬ i.op = 41 := by simpa using hc
  clear hc
  refine satq_seqN ?_
  conv => whnf
  refine satq_cond rfl (fun hc => ?_) (fun hc => ?_)
  ·have ho : i.op = 23 := by simpa using hc
   refine satq_jump 8 rfl rfl rfl ?_
   conv => whnf
   refine ⟨_, block_cells hs3.box (off := 0 + 2) (x := intV i.a) rfl, ?_⟩
   conv => whnf
   refine ⟨_, block_cells hs3.box (off := 0 + 4) (x := .int .u32 i.imm) rfl, ?_⟩
   conv => whnf
   obtain ⟨vO1, k1, k2⟩ := hs3.step
   refine jmp_add k1 [⟨16, qTarget i.d, i.a, 0, i.imm⟩] 0 1 rfl rfl (by omega) fun w5 hl => ?_
   have hs5 := k2 _ _ hl
   conv => whnf
   have hb : qBody i at_ = [⟨16, qTarget i.d, i.a, 0, i.imm⟩] := by unfold qBody; rw [ho]; rfl
   have ht : qTail i at_ = none := by unfold qTail; rw [ho]; rfl
   rw [hb, ht]
   exact atq_block (atq_midW () (aI rfl (aI rfl (aI rfl (aI rfl trivial)))) fun r w5 hR => ⟨hs5.later hR.toBelow, rfl⟩)
  have n23 : ¬ i.op = 23 := by simpa using hc
  clear hc
  refine satq_seqN ?_
  conv => whnf
  refine satq_cond rfl (fun hc => ?_) (fun hc => ?_)
  ·have ho : i.op = 24 := by simpa using hc
   refine satq_jump 8 rfl rfl rfl ?_
   conv => whnf
   refine ⟨_, block_cells hs3.box (off := 0 + 2) (x := intV i.a) rfl, ?_⟩
   conv => whnf
   refine ⟨_, block_cells hs3.box (off := 0 + 4) (x := .int .u32 i.imm) rfl, ?_⟩
   conv => whnf
   obtain ⟨vO1, k1, k2⟩ := hs3.step
   refine jmp_add k1 [⟨17, qTarget i.d, i.a, 0, i.imm⟩] 0 1 rfl rfl (by omega) fun w5 hl => ?_
   have hs5 := k2 _ _ hl
   conv => whnf
   have hb : qBody i at_ = [⟨17, qTarget i.d, i.a, 0, i.imm⟩] := by unfold qBody; rw [ho]; rfl
   have ht : qTail i at_ = none := by unfold qTail; rw [ho]; rfl
   rw [hb, ht]
   exact atq_block (atq_midW () (aI rfl (aI rfl (aI rfl (aI rfl trivial)))) fun r w5 hR => ⟨hs5.later hR.toBelow, rfl⟩)
  have n24 : ¬ i.op = 24 := by simpa using hc
  clear hc
  refine satq_seqN ?_
  conv => whnf
  refine satq_cond rfl (fun hc => ?_) (fun hc => ?_)
  ·have ho : i.op = 25 := by simpa using hc
   refine satq_jump 9 rfl rfl rfl ?_
   conv => whnf
   refine ⟨_, block_cells hs3.box (off := 0 + 2) (x := intV i.a) rfl, ?_⟩
   conv => whnf
   refine ⟨_, block_cells hs3.box (off := 0 + 1) (x := intV i.d) rfl, ?_⟩
   conv => whnf
   refine ⟨_, block_cells hs3.box (off := 0 + 4) (x := .int .u32 i.imm) rfl, ?_⟩
   conv => whnf
   obtain ⟨vO1, k1, k2⟩ := hs3.step
   refine jmp_add k1 [⟨18, 0, i.a, i.d, i.imm⟩] 0 1 rfl rfl (by omega) fun w5 hl => ?_
   have hs5 := k2 _ _ hl
   conv => whnf
   have hb : qBody i at_ = [⟨18, 0, i.a, i.d, i.imm⟩] := by unfold qBody; rw [ho]; rfl
   have ht : qTail i at_ = none := by unfold qTail; rw [ho]; rfl
   rw [hb, ht]
   exact atq_block (atq_midW () (aI rfl (aI rfl (aI rfl (aI rfl trivial)))) fun r w5 hR => ⟨hs5.later hR.toBelow, rfl⟩)
  have n25 : ¬ i.op = 25 := by simpa using hc
  clear hc
  refine satq_seqN ?_
  conv => whnf
  refine satq_cond rfl (fun hc => ?_) (fun hc => ?_)
  ·have ho : i.op = 26 := by simpa using hc
   refine satq_jump 9 rfl rfl rfl ?_
   conv => whnf
   refine ⟨_, block_cells hs3.box (off := 0 + 2) (x := intV i.a) rfl, ?_⟩
   conv => whnf
   refine ⟨_, block_cells hs3.box (off := 0 + 1) (x := intV i.d) rfl, ?_⟩
   conv => whnf
   refine ⟨_, block_cells hs3.box (off := 0 + 4) (x := .int .u32 i.imm) rfl, ?_⟩
   conv => whnf
   obtain ⟨vO1, k1, k2⟩ := hs3.step
   refine jmp_add k1 [⟨19, 0, i.a, i.d, i.imm⟩] 0 1 rfl rfl (by omega) fun w5 hl => ?_
   have hs5 := k2 _ _ hl
   conv => whnf
   have hb : qBody i at_ = [⟨19, 0, i.a, i.d, i.imm⟩] := by unfold qBody; rw [ho]; rfl
   have ht : qTail i at_ = none := by unfold qTail; rw [ho]; rfl
   rw [hb, ht]
   exact atq_block (atq_midW () (aI rfl (aI rfl (aI rfl (aI rfl trivial)))) fun r w5 hR => ⟨hs5.later hR.toBelow, rfl⟩)
  have n26 : ¬ i.op = 26 := by simpa using hc
  clear hc
  refine satq_seqN ?_
  conv => whnf
  refine satq_cond rfl (fun hc => ?_) (fun hc => ?_)
  ·have ho : i.op = 27 := by simpa using hc
   refine satq_in (satq_jump 10 rfl rfl rfl ?_)
   conv => whnf
   refine ⟨_, block_cells hs3.box (off := 0 + 4) (x := .int .u32 i.imm) rfl, ?_⟩
   conv => whnf
   refine ⟨_, block_cells hs3.box (off := 0 + 2) (x := intV i.a) rfl, ?_⟩
   conv => whnf
   obtain ⟨vO1, k1, k2⟩ := hs3.step
   refine jmp_add k1 [⟨1, 21, 0, 0, i.imm⟩, ⟨3, 20, i.a, 21, 0⟩, ⟨1, 21, 0, 0, 4294967292⟩, ⟨5, 20, 20, 21, 0⟩] 0 4 rfl rfl (by omega) fun w5 hl => ?_
   have hs5 := k2 _ _ hl
   conv => whnf
   refine atq_on ?_
   refine satq_in (satq_jump 5 rfl rfl rfl ?_)
   conv => whnf
   refine ⟨_, block_cells hs5.box (off := 0 + 1) (x := intV i.d) rfl, ?_⟩
   conv => whnf
   refine ⟨cut32 (at_ + 4), by rw [wr32]; rfl, ?_⟩
   conv => whnf
   refine lift_jmp (l ++ [⟨1, 21, 0, 0, i.imm⟩, ⟨3, 20, i.a, 21, 0⟩, ⟨1, 21, 0, 0, 4294967292⟩, ⟨5, 20, 20, 21, 0⟩] ++ qSet i.d (cut32 (at_ + 4))) hs5 (by rfl) (by kernel_rfl) (fun w3 vO1 k => set_walkL k i.d _ (by rw [List.length_append]; simp; omega)) fun w6 hs6 => ?_
   conv => whnf
   refine atq_on ?_
   have hlq : (qSet i.d (cut32 (at_ + 4))).length ≤ 1 := by unfold qSet; split <;> simp
   refine satq_in (satq_jump 3 rfl rfl rfl ?_)
   conv => whnf
   obtain ⟨vO2, k3, k4⟩ := hs6.step
   refine jmp_add k3 [⟨25, 0, 20, 0, 0⟩] 0 1 rfl rfl (by rw [List.length_append, List.length_append]; simp; omega) fun w7 hl => ?_
   have hs7 := k4 _ _ hl
   conv => whnf
   refine atq_on ?_
   refine satq_seqN ?_
   conv => whnf
   refine satq_vcN ?_
   conv => whnf
   refine atq_up (atq_ret ?_) fun a w hq => hq
   conv => whnf
   have hb : qBody i at_ = [⟨1, 21, 0, 0, i.imm⟩, ⟨3, 20, i.a, 21, 0⟩, ⟨1, 21, 0, 0, 4294967292⟩, ⟨5, 20, 20, 21, 0⟩] ++ qSet i.d (cut32 (at_ + 4)) := by unfold qBody; rw [ho]; rfl
   have ht : qTail i at_ = some [⟨25, 0, 20, 0, 0⟩] := by unfold qTail; rw [ho]; rfl
   rw [hb, ht]
   exact fin_val rfl fun w5 hB => ⟨rfl, by simpa using (hs7.lift.early hB1).later hB⟩
  have n27 : ¬ i.op = 27 := by simpa using hc
  clear hc
  refine satq_seqN ?_
  conv => whnf
  refine satq_cond rfl (fun hc => ?_) (fun hc => ?_)
  ·have ho : i.op = 40 := by simpa using hc
   refine satq_in (satq_jump 5 rfl rfl rfl ?_)
   conv => whnf
   refine ⟨_, block_cells hs3.box (off := 0 + 1) (x := intV i.d) rfl, ?_⟩
   conv => whnf
   refine ⟨cut32 (at_ + 4), by rw [wr32]; rfl, ?_⟩
   conv => whnf
   refine lift_jmp (l ++ qSet i.d (cut32 (at_ + 4))) hs3 (by rfl) (by kernel_rfl) (fun w3 vO1 k => set_walkL k i.d _ (by omega)) fun w6 hs6 => ?_
   conv => whnf
   refine atq_on ?_
   have hlq : (qSet i.d (cut32 (at_ + 4))).length ≤ 1 := by unfold qSet; split <;> simp
   refine satq_in (satq_jump 8 rfl rfl rfl ?_)
   conv => whnf
   refine ⟨_, block_cells hs6.box (off := 0 + 4) (x := .int .u32 i.imm) rfl, ?_⟩
   conv => whnf
   refine ⟨_, wr32 _, ?_⟩
   conv => whnf
   refine ⟨cut32 (at_ + 4 * i.imm), by rw [wr32]; unfold cut32; omega, ?_⟩
   conv => whnf
   obtain ⟨vO2, k3, k4⟩ := hs6.step
   refine jmp_add k3 [⟨24, 0, 0, 0, cut32 (at_ + 4 * i.imm)⟩] 0 1 rfl rfl (by rw [List.length_append]; omega) fun w7 hl => ?_
   have hs7 := k4 _ _ hl
   conv => whnf
   refine atq_on ?_
   refine satq_seqN ?_
   conv => whnf
   refine satq_vcN ?_
   conv => whnf
   refine atq_up (atq_ret ?_) fun a w hq => hq
   conv => whnf
   have hb : qBody i at_ = qSet i.d (cut32 (at_ + 4)) := by unfold qBody; rw [ho]; rfl
   have ht : qTail i at_ = some [⟨24, 0, 0, 0, cut32 (at_ + 4 * i.imm)⟩] := by unfold qTail; rw [ho]; rfl
   rw [hb, ht]
   exact fin_val rfl fun w5 hB => ⟨rfl, by simpa using (hs7.lift.early hB1).later hB⟩
  have n40 : ¬ i.op = 40 := by simpa using hc
  clear hc
  refine satq_midW (α := Bool) (fun y => [(0, one (pV g)), (2, one (.int .u32 at_)), (4, one (pV pi)), (6, one (.bool false)), (127, one (.bool y))]) (fun y w5 => LSt w1 w5 g vA vP vO l pi (qiL i) qiT ∧ y = decide (32 ≤ i.op ∧ i.op ≤ 37)) ?_ fun y w5 hs5 => ?_
  ·refine satq_seqN ?_
   conv => whnf
   refine satq_cond rfl (fun hc => ?_) (fun hc => ?_)
   ·have ho : i.op = 32 := by simpa using hc
    exact satq_skip (atq_midW _ (aI rfl (aI rfl (aI rfl (aI rfl (aI rfl trivial))))) fun r w5 hR => ⟨hs3.later hR.toBelow, by rw [ho]; rfl⟩)
   have n32 : ¬ i.op = 32 := by simpa using hc
   clear hc
   refine satq_seqN ?_
   conv => whnf
   refine satq_cond rfl (fun hc => ?_) (fun hc => ?_)
   ·have ho : i.op = 33 := by simpa using hc
    exact satq_skip (atq_midW _ (aI rfl (aI rfl (aI rfl (aI rfl (aI rfl trivial))))) fun r w5 hR => ⟨hs3.later hR.toBelow, by rw [ho]; rfl⟩)
   have n33 : ¬ i.op = 33 := by simpa using hc
   clear hc
   refine satq_seqN ?_
   conv => whnf
   refine satq_cond rfl (fun hc => ?_) (fun hc => ?_)
   ·have ho : i.op = 34 := by simpa using hc
    exact satq_skip (atq_midW _ (aI rfl (aI rfl (aI rfl (aI rfl (aI rfl trivial))))) fun r w5 hR => ⟨hs3.later hR.toBelow, by rw [ho]; rfl⟩)
   have n34 : ¬ i.op = 34 := by simpa using hc
   clear hc
   refine satq_seqN ?_
   conv => whnf
   refine satq_cond rfl (fun hc => ?_) (fun hc => ?_)
   ·have ho : i.op = 35 := by simpa using hc
    exact satq_skip (atq_midW _ (aI rfl (aI rfl (aI rfl (aI rfl (aI rfl trivial))))) fun r w5 hR => ⟨hs3.later hR.toBelow, by rw [ho]; rfl⟩)
   have n35 : ¬ i.op = 35 := by simpa using hc
   clear hc
   refine satq_seqN ?_
   conv => whnf
   refine satq_cond rfl (fun hc => ?_) (fun hc => ?_)
   ·have ho : i.op = 36 := by simpa using hc
    exact satq_skip (atq_midW _ (aI rfl (aI rfl (aI rfl (aI rfl (aI rfl trivial))))) fun r w5 hR => ⟨hs3.later hR.toBelow, by rw [ho]; rfl⟩)
   have n36 : ¬ i.op = 36 := by simpa using hc
   clear hc
   refine satq_vcN ?_
   conv => whnf
   exact atq_midW _ (aI rfl (aI rfl (aI rfl (aI rfl (aI rfl trivial))))) fun r w5 hR => ⟨hs3.later hR.toBelow, by rw [Bool.eq_iff_iff]; simp; omega⟩
  obtain ⟨hs5, hy⟩ := hs5
  refine satq_cond rfl (fun hc => ?_) (fun hc => ?_)
  ·have ho : 32 ≤ i.op ∧ i.op ≤ 37 := by rw [hy] at hc; simpa using hc
   refine satq_in (satq_jump 3 rfl rfl rfl ?_)
   conv => whnf
   refine ⟨_, block_all hs5.box, rfl, ?_⟩
   conv => whnf
   refine lift_jmp (l ++ branchL i at_) hs5 (by rfl) (by kernel_rfl) (fun w3 vO1 k => branch_walk i at_ k ho (by omega)) fun w6 hs6 => ?_
   conv => whnf
   refine atq_on ?_
   refine satq_seqN ?_
   conv => whnf
   refine satq_vcN ?_
   conv => whnf
   refine atq_up (atq_ret ?_) fun a w hq => hq
   conv => whnf
   have hb : qBody i at_ = qTest i := by
    unfold qBody
    rw [if_neg (by rw [hq]; simp), if_neg (by omega), if_neg (by omega), if_neg (by omega), if_neg (by omega), if_neg (by omega), if_neg (by omega), if_neg (by omega), if_pos ho]
   have ht : qTail i at_ = some [⟨23, 0, 20, 0, cut32 (at_ + 4 * i.imm)⟩, ⟨24, 0, 0, 0, cut32 (at_ + 4)⟩] := by
    unfold qTail
    rw [if_neg (by rw [hq]; simp), if_neg (by omega), if_neg (by omega), if_neg (by omega), if_pos ho]
   rw [hb, ht]
   exact fin_val rfl fun w5 hB => ⟨rfl, by simpa [branchL] using (hs6.lift.early hB1).later hB⟩
  ·have ho : ¬ (32 ≤ i.op ∧ i.op ≤ 37) := by rw [hy] at hc; simpa using hc
   refine satq_in (satq_jump 3 rfl rfl rfl ?_)
   conv => whnf
   obtain ⟨vO1, k1, k2⟩ := hs5.step
   refine jmp_add k1 [⟨22, 0, 0, 0, 0⟩] 0 1 rfl rfl (by omega) fun w6 hl => ?_
   have hs6 := k2 _ _ hl
   conv => whnf
   refine atq_on ?_
   refine satq_seqN ?_
   conv => whnf
   refine satq_vcN ?_
   conv => whnf
   refine atq_up (atq_ret ?_) fun a w hq => hq
   conv => whnf
   have hb : qBody i at_ = [] := by
    unfold qBody
    rw [if_neg (by rw [hq]; simp), if_neg (by omega), if_neg (by omega), if_neg (by omega), if_neg (by omega), if_neg (by omega), if_neg (by omega), if_neg (by omega), if_neg ho]
   have ht : qTail i at_ = some [⟨22, 0, 0, 0, 0⟩] := by
    unfold qTail
    rw [if_neg (by rw [hq]; simp), if_neg (by omega), if_neg (by omega), if_neg (by omega), if_neg ho]
   rw [hb, ht]
   exact fin_val rfl fun w5 hB => ⟨rfl, by simpa using (hs6.lift.early hB1).later hB⟩
 obtain ⟨hs4, ht⟩ := hs4
 refine satq_seqN ?_
 conv => whnf
 refine satq_vcN ?_
 conv => whnf
 refine atq_ret ?_
 conv => whnf
 rw [ht]
 exact fin_val rfl fun w5 hB => ⟨rfl, by simpa using (hs4.lift.early hB1).later hB⟩
end
end Go.Proofs.YtnhdcclpjildjaaGreat
namespace Go.Proofs.YtnhdcclpjildjaaGreat
open Go.RowKit

def killK (P : Program) (w0 : World) (G : Gs) (o : Oper) (f : Fr) (S : List Ow) (K : AV → Fr → List Ow → Prop) : Prop :=
 match o.op with
 | .call ⟨.value fn, args, _⟩ => (match f.ev fn with
  | .p (.c (.clo (.func fid) [])) => evL f args.toList fun vs => KillS P w0 G fid vs f S K
  | _ => False)
 | _ => False
section
variable {P : Program} {w0 : World} {G : Gs} {N : Nd} {c d : Code} {f : Fr} {S : List Ow} {Q : Exit → Act → World → Prop}
theorem killK_sound {o : Oper} {K : AV → Fr → List Ow → Prop} (h : killK P w0 G o f S K) {r : Env} {w : World} (hR : Rel w0 G S r w) {a : Act} (hf : FDen r f a) {next : Act → World → Prop} (hK : ∀ u x f2 S2 r2 w', Rel w0 G S2 r2 w' → FDen r2 f2 a → x.den r2 u → K x f2 S2 → next (a.put o.dst u) w') : Oper.se P o a w next := by
 unfold killK at h
 split at h
 ·rename_i fn args tys hop
  have hfn := hf.ev fn
  split at h
  ·rename_i fid he
   rw [he] at hfn
   obtain ⟨us, hu, hcap⟩ := den_clo hfn
   simp only [denL] at hcap
   subst hcap
   rw [evL_iff] at h
   obtain ⟨hok, hc⟩ := h
   have hrun : (execOp a.eval o).run P w = .ok (.enter fid (args.map a.eval)) w := by
    simp [execOp, hop, resolve, Deferred.ofValue, hu, invoke, run_callFunc hok]
   refine wp_of_enter hrun ?_
   have := hc r w (args.toList.map a.eval) hR (avdenL_ev hf _)
   rw [show (args.toList.map a.eval).toArray = args.map a.eval by apply Array.ext'; simp] at this
   exact Calls.mono this fun e w' ⟨u, x, f2, S2, r2, he, h1, h2, h3, hk⟩ => ⟨u, he, hK u x f2 S2 r2 w' h1 (h2 a hf) h3 hk⟩
  ·exact h.elim
 ·exact h.elim
theorem satq_kill {id : Nat} {ops : Array Oper} (k : Nat) {o : Oper} (hk : ops.toList.drop k = o :: ops.toList.drop (k + 1)) (hg : o.guard = none) (hdst : dstOk N.n o.dst = true)
  (h : guardedN P w0 G N ops (ops.toList.take k) f S fun f1 S1 => killK P w0 G o f1 S1 fun x f2 S2 => guardedN P w0 G N ops (ops.toList.drop (k + 1)) (f2.put o.dst x) S2 fun f3 S3 => AtQ w0 G N .normal f3 S3 Q) : SatQ P w0 G N (.region id ops false) f S Q :=
 ⟨fun a w hgd => wpIn_region_list (wpListIn_split none 10 k (guardedN_sound (Q := fun a w => ∃ f1 S1, (killK P w0 G o f1 S1 fun x f2 S2 => guardedN P w0 G N ops (ops.toList.drop (k + 1)) (f2.put o.dst x) S2 fun f3 S3 => AtQ w0 G N .normal f3 S3 Q) ∧ Good w0 G N f1 S1 a w) _ f S _ h (fun f' S' a' w' hk' hg' => ⟨f', S', hk', hg'⟩) a w hgd) (by
  rintro a w ⟨f1, S1, hj, r, hR, hf, hN, hd⟩
  rw [hk]
  unfold wpListIn
  rw [if_pos (wanted_none hg _)]
  refine se_wpIn none 10 (next := fun a w => wpListIn (fenceR none) 10 P ops Q (ops.toList.drop (k + 1)) a w) (killK_sound hj hR hf fun u x f2 S2 r2 w' h1 h2 h3 hq => ?_) (fun a w h => h)
  exact seL_wpIn none 10 (guardedN_sound _ _ _ _ hq (fun f' S' a' w' hk' hg' => hk'.out a' w' hg') _ _ ⟨r2, h1, h2.put h3 (by rw [hN]; exact hdst), (put_size a _ _).trans hN, (put_defers a _ _).trans hd⟩)))⟩
end
theorem kill_row {P : Program} {w0 : World} {G : Gs} {f : Fr} {S : List Ow} {K : AV → Fr → List Ow → Prop} {fid : FuncId} {e : TypeId} {size n n' : Nat} {xs xs' : List Value} (i : Nat) (hi : S[i]? = some (.row e size n xs)) (hG : G.fix.length ≤ i) (hok : fnOk P fid = true)
  (h : ∀ w v, w.ownsRow 0 e size v n xs → Calls P fid #[v] w fun en w' => ∃ v', en = .returned v' ∧ w'.ownsRow 0 e size v' n' xs' ∧ w.grownBy w' v.ownBlock ∧ v'.ownBlock = v.ownBlock)
  (hK : forceL ((killS i S).set i (.row e size n' xs')) fun S2 => fillF i f fun f2 => K (.p (.c (.row i))) f2 S2) : KillS P w0 G fid [.p (.c (.row i))] f S K := by
 rw [forceL_iff, fillF_iff] at hK
 refine ⟨hok, fun r w us hR hd => ?_⟩
 obtain ⟨u1, l1, rfl, d1, d2⟩ := hd
 obtain rfl : l1 = [] := d2
 obtain ⟨v, e1, e2, e3⟩ := hR.own i _ hi
 have d1 := den_row d1
 rw [e1] at d1; injection d1 with d1; subst d1
 refine (h w v e3).mono fun en w' ⟨v', he, ho, hg, hb⟩ => ?_
 obtain ⟨k1, k2⟩ := hR.append hi hG e1 ho hg (.inl hb)
 exact ⟨v', _, _, _, _, he, k1, fun a hf => hf.kill k2, by simp [AV.den, Pc.den, CV.den, Env.set], hK⟩
theorem ent_field {w0 : World} {G : Gs} {N : Nd} {f : Fr} {S : List Ow} (i k : Nat) {t : TypeId} {l : List CV} (e : TypeId) (size : Nat) (hi : S[i]? = some (.cells t l)) (hk : l[k]? = some (.v (.slice none 0 0))) : Ent w0 G N f S f (S.set i (.cells t (l.set k (.row S.length))) ++ [.row e size 0 []]) := ⟨fun a w ⟨r, hR, hf, hN, hd⟩ => by
 have hle := hR.le_new none (some (.slice none 0 0))
 have hil : i < S.length := by
  rcases Nat.lt_or_ge i S.length with h1 | h1
  ·exact h1
  ·rw [List.getElem?_eq_none h1] at hi; cases hi
 have hR2 := hR.snoc (Below.refl _ _) (b := none) (v := some (.slice none 0 0)) (o := .row e size 0 []) nofun ⟨.slice none 0 0, by simp [Env.set], by simp [Env.set, Value.ownBlock], by simp, .inl ⟨rfl, rfl⟩⟩
 obtain ⟨b, us, e1, e2, e3⟩ := hR2.own i (.cells t l) (by rw [List.getElem?_append_left hil]; exact hi)
 obtain ⟨u, h1, h2⟩ := denL_at e3 hk
 have h2 : u = .slice none 0 0 := by simpa only [CV.den] using h2
 subst h2
 have h3 := denL_set (c := .row S.length) (u := .slice none 0 0) k e3 (by simp [CV.den, Env.set])
 have h4 : us.set k (.slice none 0 0) = us := by
  refine List.ext_getElem? fun j => ?_
  rw [List.getElem?_set]
  split
  ·rename_i hj; subst hj
   split
   ·exact h1.symm
   ·rename_i hlt; rw [List.getElem?_eq_none (by omega)] at h1; cases h1
  ·rfl
 rw [h4] at h3
 have hR3 := rel_setSame hR2 (i := i) (o := .cells t (l.set k (.row S.length))) ⟨b, us, e1, e2, h3⟩
 rw [List.set_append_left _ _ hil] at hR3
 exact ⟨_, hR3, hf.mono hle, hN, hd⟩⟩
end Go.Proofs.YtnhdcclpjildjaaGreat
namespace Go.Proofs.YtnhdcclpjildjaaGreat
open Go.RowKit

abbrev liT : TypeId := 138
abbrev opT : TypeId := 45
section
variable {w0 : World} {G : Gs} {S : List Ow} {r : Env} {w : World}
theorem lift_at (h : Rel w0 G S r w) {c o : Nat} {x y : CV} {l : List BOp} (h0 : S[c]? = some (.cells liT [x, y, .row o])) (ho : S[o]? = some (.row opT 5 l.length (l.flatMap opC))) (hco : c ≠ o) : ∃ g vA vP vO, r.blk c = some g ∧ r.val o = some vO ∧ x.den r vA ∧ y.den r vP ∧ vO.ownBlock = r.blk o ∧ LiftAt w g vA vP vO l := by
 obtain ⟨g, us, e1, e2, e3⟩ := h.own c _ h0
 simp only [denL] at e3
 obtain ⟨u1, l1, rfl, d1, u2, l2, rfl, d2, u3, l3, rfl, d3, rfl⟩ := e3
 obtain ⟨vO, k1, k2, k3⟩ := h.own o _ ho
 have d3 : r.val o = some u3 := d3
 rw [d3] at k1; injection k1 with k1; subst k1
 refine ⟨g, u1, u2, u3, e1, d3, d1, d2, k2, e2, k3, fun e => ?_⟩
 rw [k2] at e
 exact hco (h.inj c o g e1 e)
theorem rel_lifted (h : Rel w0 G S r w) {c o g : Nat} {x y : CV} {n : Nat} {xs : List Value} {l' : List BOp} {w' : World} {vA vP vO : Value} (h0 : S[c]? = some (.cells liT [x, y, .row o])) (hS : S[o]? = some (.row opT 5 n xs)) (hco : c ≠ o) (hG : G.fix.length ≤ o) (hx : x.names o = false) (hy : y.names o = false)
  (hg : r.blk c = some g) (hvO : r.val o = some vO) (hdA : x.den r vA) (hdP : y.den r vP) (hob : vO.ownBlock = r.blk o) (hl : LiftTo w w' g vA vP vO l') :
  ∃ r2, Rel w0 G (((killS o S).set o (.row opT 5 l'.length (l'.flatMap opC))).set c (.cells liT [x, y, .row o])) r2 w' ∧ But o r r2 := by
 obtain ⟨vO', hat, hb⟩ := hl.out
 have hbut : But o r (r.set o vO'.ownBlock (some vO')) := fun j hj => by simp [Env.set, hj]
 have hil : o < S.length := by
  rcases Nat.lt_or_ge o S.length with h1 | h1
  ·exact h1
  ·rw [List.getElem?_eq_none h1] at hS; cases hS
 have hcl : c < S.length := by
  rcases Nat.lt_or_ge c S.length with h1 | h1
  ·exact h1
  ·rw [List.getElem?_eq_none h1] at h0; cases h0
 have hnewlt : ∀ x, vO'.ownBlock = some x → x < w'.heap.size := fun x hx => (own_new hat.row x hx).2
 have hblk : ∀ j b, r.blk j = some b → j ≠ o → j ≠ c → w'.heap[b]? = w.heap[b]? := fun j b hb hj hj0 => hl.block b (h.new j b hb).1 (fun e => hj0 (h.inj j c b hb (by rw [hg, e]))) (fun e => hj (h.inj j o b hb (by rw [← hob]; exact e)))
 refine ⟨_, ⟨hl.os.trans h.os, hl.tape.trans h.tape, hl.output.trans h.output, Nat.le_trans h.size hl.size, fun k hk hkG => ?_, fun j ow hj => ?_, fun a b x ha hb' => ?_, fun j x hj => ?_, fun j hj => ?_, fun j hj => ?_, fun j g hj => ?_⟩, hbut⟩
 ·rw [hl.block k (Nat.lt_of_lt_of_le hk h.size) (fun e => hkG ((h.new c k (by rw [hg, e])).2 hk)) (fun e => hkG ((h.new o k (by rw [← hob]; exact e)).2 hk))]
  exact h.old k hk hkG
 ·by_cases hj0 : j = c
  ·subst hj0
   rw [List.getElem?_set_self (by simp [killS_length]; exact hcl)] at hj
   injection hj with hj; subst hj
   refine ⟨g, [vA, vP, vO'], by rw [← (hbut _ hco).1]; exact hg, hat.blk, ?_⟩
   simp only [denL]
   exact ⟨_, _, rfl, CV.den_but hbut x vA hx hdA, _, _, rfl, CV.den_but hbut y vP hy hdP, _, _, rfl, by simp [CV.den, Env.set], rfl⟩
  ·rw [List.getElem?_set_ne (fun e => hj0 e.symm)] at hj
   by_cases hij : o = j
   ·subst hij
    rw [List.getElem?_set_self (by rw [killS_length]; exact hil)] at hj
    injection hj with hj; subst hj
    exact ⟨vO', by simp [Env.set], by simp [Env.set], hat.row⟩
   ·rw [List.getElem?_set_ne hij, killS_get] at hj
    cases hSj : S[j]? with
    | none => rw [hSj] at hj; cases hj
    | some o' =>
     rw [hSj] at hj
     simp at hj; subst hj
     have h1 := Ow.holds_block (h.own j o' hSj) (fun x hx => hblk j x hx (Ne.symm hij) hj0) hl.size (fun x hx hno => hl.block x hx (fun e => hno c (by rw [hg, e])) (fun e => hno o (by rw [← hob]; exact e)))
     cases o' with
     | view φ m ys =>
      obtain ⟨A, cp, h2, h3, h4, h5, h6⟩ := h.own j _ hSj
      refine ⟨A, cp, by rw [← (hbut j (Ne.symm hij)).2]; exact h2, h3, h4, by rw [← (hbut j (Ne.symm hij)).1]; exact h5, fun k u hk => ?_⟩
      obtain ⟨b, off, h7, h8, h9, h10⟩ := h6 k u hk
      refine ⟨b, off, h7, Nat.lt_of_lt_of_le h8 hl.size, fun q hq => ?_, (World.cell?_of_block (w := w) (a := ⟨b, off + k, none⟩) (hl.block b h8 (fun e => h9 c (by rw [hg, e])) (fun e => h9 o (by rw [← hob]; exact e)))).trans h10⟩
      by_cases hqi : q = o
      ·subst hqi
       simp [Env.set] at hq
       rcases hb b hq with hb | hb
       ·exact h9 q (by rw [← hob]; exact hb)
       ·omega
      ·exact h9 q (by rw [(hbut q hqi).1]; exact hq)
     | cells t l => obtain ⟨b, us, h2, h3, h4⟩ := h1; exact ⟨b, us, by rw [← (hbut j (Ne.symm hij)).1]; exact h2, h3, killL_den hbut h4⟩
     | row e s n xs => obtain ⟨v, h2, h3, h4⟩ := h1; exact ⟨v, by rw [← (hbut j (Ne.symm hij)).2]; exact h2, by rw [← (hbut j (Ne.symm hij)).1]; exact h3, h4⟩
     | ext φ => obtain ⟨b, h2, h3⟩ := h1; exact ⟨b, by rw [← (hbut j (Ne.symm hij)).1]; exact h2, h3⟩
     | gone => trivial
 ·have fresh : ∀ j x, j ≠ o → r.blk j = some x → vO'.ownBlock = some x → False := fun j x hj hx he => by
   rcases hb x he with hb | hb
   ·rw [hob] at hb; exact hj (h.inj j o x hx hb)
   ·have := (h.new j x hx).1; omega
  simp only [Env.set] at ha hb'
  split at ha <;> split at hb'
  ·omega
  ·exact (fresh b x (by assumption) hb' ha).elim
  ·exact (fresh a x (by assumption) ha hb').elim
  ·exact h.inj a b x ha hb'
 ·simp only [Env.set] at hj
  split at hj
  ·refine ⟨hnewlt x hj, fun hlt => ?_⟩
   rcases hb x hj with hb | hb
   ·rw [hob] at hb; exact (h.new o x hb).2 hlt
   ·have := h.size; omega
  ·exact ⟨Nat.lt_of_lt_of_le (h.new j x hj).1 hl.size, (h.new j x hj).2⟩
 ·have hj' : S.length ≤ j := by simpa [killS_length] using hj
  simp only [Env.set]; rw [if_neg (by omega)]; exact h.outB j hj'
 ·have hj' : S.length ≤ j := by simpa [killS_length] using hj
  simp only [Env.set]; rw [if_neg (by omega)]; exact h.outV j hj'
 ·have : j < G.fix.length := by
   rcases Nat.lt_or_ge j G.fix.length with h1 | h1
   ·exact h1
   ·rw [List.getElem?_eq_none h1] at hj; cases hj
  simp only [Env.set]; rw [if_neg (by omega)]; exact h.first j g hj
end
section
variable {w0 : World} {G : Gs} {f : Fr} {S : List Ow} {K : AV → Fr → List Ow → Prop}
theorem kill_add (c o j n : Nat) {x y : CV} {l : List BOp} (ops : List BOp) (h0 : S[c]? = some (.cells liT [x, y, .row o])) (ho : S[o]? = some (.row opT 5 l.length (l.flatMap opC))) (hj : S[j]? = some (.cells opT ((ops.flatMap opC).map .v))) (hn : ops.length = n) (hjo : j ≠ c ∧ j ≠ o ∧ c ≠ o) (hG : G.fix.length ≤ o) (hx : x.names o = false) (hy : y.names o = false) (hlen : l.length + n ≤ 1000000000)
  (hK : forceL (((killS o S).set o (.row opT 5 (l ++ ops).length ((l ++ ops).flatMap opC))).set c (.cells liT [x, y, .row o])) fun S2 => fillF o f fun f2 => K (.tup []) f2 S2) : KillS Tryz.prog w0 G 71 [.p (.c (.ref c 0)), .p (.c (.sl j 0 n n))] f S K := by
 rw [forceL_iff, fillF_iff] at hK
 refine ⟨by kernel_rfl, fun r w us hR hd => ?_⟩
 obtain ⟨u1, l1, rfl, d1, d2⟩ := hd
 obtain ⟨u2, l2, rfl, d3, d4⟩ := d2
 obtain rfl : l2 = [] := d4
 obtain ⟨g, vA, vP, vO, k1, k2, k3, k4, k5, k6⟩ := lift_at hR h0 ho hjo.2.2
 obtain ⟨b', hb', rfl⟩ := den_ref d1
 rw [k1] at hb'; injection hb' with hb'; subst hb'
 obtain ⟨q, hq, rfl⟩ := den_sl d3
 obtain ⟨q', vs, e1, e2, e3⟩ := hR.own j _ hj
 rw [hq] at e1; injection e1 with e1; subst e1
 obtain rfl := denL_vals_inv e3
 have hcells : CellsAt w (liftG g vO) q 0 (ops.flatMap opC) := by
  refine ⟨(hR.new j q hq).1, ?_, fun i u hi => by simp [World.cell?, e2, hi]⟩
  rintro (h3 | h3)
  ·simp at h3; subst h3; exact hjo.1 (hR.inj _ _ _ hq k1)
  ·simp at h3; exact hjo.2.1 (hR.inj j o q hq (by rw [← k5]; exact h3))
 refine (add_walk k6 ops q n n hcells hn hlen).mono fun e w2 ⟨he, hl⟩ => ?_
 obtain ⟨r2, hR2, hbut⟩ := rel_lifted hR h0 ho hjo.2.2 hG hx hy k1 k2 k3 k4 k5 hl
 exact ⟨_, .tup [], _, _, r2, he, hR2, fun a hf => hf.kill hbut, ⟨_, rfl, rfl⟩, hK⟩
theorem kill_lift (c o : Nat) {x y : CV} {l : List BOp} (l2 : List BOp) (v : Value) {fid : FuncId} {args : List AV} {us : List Value} (h0 : S[c]? = some (.cells liT [x, y, .row o])) (ho : S[o]? = some (.row opT 5 l.length (l.flatMap opC))) (hco : c ≠ o) (hG : G.fix.length ≤ o) (hx : x.names o = false) (hy : y.names o = false) (hu : avals args = some us) (hok : fnOk Tryz.prog fid = true)
  (h : ∀ w g vA vP vO, LiftAt w g vA vP vO l → Calls Tryz.prog fid (pV g :: us).toArray w fun e w' => e = .returned v ∧ LiftTo w w' g vA vP vO l2)
  (hK : forceL (((killS o S).set o (.row opT 5 l2.length (l2.flatMap opC))).set c (.cells liT [x, y, .row o])) fun S2 => fillF o f fun f2 => K (AV.of v) f2 S2) : KillS Tryz.prog w0 G fid (.p (.c (.ref c 0)) :: args) f S K := by
 rw [forceL_iff, fillF_iff] at hK
 refine ⟨hok, fun r w us hR hd => ?_⟩
 obtain ⟨u1, l1, rfl, d1, d2⟩ := hd
 obtain rfl := avals_den hu d2
 obtain ⟨g, vA, vP, vO, k1, k2, k3, k4, k5, k6⟩ := lift_at hR h0 ho hco
 obtain ⟨b', hb', rfl⟩ := den_ref d1
 rw [k1] at hb'; injection hb' with hb'; subst hb'
 refine (h w g vA vP vO k6).mono fun e w2 ⟨he, hl⟩ => ?_
 obtain ⟨r2, hR2, hbut⟩ := rel_lifted hR h0 ho hco hG hx hy k1 k2 k3 k4 k5 hl
 exact ⟨_, _, _, _, r2, he, hR2, fun a hf => hf.kill hbut, AV.of_den _ _, hK⟩
end
end Go.Proofs.YtnhdcclpjildjaaGreat
namespace Go.Proofs.YtnhdcclpjildjaaGreat
open Go.RowKit

theorem comp_inv {d : Array Int} (hs : ∀ i j, i ≤ j → j < d.size → d[i]! ≤ d[j]!) : ∀ m, m ≤ d.size → Inc (Lib.compactUpTo d m) ∧ ∀ x, x ∈ Lib.compactUpTo d m ↔ ∃ j, j < m ∧ d[j]! = x
 | 0, _ => ⟨List.Pairwise.nil, fun x => by simp [Lib.compactUpTo]⟩
 | m + 1, hm => by
  obtain ⟨h1, h2⟩ := comp_inv hs m (by omega)
  rw [Lib.compactUpTo_succ]
  cases hk : Lib.keeps d m with
  | true =>
   rw [if_pos rfl]
   refine ⟨?_, fun x => ?_⟩
   ·unfold Inc at h1 ⊢
    rw [List.pairwise_append]
    refine ⟨h1, by simp, fun x hx y hy => ?_⟩
    obtain rfl : y = d[m]! := by simpa using hy
    obtain ⟨j, hj, rfl⟩ := (h2 x).1 hx
    have h3 := hs j (m - 1) (by omega) (by omega)
    have h4 := hs (m - 1) m (by omega) (by omega)
    have h5 : d[m]! ≠ d[m - 1]! := by
     unfold Lib.keeps at hk
     have := of_decide_eq_true hk
     rcases this with h6 | h6
     ·omega
     ·exact h6
    omega
   ·rw [List.mem_append, h2]
    constructor
    ·rintro (⟨j, hj, rfl⟩ | hx)
     ·exact ⟨j, by omega, rfl⟩
     ·exact ⟨m, by omega, by simpa using (List.mem_singleton.1 hx).symm⟩
    ·rintro ⟨j, hj, rfl⟩
     rcases Nat.lt_or_ge j m with h3 | h3
     ·exact .inl ⟨j, h3, rfl⟩
     ·obtain rfl : j = m := by omega
      exact .inr (by simp)
  | false =>
   have h5 : m ≠ 0 ∧ d[m]! = d[m - 1]! := by
    unfold Lib.keeps at hk
    have := of_decide_eq_false hk
    refine ⟨fun h => this (.inl h), ?_⟩
    rcases Classical.em (d[m]! = d[m - 1]!) with h6 | h6
    ·exact h6
    ·exact absurd (.inr h6) this
   simp only [Bool.false_eq_true, if_false, List.append_nil]
   refine ⟨h1, fun x => ?_⟩
   rw [h2]
   constructor
   ·rintro ⟨j, hj, rfl⟩; exact ⟨j, by omega, rfl⟩
   ·rintro ⟨j, hj, rfl⟩
    rcases Nat.lt_or_ge j m with h3 | h3
    ·exact ⟨j, h3, rfl⟩
    ·obtain rfl : j = m := by omega
     exact ⟨j - 1, by omega, h5.2.symm⟩
def uniqL (zs : List Int) : List Int := Lib.compact (zs.mergeSort fun x y => decide (x ≤ y))
theorem uniqL_is (zs : List Int) : Inc (uniqL zs) ∧ ∀ x, x ∈ uniqL zs ↔ x ∈ zs := by
 have hp : (zs.mergeSort fun x y => decide (x ≤ y)).Pairwise (fun x y => decide (x ≤ y) = true) := List.pairwise_mergeSort (by intro a b c; simp; omega) (by intro a b; simp; omega) zs
 have hm : ∀ x, x ∈ (zs.mergeSort fun x y => decide (x ≤ y)) ↔ x ∈ zs := fun x => List.mem_mergeSort
 unfold uniqL Lib.compact
 generalize (zs.mergeSort fun x y => decide (x ≤ y)) = l at hp hm
 obtain ⟨h1, h2⟩ := comp_inv (d := l.toArray) (fun i j hij hj => by
  have hj : j < l.length := by simpa using hj
  rw [getElem!_pos _ i (by simp; omega), getElem!_pos _ j (by simpa using hj)]
  rcases Nat.lt_or_ge i j with h | h
  ·have := List.pairwise_iff_getElem.1 hp i j (by omega) hj h
   simpa using this
  ·obtain rfl : i = j := by omega
   exact Int.le_refl _) l.length (by simp)
 refine ⟨h1, fun x => ?_⟩
 rw [h2, ← hm]
 constructor
 ·rintro ⟨j, hj, rfl⟩
  rw [getElem!_pos _ j (by simpa using hj)]
  simp
 ·intro hx
  obtain ⟨j, hj, rfl⟩ := List.mem_iff_getElem.1 hx
  exact ⟨j, hj, by rw [getElem!_pos _ j (by simpa using hj)]; simp⟩
theorem uniqL_length (zs : List Int) : (uniqL zs).length ≤ zs.length := by
 have h : ∀ (d : Array Int) m, (Lib.compactUpTo d m).length ≤ m := fun d m => by
  unfold Lib.compactUpTo; rw [List.length_map]
  exact Nat.le_trans (List.length_filter_le _ _) (by simp)
 have := h (zs.mergeSort fun x y => decide (x ≤ y)).toArray (zs.mergeSort fun x y => decide (x ≤ y)).length
 rw [List.length_mergeSort] at this
 unfold uniqL Lib.compact
 rw [List.length_mergeSort]
 exact this
end Go.Proofs.YtnhdcclpjildjaaGreat
namespace Go.Proofs
open Go.Shelf Go.Lib
def Tryz.laysSort_ren : Go.Shelf.Ren := ⟨fun | 189 => 102 | 125 => 120 | 257 => 119 | 128 => 132 | 129 => 133 | 294 => 123 | 295 => 124 | 296 => 125 | 297 => 126 | 298 => 127 | 299 => 128 | 216 => 129 | 300 => 130 | 301 => 131 | 328 => 137 | 329 => 138 | 330 => 139 | 331 => 140 | 332 => 141 | 215 => 142 | 343 => 144 | n => n, fun | 28 => 29 | 3 => 3 | 46 => 116 | 0 => 0 | 51 => 35 | 53 => 155 | 4 => 4 | 183 => 199 | 182 => 198 | 131 => 175 | 5 => 5 | 9 => 9 | 218 => 207 | 222 => 211 | 228 => 213 | 229 => 214 | n => n, fun n => n⟩
theorem Tryz.laysSort : Lays.n189 Tryz.prog Tryz.laysSort_ren where
 mixed := by kernel_rfl
 f125 := Tryz.func120.trans (congrArg some (by kernel_rfl))
 f128 := Tryz.func132.trans (congrArg some (by kernel_rfl))
 f129 := Tryz.func133.trans (congrArg some (by kernel_rfl))
 f189 := Tryz.func102.trans (congrArg some (by kernel_rfl))
 f215 := Tryz.func142.trans (congrArg some (by kernel_rfl))
 f216 := Tryz.func129.trans (congrArg some (by kernel_rfl))
 f257 := Tryz.func119.trans (congrArg some (by kernel_rfl))
 f294 := Tryz.func123.trans (congrArg some (by kernel_rfl))
 f295 := Tryz.func124.trans (congrArg some (by kernel_rfl))
 f296 := Tryz.func125.trans (congrArg some (by kernel_rfl))
 f297 := Tryz.func126.trans (congrArg some (by kernel_rfl))
 f298 := Tryz.func127.trans (congrArg some (by kernel_rfl))
 f299 := Tryz.func128.trans (congrArg some (by kernel_rfl))
 f300 := Tryz.func130.trans (congrArg some (by kernel_rfl))
 f301 := Tryz.func131.trans (congrArg some (by kernel_rfl))
 f328 := Tryz.func137.trans (congrArg some (by kernel_rfl))
 f329 := Tryz.func138.trans (congrArg some (by kernel_rfl))
 f330 := Tryz.func139.trans (congrArg some (by kernel_rfl))
 f331 := Tryz.func140.trans (congrArg some (by kernel_rfl))
 f332 := Tryz.func141.trans (congrArg some (by kernel_rfl))
 f343 := Tryz.func144.trans (congrArg some (by kernel_rfl))
 t0 := Tryz.underlying0
 a0 := Tryz.isAgg0
 z0 := Tryz.sizeOf0
 v0 := Tryz.zeroValue0
 t3 := Tryz.underlying3
 a3 := Tryz.isAgg3
 z3 := Tryz.sizeOf3
 v3 := Tryz.zeroValue3
 t4 := Tryz.underlying4
 a4 := Tryz.isAgg4
 z4 := Tryz.sizeOf4
 v4 := Tryz.zeroValue4
 t5 := Tryz.underlying5
 a5 := Tryz.isAgg5
 z5 := Tryz.sizeOf5
 v5 := Tryz.zeroValue5
 t9 := Tryz.underlying9
 a9 := Tryz.isAgg9
 z9 := Tryz.sizeOf9
 v9 := Tryz.zeroValue9
 t28 := Tryz.underlying29
 a28 := Tryz.isAgg29
 z28 := Tryz.sizeOf29
 v28 := Tryz.zeroValue29
 t46 := Tryz.underlying116
 a46 := Tryz.isAgg116
 z46 := Tryz.sizeOf116
 v46 := Tryz.zeroValue116
 t51 := Tryz.underlying35
 a51 := Tryz.isAgg35
 z51 := Tryz.sizeOf35
 v51 := Tryz.zeroValue35
 t53 := Tryz.underlying155
 a53 := Tryz.isAgg155
 z53 := Tryz.sizeOf155
 v53 := Tryz.zeroValue155
 t131 := Tryz.underlying175
 a131 := Tryz.isAgg175
 z131 := Tryz.sizeOf175
 v131 := Tryz.zeroValue175
 t182 := Tryz.underlying198
 a182 := Tryz.isAgg198
 z182 := Tryz.sizeOf198
 v182 := Tryz.zeroValue198
 t183 := Tryz.underlying199
 a183 := Tryz.isAgg199
 z183 := Tryz.sizeOf199
 v183 := Tryz.zeroValue199
 t218 := Tryz.underlying207
 a218 := Tryz.isAgg207
 z218 := Tryz.sizeOf207
 v218 := Tryz.zeroValue207
 t222 := Tryz.underlying211
 a222 := Tryz.isAgg211
 z222 := Tryz.sizeOf211
 v222 := Tryz.zeroValue211
 t228 := Tryz.underlying213
 a228 := Tryz.isAgg213
 z228 := Tryz.sizeOf213
 v228 := Tryz.zeroValue213
 t229 := Tryz.underlying214
 a229 := Tryz.isAgg214
 z229 := Tryz.sizeOf214
 v229 := Tryz.zeroValue214
def Tryz.laysCompact_ren : Go.Shelf.Ren := ⟨fun | 20 => 103 | n => n, fun | 22 => 29 | 3 => 3 | 4 => 4 | 0 => 0 | n => n, fun n => n⟩
theorem Tryz.laysCompact : Lays2.n20 Tryz.prog Tryz.laysCompact_ren where
 mixed := by kernel_rfl
 f20 := Tryz.func103.trans (congrArg some (by kernel_rfl))
 t0 := Tryz.underlying0
 a0 := Tryz.isAgg0
 z0 := Tryz.sizeOf0
 v0 := Tryz.zeroValue0
 t3 := Tryz.underlying3
 a3 := Tryz.isAgg3
 z3 := Tryz.sizeOf3
 v3 := Tryz.zeroValue3
 t4 := Tryz.underlying4
 a4 := Tryz.isAgg4
 z4 := Tryz.sizeOf4
 v4 := Tryz.zeroValue4
 t22 := Tryz.underlying29
 a22 := Tryz.isAgg29
 z22 := Tryz.sizeOf29
 v22 := Tryz.zeroValue29
 i3 := by kernel_rfl
end Go.Proofs
namespace Go.Proofs.YtnhdcclpjildjaaGreat
open Go.RowKit

theorem sort_row (w : World) (v : Value) (zs : List Int) (hn : zs.length ≤ 1000000) (h : w.ownsRow 0 3 1 v zs.length (zs.map intV)) :
  Calls Tryz.prog 102 #[v] w fun e w' => e = .returned (.tuple #[]) ∧ w'.ownsRow 0 3 1 v zs.length ((zs.mergeSort fun x y => decide (x ≤ y)).map intV) ∧ w.grownBy w' v.ownBlock := by
 rcases h.2 with ⟨rfl, h0⟩ | ⟨g, cap, cur, rfl, hg, hh, hnc, hcap, hsz, htake⟩
 ·have : zs = [] := List.eq_nil_of_length_eq_zero h0
  subst this
  refine (Any.slices_Sort_int_none Tryz.laysSort none 0 w).mono fun e w' ⟨h3, h4⟩ => ⟨h3, ⟨by simp, .inl ⟨rfl, rfl⟩⟩, ?_⟩
  rw [h4]; exact World.grownBy.refl _ _
 ·obtain ⟨g', cap', e1, _, hlt, _, _, _, hH⟩ := Lib.holds_of_ownsRow (enc := Value.int .i64) h (by simp)
  injection e1 with e1 _ e2
  injection e1 with e1; injection e1 with e1
  subst e1; subst e2
  refine (Any.slices_Sort_int Tryz.laysSort g 0 cap zs w hH hlt (by omega)).mono fun e w' ⟨h3, n, os, h4⟩ => ⟨h3, ?_, ?_⟩
  ·rw [h4]; exact Go.ownsRow_sortedI (by simp) hg hh hnc hcap hsz
  ·rw [h4]; exact Go.grownBy_sortedI _
theorem compact_row (w : World) (v : Value) (zs : List Int) (hn : zs.length ≤ 1000000) (h : w.ownsRow 0 3 1 v zs.length (zs.map intV)) :
  Calls Tryz.prog 103 #[v] w fun e w' => ∃ v', e = .returned v' ∧ w'.ownsRow 0 3 1 v' (Lib.compact zs).length ((Lib.compact zs).map intV) ∧ w.grownBy w' v.ownBlock ∧ v'.ownBlock = v.ownBlock := by
 rcases h.2 with ⟨rfl, h0⟩ | ⟨g, cap, cur, rfl, hg, hh, hnc, hcap, hsz, htake⟩
 ·have : zs = [] := List.eq_nil_of_length_eq_zero h0
  subst this
  refine (Any.slices_Compact_int_empty Tryz.laysCompact none 0 w).mono fun e w' ⟨h3, h4⟩ => ⟨_, h3, ⟨rfl, .inl ⟨rfl, rfl⟩⟩, ?_, rfl⟩
  rw [h4]; exact World.grownBy.refl _ _
 ·obtain ⟨g', cap', e1, _, hlt, _, _, _, hH⟩ := Lib.holds_of_ownsRow (enc := Value.int .i64) h (by simp)
  injection e1 with e1 _ e2
  injection e1 with e1; injection e1 with e1
  subst e1; subst e2
  have hle := Lib.compact_length_le zs
  refine (Any.slices_Compact_int Tryz.laysCompact g 0 cap zs w hH (by omega) hnc).mono fun e w' ⟨h3, q, h4⟩ => ⟨_, h3, ?_, ?_, rfl⟩
  ·rw [h4]
   have := Lib.ownsRow_putRow (q := q) (k := (Lib.compact zs).length) (ys := Lib.compact zs ++ List.replicate (zs.length - (Lib.compact zs).length) 0) h (by simp; omega) hle
   rw [List.take_left] at this
   exact this
  ·rw [h4]
   refine ⟨rfl, rfl, rfl, by simp [Sort.putRow, Sort.mapBlock, Sort.ahead], fun k hk hne => ?_⟩
   have hne : g ≠ k := fun e => hne (by rw [e]; rfl)
   simp [Sort.putRow, Sort.mapBlock, Array.getElem?_modify, hne, Sort.ahead]
theorem unique_of (w : World) (A : Option Addr) (n n' c : Nat) (xs ss us : List Value) (h : w.ownsRow 0 3 1 (.slice A n c) n xs)
  (hs : ∀ w, w.ownsRow 0 3 1 (.slice A n c) n xs → Calls Tryz.prog 102 #[.slice A n c] w fun e w' => e = .returned (.tuple #[]) ∧ w'.ownsRow 0 3 1 (.slice A n c) n ss ∧ w.grownBy w' (Value.slice A n c).ownBlock)
  (hc : ∀ w, w.ownsRow 0 3 1 (.slice A n c) n ss → Calls Tryz.prog 103 #[.slice A n c] w fun e w' => ∃ v', e = .returned v' ∧ w'.ownsRow 0 3 1 v' n' us ∧ w.grownBy w' (Value.slice A n c).ownBlock ∧ v'.ownBlock = (Value.slice A n c).ownBlock) :
  Calls Tryz.prog 74 #[.slice A n c] w fun e w' => ∃ v', e = .returned v' ∧ w'.ownsRow 0 3 1 v' n' us ∧ w.grownBy w' (Value.slice A n c).ownBlock ∧ v'.ownBlock = (Value.slice A n c).ownBlock := by
 generalize (Value.slice A n c).ownBlock = B at hs hc ⊢
 refine calls_satq [.slice A n c] Tryz.func74 Tryz.ntmps74 rfl (by simp) ?_
 refine satq_seqN ?_
 conv => whnf
 refine satq_in (satq_jump 1 rfl rfl rfl ?_)
 conv => whnf
 refine jmp_con (fun u w1 => u = .tuple #[] ∧ w1.ownsRow 0 3 1 (.slice A n c) n ss ∧ w.grownBy w1 B) rfl (by kernel_rfl) (fun r w1 hR => ?_) fun u w1 hj => ?_
 ·have hB := hR.toBelow
  refine (hs w1 (owns_below h hB)).mono fun e w2 ⟨he, k1, k2⟩ => ⟨_, he, rfl, k1, ?_⟩
  exact ⟨k2.os.trans hB.os, k2.tape.trans hB.tape, k2.output.trans hB.output, Nat.le_trans hB.size k2.size, fun k hk hne => (k2.block k (Nat.lt_of_lt_of_le hk hB.size) hne).trans (hB.block k hk)⟩
 ·obtain ⟨hu, h1, h2⟩ := hj
  subst hu
  conv => whnf
  refine atq_on ?_
  refine satq_in (satq_jump 1 rfl rfl rfl ?_)
  conv => whnf
  refine jmp_con (fun u w2 => w2.ownsRow 0 3 1 u n' us ∧ w.grownBy w2 B ∧ u.ownBlock = B) rfl (by kernel_rfl) (fun r w2 hR => ?_) fun u w2 hj => ?_
  ·have hB := hR.toBelow
   refine (hc w2 (owns_below h1 hB)).mono fun e w3 ⟨v', he, k1, k2, k3⟩ => ⟨v', he, k1, ?_, k3⟩
   exact ⟨k2.os.trans (hB.os.trans h2.os), k2.tape.trans (hB.tape.trans h2.tape), k2.output.trans (hB.output.trans h2.output), Nat.le_trans h2.size (Nat.le_trans hB.size k2.size), fun k hk hne => (k2.block k (Nat.lt_of_lt_of_le hk (Nat.le_trans h2.size hB.size)) hne).trans ((hB.block k (Nat.lt_of_lt_of_le hk h2.size)).trans (h2.block k hk hne))⟩
  ·obtain ⟨k1, k2, k3⟩ := hj
   obtain ⟨A2, c2, rfl, _⟩ := own_slice k1
   conv => whnf
   refine atq_on ?_
   refine satq_vcN ?_
   conv => whnf
   refine atq_ret ?_
   conv => whnf
   exact fin_val rfl fun w3 hB => ⟨_, rfl, owns_below k1 hB, ⟨hB.os.trans k2.os, hB.tape.trans k2.tape, hB.output.trans k2.output, Nat.le_trans k2.size hB.size, fun k hk hne => (hB.block k (Nat.lt_of_lt_of_le hk k2.size)).trans (k2.block k hk hne)⟩, k3⟩
theorem unique_walk (w : World) (v : Value) (zs : List Int) (hn : zs.length ≤ 1000000) (h : w.ownsRow 0 3 1 v zs.length (zs.map intV)) :
  Calls Tryz.prog 74 #[v] w fun e w' => ∃ v', e = .returned v' ∧ w'.ownsRow 0 3 1 v' (uniqL zs).length ((uniqL zs).map intV) ∧ w.grownBy w' v.ownBlock ∧ v'.ownBlock = v.ownBlock := by
 obtain ⟨A, c, rfl, _⟩ := own_slice h
 have hl : (zs.mergeSort fun x y => decide (x ≤ y)).length = zs.length := List.length_mergeSort zs
 have h2 := fun w => compact_row w (.slice A (zs.mergeSort fun x y => decide (x ≤ y)).length c) _ (by rw [hl]; exact hn)
 rw [hl] at h2
 exact unique_of w A zs.length _ c _ _ _ h (fun w => sort_row w _ zs hn) h2
end Go.Proofs.YtnhdcclpjildjaaGreat
namespace Go.Proofs.YtnhdcclpjildjaaGreat
open Go.RowKit

def WrOk (w w' : World) (sb off d : Nat) (od : Bool) (us : List Value) (pg : List Int) (d' : Nat) : Prop :=
 (od = true ∧ d' = d ∧ Below w.heap.size w w') ∨
 (od = false ∧ w.heap.size ≤ d' ∧ w'.heap[d']? = some (.cells (pg.map byteV).toArray 166 (0, 0)) ∧ w'.heap[sb]? = some (.cells ((us.set off (ptrV d')).set (off + 2) (.bool true)).toArray 168 (0, 0)) ∧ w.grownBy w' (some sb))
theorem byteV_flat (S : List Ow) : ∀ us : List Int, onesL S (List.map CV.v (us.map byteV)) = true
 | [] => rfl
 | u :: us => by
  show (match oneS S (.v (.int .u8 u)) with | true => onesL S (List.map CV.v (us.map byteV)) | false => false) = true
  exact byteV_flat S us
set_option maxRecDepth 100000 in
set_option maxHeartbeats 1000000 in
theorem writable_walk (w : World) (sb off d : Nat) (od : Bool) (us : List Value) (pg : List Int) (hs : w.heap[sb]? = some (.cells us.toArray 168 (0, 0))) (hd : us[off]? = some (ptrV d)) (ho : us[off + 2]? = some (.bool od)) (hp : PageAt w d pg) (h8 : 8 < us.length) :
  Calls Tryz.prog 113 #[.pointer (some ⟨sb, off, none⟩)] w fun e w' => ∃ d', e = .returned (ptrV d') ∧ WrOk w w' sb off d od us pg d' := by
 cases od with
 | true =>
  refine (calls_valN [.pointer (some ⟨sb, off, none⟩)] (R := fun e w' => e = .returned (ptrV d) ∧ Below w.heap.size w w') Tryz.func113 Tryz.ntmps113 rfl (by simp) ?_).mono fun e w' h => ⟨d, h.1, .inl ⟨rfl, rfl, h.2⟩⟩
  conv => whnf
  refine ⟨_, block_cells hs ho, ?_⟩
  conv => whnf
  (repeat ((first | apply k1 | apply k2 | apply k3 | apply k4 | refine k5 (by decide) ?_ | refine k6 (by decide) ?_); conv => whnf))
  conv => whnf
  refine ⟨_, block_cells hs (off := off + 0) hd, ?_⟩
  conv => whnf
  exact fin_val rfl fun w' hB => ⟨rfl, hB⟩
 | false =>
  have hne : d ≠ sb := fun e => by
   have := hp.at_
   rw [e, hs] at this
   injection this with this
   injection this with h1 h2
   cases h2
  have hlen : (List.map CV.v (pg.map byteV)).length = 256 := by rw [List.length_map, List.length_map, hp.len]
  have hlo : off + 2 < us.length := by
   rcases Nat.lt_or_ge (off + 2) us.length with h1 | h1
   ·exact h1
   ·rw [List.getElem?_eq_none h1] at ho; cases ho
  have hpc : CellsAt w ⟨[sb], []⟩ d 0 (pg.map byteV) := by
   refine ⟨heap_lt hp.at_, ?_, fun j u hj => by simp [World.cell?, hp.at_, hj]⟩
   rintro (h1 | h1)
   ·simp at h1; exact hne h1
   ·cases h1
  have g0 : (List.map CV.v us)[off + 0]? = some (.v (ptrV d)) := by rw [Nat.add_zero, List.getElem?_map, hd]; rfl
  have g2 : (List.map CV.v us)[off + 2]? = some (.v (.bool false)) := by rw [List.getElem?_map, ho]; rfl
  refine calls_satq_rel [.p (.c (.ref 0 off))] [.pointer (some ⟨sb, off, none⟩)] Tryz.func113 Tryz.ntmps113 rfl (by simp) (rel_own1 w hs) ⟨_, _, rfl, den_mk_ref rfl, rfl⟩ ?_
  refine satq_seqN ?_
  conv => whnf
  refine satq_cut (α := Unit) (fun _ => [(0, .p (.c (.ref 0 off))), (3, .p (.c (.ref 1 0)))]) (fun _ => [.cells 168 (((us.map CV.v).set off (.ref 1 0)).set (off + 2) (.v (.bool true))), .cells 166 ((pg.map byteV).map .v)]) ?_ fun _ => ?_
  ·conv => whnf
   erw [g2]
   conv => whnf
   (repeat ((first | apply k1 | apply k2 | apply k3 | apply k4 | refine k5 (by decide) ?_ | refine k6 (by decide) ?_); conv => whnf))
   conv => whnf
   erw [g0]
   conv => whnf
   refine ⟨_, hpc, by rw [List.length_map, hp.len]; rfl, ?_⟩
   conv => whnf
   rw [show Nat.beq (List.map CV.v (List.map byteV pg)).length (Tryz.prog.types[166].size) = true from by rw [hlen]; rfl, byteV_flat]
   conv => whnf
   rw [hlen]
   conv => whnf
   have hul : (List.map CV.v us).length = us.length := List.length_map _
   erw [show Nat.ble (off + 0 + 1) (List.map CV.v us).length = true from Nat.ble_eq_true_of_le (by rw [hul]; omega)]
   conv => whnf
   erw [show Nat.ble (List.map CV.v us).length 8 = false from by rw [hul]; exact ble_no h8]
   conv => whnf
   have hul2 : (setAll (List.map CV.v us) (off + 0) [CV.ref 1 0]).length = us.length := by rw [setAll_length, hul]
   erw [show Nat.ble (off + 2 + 1) (setAll (List.map CV.v us) (off + 0) [CV.ref 1 0]).length = true from Nat.ble_eq_true_of_le (by rw [hul2]; omega)]
   conv => whnf
   erw [show Nat.ble (setAll (List.map CV.v us) (off + 0) [CV.ref 1 0]).length 8 = false from by rw [hul2]; exact ble_no h8]
   conv => whnf
   exact ⟨(), ent_same rfl (aI rfl (aI rfl trivial)) (aI sM (aI ((aI rfl (Or.inl (setAll_same (by rw [hlen]; kernel_rfl))))) trivial))⟩
  ·have hL : (((List.map CV.v us).set off (.ref 1 0)).set (off + 2) (.v (.bool true)))[off + 0]? = some (CV.ref 1 0) := by
    rw [List.getElem?_set_ne (by omega), Nat.add_zero, List.getElem?_set_self (by rw [List.length_map]; omega)]
   refine satq_vcN ?_
   conv => whnf
   erw [hL]
   conv => whnf
   refine atq_ret ?_
   conv => whnf
   refine ⟨fun r w' u hR hd => ?_⟩
   obtain ⟨d', hb, rfl⟩ := den_ref hd
   refine ⟨d', rfl, .inr ⟨rfl, ?_, ?_, ?_, hR.grown⟩⟩
   ·have h1 := (hR.new 1 d' hb)
    rcases Nat.lt_or_ge d' w.heap.size with h2 | h2
    ·have h3 := h1.2 h2
     rcases h3 with h3 | h3
     ·simp at h3
      subst h3
      have h4 := hR.first 0 d' rfl
      have := hR.inj 0 1 d' h4 hb
      omega
     ·cases h3
    ·exact h2
   ·obtain ⟨b', vs, e1, e2, e3⟩ := hR.own 1 _ rfl
    rw [hb] at e1; injection e1 with e1; subst e1
    rw [e2, denL_vals_inv e3]
   ·obtain ⟨b', vs, e1, e2, e3⟩ := hR.own 0 _ rfl
    have h4 := hR.first 0 sb rfl
    rw [h4] at e1; injection e1 with e1; subst e1
    have e4 : denL r (((List.map CV.v us).set off (.ref 1 0)).set (off + 2) (.v (.bool true))) ((us.set off (ptrV d')).set (off + 2) (.bool true)) :=
     denL_set (off + 2) (denL_set off (denL_vals us) (by simp only [CV.den]; exact ⟨d', hb, rfl⟩)) (by simp only [CV.den])
    have e5 : vs = (us.set off (ptrV d')).set (off + 2) (.bool true) := by
     refine denL_det (n := 2) (fun c hc => ?_) e3 e4
     rcases List.mem_or_eq_of_mem_set hc with h5 | h5
     ·rcases List.mem_or_eq_of_mem_set h5 with h6 | h6
      ·obtain ⟨v, _, rfl⟩ := List.mem_map.1 h6; rfl
      ·rw [h6]; rfl
     ·rw [h5]; rfl
    rw [e2, e5]
end Go.Proofs.YtnhdcclpjildjaaGreat
