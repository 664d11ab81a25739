/- Walks: the reference's memory: Sync, Pages, RightsOf, Page, Fetch. -/
import Derived.Test.YtnhdcclpjildjaaGreatMRunsC
namespace Go.Proofs.YtnhdcclpjildjaaGreat
open Go.RowKit

set_option maxRecDepth 100000 in
theorem mem_pages (M : MemP) (n p : Nat) (w : World) (g : Nat) (gs : List Nat) (hU : ObjsAt w (g :: gs) (memS 0 n p M)) :
  Calls Tryz.prog 30 #[.pointer (some ⟨g, 0, none⟩)] w fun e w' => e = .returned (intV (p : Int)) ∧ ObjsAt w' (g :: gs) (memS 0 n p M) ∧ GrownBys w w' (g :: gs) := by
 obtain ⟨g0, g1, g2, g3, g4, g5, hg⟩ := six_blocks hU
 injection hg with hg0 hgs
 subst hgs; subst hg0
 refine calls_objs [.p (.c (.ref 0 0))] [.pointer (some ⟨g, 0, none⟩)] Tryz.func30 Tryz.ntmps30 rfl (by simp) hU ⟨_, _, rfl, den_mk_ref rfl, rfl⟩ ?_
 conv => whnf
 exact fin_objs rfl rfl (fun i o h => h) (memS_ob n p M) fun w' h1 h2 => ⟨rfl, h1, h2⟩
set_option maxRecDepth 100000 in
theorem mem_rightsOf (M : MemP) (n p : Nat) (q : Nat) (w : World) (g : Nat) (gs : List Nat) (hU : ObjsAt w (g :: gs) (memS 0 n p M)) (hM : M.ok n p) (hq : q < p) :
  Calls Tryz.prog 32 #[.pointer (some ⟨g, 0, none⟩), intV (q : Int)] w fun e w' => e = .returned (intV (M.rightsAt q)) ∧ ObjsAt w' (g :: gs) (memS 0 n p M) ∧ GrownBys w w' (g :: gs) := by
 obtain ⟨g0, g1, g2, g3, g4, g5, hg⟩ := six_blocks hU
 injection hg with hg0 hgs
 subst hgs; subst hg0
 refine calls_objs [.p (.c (.ref 0 0)), one (intV (q : Int))] [.pointer (some ⟨g, 0, none⟩), intV (q : Int)] Tryz.func32 Tryz.ntmps32 rfl (by simp) hU ⟨_, _, rfl, den_mk_ref rfl, avdenL_of [intV (q : Int)]⟩ ?_
 conv => whnf
 refine ⟨decide ((q : Int) ≥ (p : Int)), fun _ => ?_, ?_⟩
 ·conv => whnf
  exact ⟨rfl, rfl, rfl, rfl, grp_mem _ _ _ _ _ _ _ _ _⟩
 conv => whnf
 refine ⟨fun hc => absurd hc (by simp [cmb]; omega), fun _ => ?_⟩
 conv => whnf
 (refine ⟨⟨by omega, by omega⟩, ?_⟩; (conv=>whnf))
 have hget : (List.map CV.v M.rV)[0 + (q : Int).toNat * tsz Tryz.prog 3]? = some (.v (intV (M.rightsAt q))) := by
  show (List.map CV.v M.rV)[0 + (q : Int).toNat * 1]? = _
  obtain ⟨y, hy⟩ : ∃ y, M.rights[q]? = some y := ⟨_, List.getElem?_eq_getElem (by rw [hM.lr]; omega)⟩
  rw [Nat.zero_add, Nat.mul_one, Int.toNat_natCast]
  unfold MemP.rightsAt; rw [hy]; exact tail_at hy
 rw [hget]
 conv => whnf
 exact fin_objs rfl rfl (fun i o h => h) (memS_ob n p M) fun w' h1 h2 => ⟨rfl, h1, h2⟩
theorem page_length {M : MemP} {n p q : Nat} (hM : M.ok n p) (hq : q < p) : (M.page q).length = 256 := by
 have := hM.np
 unfold MemP.page
 rw [List.length_take, List.length_drop, hM.ld]; omega
theorem q_conv_cells {P : Program} {w0 : World} {G : Gs} {S : List Ow} {f : Fr} {o : Oper} {K : AV → Prop} {x : Operand} {src dst e : TypeId} {te : TypeId} {L : List CV} (i off n c : Nat) (m : List Int) (hop : o.op = .convert src dst x) (hs : P.underlying src = some (.slice e)) (he : P.underlying e = some (.int .u8)) (hd : P.underlying dst = some .string) (hx : f.ev x = .p (.c (.sl i off n c))) (hi : S[i]? = some (.cells te L)) (hm : (L.drop off).take n = (m.map (Value.int .u8)).map .v) (hn : m.length = n) (hk : K (one (strV m))) : QRun P w0 G S f o K := by
 refine ⟨_, hk, fun r a hf => ?_⟩
 have h1 := hf.ev x
 rw [hx] at h1
 obtain ⟨b, hb, hu⟩ := den_sl h1
 refine ⟨_, rfl, fun w hR => ?_⟩
 obtain ⟨b', us, e1, e2, e3⟩ := hR.own i _ hi
 rw [hb] at e1; injection e1 with e1; subst e1
 have e4 := denL_take n (denL_drop off e3)
 rw [hm] at e4
 have e5 := denL_vals_inv e4
 have hl : (loadCells ⟨b, off, none⟩ n).run P w = .ok (m.map (Value.int .u8)).toArray w := by
  unfold loadCells
  have := run_loadCells (P := P) (w := w) (b := b) (off := off) n 0 #[] (m.map (Value.int .u8)) (by simp [hn]) (fun j u hj => by
   rw [← e5, List.getElem?_take] at hj
   split at hj
   ·rw [List.getElem?_drop] at hj
    simpa [World.cell?, e2] using hj
   ·simp at hj)
  simpa using this
 simp [execOp, hop, hu, run_convert_bytes_string w src dst e _ n c hs he hd, run_bytesToString w _ n c m hl, strV, bytesA]
theorem page_cells {M : MemP} {n p q : Nat} (hM : M.ok n p) (hq : q < p) : ((M.dV.map CV.v).drop (256 * q)).take 256 = ((M.page q).map (Value.int .u8)).map .v := by
 have hnp := hM.np
 unfold MemP.dV MemP.page
 rw [← List.map_drop, ← List.map_take, List.drop_append_of_le_length (by simp [hM.ld]; omega), List.take_append_of_le_length (by simp [hM.ld]; omega), ← List.map_drop, ← List.map_take]
set_option maxRecDepth 100000 in
theorem mem_page (M : MemP) (n p : Nat) (q : Nat) (w : World) (g : Nat) (gs : List Nat) (hU : ObjsAt w (g :: gs) (memS 0 n p M)) (hM : M.ok n p) (hq : q < p) :
  Calls Tryz.prog 68 #[.pointer (some ⟨g, 0, none⟩), intV (q : Int)] w fun e w' => e = .returned (strV (M.page q)) ∧ ObjsAt w' (g :: gs) (memS 0 n p M) ∧ GrownBys w w' (g :: gs) := by
 obtain ⟨g0, g1, g2, g3, g4, g5, hg⟩ := six_blocks hU
 injection hg with hg0 hgs
 subst hgs; subst hg0
 have hnp := hM.np
 have hpm := hM.pmax
 refine calls_objs [.p (.c (.ref 0 0)), one (intV (q : Int))] [.pointer (some ⟨g, 0, none⟩), intV (q : Int)] Tryz.func68 Tryz.ntmps68 rfl (by simp) hU ⟨_, _, rfl, den_mk_ref rfl, avdenL_of [intV (q : Int)]⟩ ?_
 conv => whnf
 refine ⟨decide ((q : Int) ≥ (p : Int)), fun _ => ?_, ?_⟩
 ·conv => whnf
  exact ⟨rfl, rfl, rfl, rfl, grp_mem _ _ _ _ _ _ _ _ _⟩
 conv => whnf
 refine ⟨fun hc => absurd hc (by simp [cmb]; omega), fun _ => ?_⟩
 conv => whnf
 refine ⟨(256 * q : Nat), by rw [show (256 : Int) * (q : Int) = ((256 * q : Nat) : Int) by omega]; exact wr64 (by omega), ?_⟩
 conv => whnf
 refine ⟨(256 * q : Nat), by rw [show (256 : Int) * (q : Int) = ((256 * q : Nat) : Int) by omega]; exact wr64 (by omega), ?_⟩
 conv => whnf
 refine ⟨(256 * q + 256 : Nat), by rw [show ((256 * q : Nat) : Int) + (256 : Int) = ((256 * q + 256 : Nat) : Int) by omega]; exact wr64 (by omega), ?_⟩
 conv => whnf
 refine opS_q (q_slice_own (size := 1) 1 0 n (n + M.td.length) (256 * q) (256 * q + 256) rfl rfl rfl rfl rfl (.inr ⟨_, _, rfl, rfl⟩) (.inr ⟨_, _, rfl, rfl⟩) (by omega) (by omega) (by omega) ?_) rfl
 conv => whnf
 refine q_conv_cells (m := M.page q) 1 (0 + 256 * q * 1) (256 * q + 256 - 256 * q) (n + M.td.length - 256 * q) rfl rfl rfl rfl rfl rfl (by rw [show 0 + 256 * q * 1 = 256 * q by omega, show 256 * q + 256 - 256 * q = 256 by omega]; exact page_cells hM hq) (by rw [page_length hM hq]; omega) ?_
 conv => whnf
 exact fin_objs rfl rfl (fun i o h => h) (memS_ob n p M) fun w' h1 h2 => ⟨rfl, h1, h2⟩
end Go.Proofs.YtnhdcclpjildjaaGreat
namespace Go.Proofs.YtnhdcclpjildjaaGreat
open Go.RowKit

theorem slotsL_length (l : List Slt) : (slotsL l).length = 7 * l.length := by
 unfold slotsL
 induction l with
 | nil => rfl
 | cons s l ih =>
  rw [List.flatMap_cons, List.length_append, ih, List.length_cons]
  show 7 + 7 * l.length = 7 * (l.length + 1)
  omega
theorem slotsL_get : ∀ {l : List Slt} {k : Nat} {s : Slt} {j : Nat} {v : Value}, l[k]? = some s → (slotL s)[j]? = some v → (slotsL l)[7 * k + j]? = some v
 | [], k, s, j, v, h, _ => by simp at h
 | x :: l, 0, s, j, v, h, hj => by
  simp at h; subst h
  have hj7 : j < 7 := by
   rcases Nat.lt_or_ge j 7 with h1 | h1
   ·exact h1
   ·rw [List.getElem?_eq_none (by simpa using h1)] at hj; cases hj
  show (slotL x ++ slotsL l)[7 * 0 + j]? = some v
  rw [List.getElem?_append_left (by show 7 * 0 + j < 7; omega), Nat.mul_zero, Nat.zero_add]; exact hj
 | x :: l, k + 1, s, j, v, h, hj => by
  show (slotL x ++ slotsL l)[7 * (k + 1) + j]? = some v
  rw [List.getElem?_append_right (by show 7 ≤ _; omega)]
  rw [show 7 * (k + 1) + j - (slotL x).length = 7 * k + j by show 7 * (k + 1) + j - 7 = _; omega]
  exact slotsL_get (by simpa using h) hj
theorem block_cells {w : World} {b : Nat} {us : List Value} {t : TypeId} (h : w.heap[b]? = some (.cells us.toArray t (0, 0))) {off : Nat} {x : Value} (hx : us[off]? = some x) : CellsAt w Gs.nil b off [x] :=
 cells_one (heap_lt h) (by simp) (by simp [World.cell?, h, hx])
section
variable {w : World} {B m sb : Nat} {l : List Slt} {img : Nat → List Int}
set_option maxRecDepth 100000 in
theorem pages_mem (h : w.heap[m]? = some (.cells #[.slice (some ⟨sb, 0, none⟩) l.length l.length, .bool false] 163 (0, 0))) : Calls Tryz.prog 96 #[ptrV m] w fun e w' => e = .returned (intV (l.length : Int)) ∧ Below w.heap.size w w' := by
 refine calls_valN [ptrV m] Tryz.func96 Tryz.ntmps96 rfl (by simp) ?_
 conv => whnf
 refine q_nil_v _ rfl rfl rfl rfl ?_
 conv => whnf
 (repeat ((first | apply k1 | apply k2 | apply k3 | apply k4 | refine k5 (by decide) ?_ | refine k6 (by decide) ?_); conv => whnf))
 conv => whnf
 refine ⟨_, block_cells (us := [.slice (some ⟨sb, 0, none⟩) l.length l.length, .bool false]) h rfl, ?_⟩
 conv => whnf
 exact fin_val rfl fun w' hB => ⟨rfl, hB⟩
abbrev atV (sb n : Nat) (a : Int) : Value := .pointer (if a / 256 < (n : Int) then some ⟨sb, 0 + (a / 256).toNat * 7, none⟩ else none)
set_option maxRecDepth 100000 in
theorem at_mem (a : Int) (h : w.heap[m]? = some (.cells #[.slice (some ⟨sb, 0, none⟩) l.length l.length, .bool false] 163 (0, 0))) (ha : word a) : Calls Tryz.prog 112 #[ptrV m, .int .u32 a] w fun e w' => e = .returned (atV sb l.length a) ∧ Below w.heap.size w w' := by
 have hw : 0 ≤ a ∧ a < 4294967296 := ha
 refine calls_valN [ptrV m, .int .u32 a] Tryz.func112 Tryz.ntmps112 rfl (by simp) ?_
 conv => whnf
 refine ⟨by decide, a / 256, by rw [Int.tdiv_eq_ediv_of_nonneg hw.1, wr32]; omega, ?_⟩
 conv => whnf
 refine ⟨a / 256, wr64 (by omega), ?_⟩
 conv => whnf
 refine call_con rfl (by kernel_rfl) (fun r w' hR => pages_mem (by rw [hR.toBelow.block _ (heap_lt h)]; exact h)) ?_
 conv => whnf
 refine ⟨fun hc => ?_, fun hc => ?_⟩
 ·have : ¬ a / 256 < (l.length : Int) := by simp at hc; omega
  conv => whnf
  exact fin_val rfl fun w' hB => ⟨by unfold atV; rw [if_neg this], hB⟩
 ·have hlt : a / 256 < (l.length : Int) := by simp at hc; omega
  conv => whnf
  refine ⟨_, block_cells (us := [.slice (some ⟨sb, 0, none⟩) l.length l.length, .bool false]) h rfl, ?_⟩
  conv => whnf
  (refine ⟨⟨by omega, by omega⟩, ?_⟩; (conv=>whnf))
  exact fin_val rfl fun w' hB => ⟨by unfold atV; rw [if_pos hlt]; rfl, hB⟩
end
end Go.Proofs.YtnhdcclpjildjaaGreat
namespace Go.Proofs.YtnhdcclpjildjaaGreat
open Go.RowKit

section
variable {P : Program} {w0 : World} {G : Gs} {N : Nd} {c d : Code} {f : Fr} {S : List Ow} {Q : Exit → Act → World → Prop} {α : Type}
def MidW (N : Nd) (T : α → Fr) (J : α → World → Prop) (Q : Exit → Act → World → Prop) : Exit → Act → World → Prop := fun e a w => match e with
 | .normal => ∃ y, FDen Env.none (T y) a ∧ a.tmps.size = N.n ∧ a.defers = N.ds ∧ J y w
 | e => Q e a w
theorem satq_midW (T : α → Fr) (J : α → World → Prop) (hc : SatQ P w0 G N c f S (MidW N T J Q)) (hd : ∀ y w, J y w → SatQ P w Gs.nil N d (T y) [] Q) : SatQ P w0 G N (.seq c d) f S Q :=
 ⟨fun a w hg => wpIn_seq (wpIn_mono (hc.out a w hg) fun e a' w' hq => by
  cases e with
  | normal =>
   obtain ⟨y, hf, hN, hds, hJ⟩ := hq
   exact (hd y w' hJ).out a' w' ⟨Env.none, rel_none w', hf, hN, hds⟩
  | exit id => exact hq
  | goto l => exact hq
  | ret => exact hq
  | panic ch => exact hq
  | outgrown => exact hq)⟩
theorem atq_midW {T : α → Fr} {J : α → World → Prop} (y : α) (hf : FLe (plF f) (T y)) (hJ : ∀ r w, Rel w0 G S r w → J y w) : AtQ w0 G N .normal f S (MidW N T J Q) :=
 ⟨fun _a w ⟨r, hR, hfd, hN, hds⟩ => ⟨y, hf.den (plF_den hfd), hN, hds, hJ r w hR⟩⟩
theorem atq_ret_midW {T : α → Fr} {J : α → World → Prop} (h : AtQ w0 G N .ret f S Q) : AtQ w0 G N .ret f S (MidW N T J Q) := ⟨fun a w hg => h.out a w hg⟩
end
end Go.Proofs.YtnhdcclpjildjaaGreat
namespace Go.Proofs.YtnhdcclpjildjaaGreat
open Go.RowKit

section
variable {w : World} {g : Nat} {vA vP vO : Value} {l : List BOp} {pb : Nat} {us : List Value} {t : TypeId}
theorem box_ok {w1 : World} (h : LiftAt w g vA vP vO l) (hB : Below w.heap.size w w1) (hb : w1.heap[pb]? = some (.cells us.toArray t (0, 0))) (hn : w.heap.size ≤ pb) : LSt w1 w1 g vA vP vO l pb us t :=
 ⟨LiftTo.refl (h.later hB) (Below.refl _ _), hb, heap_lt hb, fun e => by have := h.lt; omega, fun e => by have := (own_new h.row pb e).2; omega⟩
theorem fresh_of {w1 : World} {S : List Ow} {r : Env} (hR : Rel w Gs.nil S r w1) {i b : Nat} (hb : r.blk i = some b) : w.heap.size ≤ b := by
 rcases Nat.lt_or_ge b w.heap.size with h1 | h1
 ·rcases (hR.new i b hb).2 h1 with h2 | h2 <;> cases h2
 ·exact h1
set_option maxRecDepth 100000 in
set_option maxHeartbeats 1000000 in
theorem arith_walk (h : LiftAt w g vA vP vO l) (i : QI) (hlen : l.length ≤ 100000000) :
  Calls Tryz.prog 99 #[pV g, intV (qCode i.op), qiV i] w fun e w' => e = .returned (.tuple #[]) ∧ LiftTo w w' g vA vP vO (l ++ qArith i) := by
 refine calls_satq [pV g, intV (qCode i.op), qiV i] Tryz.func99 Tryz.ntmps99 rfl (by simp) ?_
 refine satq_seqN ?_
 conv => whnf
 refine satq_restart fun r w1 hR => ?_
 obtain ⟨pb, us, e1, e2, e3⟩ := hR.own 0 _ rfl
 obtain rfl := denL_vals_inv (us := qiL i) e3
 have hB1 := hR.toBelow
 have hs := box_ok h hB1 e2 (fresh_of hR e1)
 refine ⟨slotFr [(0, pV g), (1, intV (qCode i.op)), (5, pV pb)], fun a' hf => slots_den ⟨slot_val hf rfl, slot_val hf rfl, slot_ref hf 5 rfl e1, trivial⟩, ?_⟩
 clear hR e3
 refine satq_seqN ?_
 conv => whnf
 refine ⟨_, block_cells hs.box (off := 0 + 3) (x := intV i.b) rfl, ?_⟩
 conv => whnf
 refine satq_midW (α := Unit) (fun _ => [(0, one (pV g)), (1, one (intV (qCode i.op))), (5, one (pV pb)), (6, one (intV i.b))]) (fun _ w2 => LSt w1 w2 g vA vP vO (l ++ if i.op = 10 then [⟨21, 0, i.b, 0, 0⟩] else []) pb (qiL i) qiT) ?_ fun _ w2 hs2 => ?_
 ·refine satq_seqN ?_
  conv => whnf
  refine ⟨_, block_cells hs.box (off := 0 + 0) (x := intV i.op) rfl, ?_⟩
  conv => whnf
  refine satq_cond rfl (fun hc => ?_) (fun hc => ?_)
  ·have ho : i.op = 10 := by simpa using hc
   rw [if_pos ho]
   refine satq_jump 4 rfl rfl rfl ?_
   conv => whnf
   obtain ⟨vO1, k1, k2⟩ := hs.step
   refine jmp_add (h.later hB1) [⟨21, 0, i.b, 0, 0⟩] 0 1 rfl rfl (by omega) fun w2 hl => ?_
   conv => whnf
   refine atq_midW () (aI rfl (aI rfl (aI rfl (aI rfl trivial)))) fun r w3 hR => ?_
   exact (LSt.mk hl ((hl.block pb hs.lt hs.ne hs.no).trans hs.box) hs.lt hs.ne hs.no).later hR.toBelow
  ·have ho : ¬ i.op = 10 := by simpa using hc
   rw [if_neg ho, List.append_nil]
   refine satq_skip (atq_midW () (aI rfl (aI rfl (aI rfl (aI rfl trivial)))) fun r w3 hR => ?_)
   exact hs.later hR.toBelow
 have hgl : (l ++ if i.op = 10 then [(⟨21, 0, i.b, 0, 0⟩ : BOp)] else []).length ≤ 100000001 := by
  rw [List.length_append]; split
  ·simp; omega
  ·simp; omega
 have hq : qArith i = (if i.op = 10 then [⟨21, 0, i.b, 0, 0⟩] else []) ++ (if i.d = 0 then [] else if 16 ≤ i.op then [⟨1, 20, 0, 0, i.imm⟩, ⟨qCode i.op, i.d, i.a, 20, 0⟩] else [⟨qCode i.op, i.d, i.a, i.b, 0⟩]) := rfl
 rw [hq, ← List.append_assoc]
 generalize (l ++ if i.op = 10 then [(⟨21, 0, i.b, 0, 0⟩ : BOp)] else []) = l1 at hgl hs2 ⊢
 refine satq_seqN ?_
 conv => whnf
 refine ⟨_, block_cells hs2.box (off := 0 + 1) (x := intV i.d) rfl, ?_⟩
 conv => whnf
 refine ⟨fun hc => ?_, fun hc => ?_⟩
 ·have hd : i.d = 0 := by simpa using hc
  rw [if_pos hd, List.append_nil]
  conv => whnf
  refine atq_ret ?_
  conv => whnf
  exact fin_val rfl fun w3 hB => ⟨rfl, (hs2.lift.early hB1).later hB⟩
 have hd : ¬ i.d = 0 := by simpa using hc
 rw [if_neg hd]
 conv => whnf
 refine satq_midW (α := Unit) (fun _ => [(0, one (pV g)), (1, one (intV (qCode i.op))), (5, one (pV pb)), (6, one (intV (if 16 ≤ i.op then 20 else i.b)))]) (fun _ w3 => LSt w1 w3 g vA vP vO (l1 ++ if 16 ≤ i.op then [⟨1, 20, 0, 0, i.imm⟩] else []) pb (qiL i) qiT) ?_ fun _ w3 hs3 => ?_
 ·refine satq_seqN ?_
  conv => whnf
  refine ⟨_, block_cells hs2.box (off := 0 + 0) (x := intV i.op) rfl, ?_⟩
  conv => whnf
  refine satq_cond rfl (fun hc => ?_) (fun hc => ?_)
  ·have ho : 16 ≤ i.op := by simpa using hc
   rw [if_pos ho, if_pos ho]
   refine satq_seqN ?_
   conv => whnf
   refine satq_jump 6 rfl rfl rfl ?_
   conv => whnf
   refine ⟨_, block_cells hs2.box (off := 0 + 4) (x := .int .u32 i.imm) rfl, ?_⟩
   conv => whnf
   obtain ⟨vO1, k1, k2⟩ := hs2.step
   refine jmp_add k1 [⟨1, 20, 0, 0, i.imm⟩] 0 1 rfl rfl (by omega) fun w3 hl => ?_
   conv => whnf
   refine atq_midW () (aI rfl (aI rfl (aI rfl (aI rfl trivial)))) fun r w4 hR => ?_
   exact (k2 _ _ hl).later hR.toBelow
  ·have ho : ¬ 16 ≤ i.op := by simpa using hc
   rw [if_neg ho, if_neg ho, List.append_nil]
   refine satq_skip (atq_midW () (aI rfl (aI rfl (aI rfl (aI rfl trivial)))) fun r w4 hR => ?_)
   exact hs2.later hR.toBelow
 refine satq_jump 9 rfl rfl rfl ?_
 conv => whnf
 refine ⟨_, block_cells hs3.box (off := 0 + 1) (x := intV i.d) rfl, ?_⟩
 conv => whnf
 refine ⟨_, block_cells hs3.box (off := 0 + 2) (x := intV i.a) rfl, ?_⟩
 conv => whnf
 obtain ⟨vO1, k1, k2⟩ := hs3.step
 refine jmp_add k1 [⟨qCode i.op, i.d, i.a, if 16 ≤ i.op then 20 else i.b, 0⟩] 0 1 rfl rfl (by rw [List.length_append]; split <;> simp <;> omega) fun w4 hl => ?_
 have hfin := k2 _ _ hl
 have e : l1 ++ (if 16 ≤ i.op then [⟨1, 20, 0, 0, i.imm⟩] else []) ++ [(⟨qCode i.op, i.d, i.a, if 16 ≤ i.op then 20 else i.b, 0⟩ : BOp)] = l1 ++ (if 16 ≤ i.op then [⟨1, 20, 0, 0, i.imm⟩, ⟨qCode i.op, i.d, i.a, 20, 0⟩] else [⟨qCode i.op, i.d, i.a, i.b, 0⟩]) := by
  split <;> simp
 rw [e] at hfin
 conv => whnf
 refine atq_end ?_
 conv => whnf
 exact fin_val rfl fun w5 hB => ⟨rfl, (hfin.lift.early hB1).later hB⟩
end
end Go.Proofs.YtnhdcclpjildjaaGreat
namespace Go.Proofs.YtnhdcclpjildjaaGreat
open Go.RowKit

section
variable {P : Program} {w0 : World} {G : Gs} {N : Nd} {S : List Ow} {f : Fr} {o : Oper}
theorem q_makeFunc2 {K : AV → Prop} {fid : FuncId} {x y : Operand} {vx vy : Value} (hop : o.op = .makeFunc (.func fid) #[] #[x, y]) (hx : f.ev x = one vx) (hy : f.ev y = one vy) (hk : K (one (.func (.func fid) #[] #[vx, vy]))) : QRun P w0 G S f o K := by
 refine ⟨_, hk, fun r a hf => ?_⟩
 have h1 := hf.ev x
 have h2 := hf.ev y
 rw [hx] at h1; rw [hy] at h2
 refine ⟨_, den_one _ _, fun w hR => ?_⟩
 simp [execOp, hop, den_v h1, den_v h2, Instr.makeFunc]
theorem extract_bytes (l : List Int) : ((bytesA l).extract 0 l.length).data.toList = l.map fun n => UInt8.ofNat n.toNat := by
 have h : (bytesA l).extract 0 l.length = bytesA l := by
  have := bytesA_size l
  rw [← this]
  exact ByteArray.extract_zero_size
 rw [h, bytesA_list]
theorem run_firstBytes (P : Program) (w : World) (l : List Int) (hl : ∀ x ∈ l, 0 ≤ x ∧ x < 256) : (Builtin.firstCells 1 l.length (strV l)).run P w = .ok (l.map (Value.int .u8)).toArray w := by
 have h : ((bytesA l).extract 0 l.length).data.map (fun b => Value.int .u8 b.toNat) = (l.map (Value.int .u8)).toArray := by
  apply Array.ext'
  rw [Array.toList_map, extract_bytes, List.map_map]
  refine List.map_congr_left fun x hx => ?_
  have := hl x hx
  have h2 : (UInt8.ofNat x.toNat).toNat = x.toNat := by simp; omega
  show Value.int .u8 (((UInt8.ofNat x.toNat).toNat : Nat) : Int) = Value.int .u8 x
  rw [h2]
  congr 1
  omega
 show (pure (((bytesA l).extract 0 l.length).data.map fun b => Value.int .u8 b.toNat) : Sem (Array Value)).run P w = _
 rw [h]
 exact Sem.run_pure _ _ _
theorem op_copy_str {K : Fr → List Ow → Prop} {t t2 e ti : TypeId} {inf : TypeInfo} {d s : Operand} {li : List CV} (l : List Int) (i n c : Nat) (hop : o.op = .call ⟨.builtin .copy, #[d, s], #[t, t2]⟩) (ht : P.underlying t = some (.slice e)) (hif : P.info? e = some inf) (hsz : inf.size = 1)
  (hd : f.ev d = .p (.c (.sl i 0 n c))) (hs : f.ev s = one (strV l)) (hi : S[i]? = some (.cells ti li)) (hl : ∀ x ∈ l, 0 ≤ x ∧ x < 256) (hmn : l.length ≤ n) (hle : l.length ≤ li.length) (hdst : dstOk N.n o.dst = true)
  (hk : K (f.put o.dst (one (.int .i64 (l.length : Int)))) (S.set i (.cells ti (setAll li 0 ((l.map (Value.int .u8)).map .v))))) : OpS P w0 G N o f S K := by
 refine ⟨fun r a w hR hf hN hd' next Q hK => ?_⟩
 have h1 := hf.ev d
 have h2 := hf.ev s
 rw [hd] at h1; rw [hs] at h2
 obtain ⟨b, hb, hu⟩ := den_sl h1
 obtain ⟨b', vs, e1, e2, e3⟩ := hR.own i _ hi
 rw [hb] at e1; injection e1 with e1; subst e1
 have hfirst := run_firstBytes P w l hl
 have hll := denL_length e3
 obtain ⟨w', hr, hg, hbl⟩ := run_storeCells (P := P) (l.map (Value.int .u8)) (i := 0) (off := 0) e2 (fun u hu => by obtain ⟨x, _, rfl⟩ := List.mem_map.1 hu; exact ⟨fun x h => (by cases h), fun x h => (by cases h)⟩) (by rw [List.length_map]; omega)
 have hmin : Nat.min l.length n = l.length := Nat.min_eq_left hmn
 have hmin' : min l.length n = l.length := Nat.min_eq_left hmn
 have hlen : (Builtin.lenOf (strV l)).run P w = .ok l.length w := by
  show (pure (bytesA l).size : Sem Nat).run P w = _
  rw [bytesA_size]; exact Sem.run_pure _ _ _
 have hex : (execOp a.eval o).run P w = .ok (.value (.int .i64 (l.length : Int))) w' := by
  simp [execOp, hop, resolve, invoke, builtin, hu, den_v h2, Builtin.copy_, run_underlying ht, hlen, run_sizeOf P e w hif, hsz, hmin, hfirst, hr, goInt]
 refine wp_of_value hex (hK _ _ _ _ hk ?_)
 refine good_value hR hf hN hd' hdst (den_one _ _) (hR.setBlock hb hg ⟨b, _, hb, hbl, ?_⟩ (hR.lt_of_blk hb)) (Env.le.refl r)
 exact denL_setAll _ (denL_vals _) e3
end
end Go.Proofs.YtnhdcclpjildjaaGreat
namespace Go.Proofs.YtnhdcclpjildjaaGreat
open Go.RowKit

abbrev lpT : TypeId := 136
section
variable {w : World} {g : Nat} {vA vP vO : Value} {l : List BOp} {pl pi : Nat}
abbrev testL (i : QI) (c : Int) (inv : Bool) : List BOp := [⟨c, 20, i.d, i.a, 0⟩] ++ (if inv = true then [⟨1, 21, 0, 0, 1⟩, ⟨7, 20, 20, 21, 0⟩] else [])
set_option maxRecDepth 100000 in
theorem test_walk (i : QI) (c : Int) (inv : Bool) (h : LiftAt w g vA vP vO l) (hl : LSt w w g vA vP vO l pl [pV g] lpT) (hi : LSt w w g vA vP vO l pi (qiL i) qiT) (hlen : l.length ≤ 100000000) :
  Calls Tryz.prog 118 #[intV c, .bool inv, pV pl, pV pi] w fun e w' => e = .returned (.tuple #[]) ∧ LiftTo w w' g vA vP vO (l ++ testL i c inv) := by
 refine calls_satq [intV c, .bool inv, pV pl, pV pi] Tryz.func118 Tryz.ntmps118 rfl (by simp) ?_
 refine satq_in (satq_jump 8 rfl rfl rfl ?_)
 conv => whnf
 refine ⟨_, block_cells hl.box (off := 0) (x := pV g) rfl, ?_⟩
 conv => whnf
 refine ⟨_, block_cells hi.box (off := 0 + 1) (x := intV i.d) rfl, ?_⟩
 conv => whnf
 refine ⟨_, block_cells hi.box (off := 0 + 2) (x := intV i.a) rfl, ?_⟩
 conv => whnf
 refine jmp_add h [⟨c, 20, i.d, i.a, 0⟩] 0 1 rfl rfl (by omega) fun w1 hq => ?_
 have hl1 : LSt w w1 g vA vP vO (l ++ [⟨c, 20, i.d, i.a, 0⟩]) pl [pV g] lpT := ⟨hq, (hq.block pl hl.lt hl.ne hl.no).trans hl.box, hl.lt, hl.ne, hl.no⟩
 conv => whnf
 refine atq_on ?_
 refine satq_seqN ?_
 conv => whnf
 cases inv with
 | false =>
  refine satq_cond rfl (fun hc => absurd hc (by decide)) (fun _ => ?_)
  refine satq_skip (atq_end ?_)
  conv => whnf
  exact fin_val rfl fun w2 hB => ⟨rfl, hl1.lift.later hB⟩
 | true =>
  refine satq_cond rfl (fun _ => ?_) (fun hc => absurd hc (by decide))
  refine satq_jump 4 rfl rfl rfl ?_
  conv => whnf
  refine ⟨_, block_cells hl1.box (off := 0) (x := pV g) rfl, ?_⟩
  conv => whnf
  obtain ⟨vO1, k1, k2⟩ := hl1.step
  refine jmp_add k1 [⟨1, 21, 0, 0, 1⟩, ⟨7, 20, 20, 21, 0⟩] 0 2 rfl rfl (by rw [List.length_append]; simp; omega) fun w2 hq2 => ?_
  have hfin := k2 _ _ hq2
  rw [List.append_assoc] at hfin
  conv => whnf
  refine atq_end ?_
  conv => whnf
  exact fin_val rfl fun w3 hB => ⟨rfl, hfin.lift.later hB⟩
theorem test_jmp {w1 : World} {S : List Ow} {K : Value → World → Prop} (i : QI) (c : Int) (inv : Bool) (h : LiftAt w1 g vA vP vO l) (hl : LSt w1 w1 g vA vP vO l pl [pV g] lpT) (hi : LSt w1 w1 g vA vP vO l pi (qiL i) qiT) (hlen : l.length ≤ 100000000)
  (hK : ∀ w2, LSt w1 w2 g vA vP vO (l ++ testL i c inv) pl [pV g] lpT ∧ LSt w1 w2 g vA vP vO (l ++ testL i c inv) pi (qiL i) qiT → K (.tuple #[]) w2) :
  Jmp Tryz.prog w1 Gs.nil 118 [one (intV c), one (.bool inv), one (pV pl), one (pV pi)] S K := by
 refine jmp_con (fun u w2 => u = .tuple #[] ∧ LSt w1 w2 g vA vP vO (l ++ testL i c inv) pl [pV g] lpT ∧ LSt w1 w2 g vA vP vO (l ++ testL i c inv) pi (qiL i) qiT) rfl (by kernel_rfl) (fun r w2 hR => ?_) fun u w2 ⟨hu, hj⟩ => hu ▸ hK w2 hj
 have hB := hR.toBelow
 have h2 := h.later hB
 have hl2 : LSt w2 w2 g vA vP vO l pl [pV g] lpT := ⟨LiftTo.refl h2 (Below.refl _ _), (hB.block pl hl.lt).trans hl.box, Nat.lt_of_lt_of_le hl.lt hB.size, hl.ne, hl.no⟩
 have hi2 : LSt w2 w2 g vA vP vO l pi (qiL i) qiT := ⟨LiftTo.refl h2 (Below.refl _ _), (hB.block pi hi.lt).trans hi.box, Nat.lt_of_lt_of_le hi.lt hB.size, hi.ne, hi.no⟩
 refine (test_walk i c inv h2 hl2 hi2 hlen).mono fun e w3 ⟨he, hq⟩ => ⟨_, he, rfl, ?_, ?_⟩
 ·exact ⟨hq.early hB, (hq.block pl hl2.lt hl2.ne hl2.no).trans hl2.box, hl.lt, hl.ne, hl.no⟩
 ·exact ⟨hq.early hB, (hq.block pi hi2.lt hi2.ne hi2.no).trans hi2.box, hi.lt, hi.ne, hi.no⟩
def branchL (i : QI) (at_ : Int) : List BOp := qTest i ++ [⟨23, 0, 20, 0, cut32 (at_ + 4 * i.imm)⟩, ⟨24, 0, 0, 0, cut32 (at_ + 4)⟩]
set_option maxRecDepth 100000 in
set_option maxHeartbeats 2000000 in
theorem branch_walk (i : QI) (at_ : Int) (h : LiftAt w g vA vP vO l) (ho : 32 ≤ i.op ∧ i.op ≤ 37) (hlen : l.length ≤ 10000000) :
  Calls Tryz.prog 101 #[pV g, qiV i, .int .u32 at_] w fun e w' => e = .returned (.tuple #[]) ∧ LiftTo w w' g vA vP vO (l ++ branchL i at_) := by
 refine calls_satq [pV g, qiV i, .int .u32 at_] Tryz.func101 Tryz.ntmps101 rfl (by simp) ?_
 refine satq_seqN ?_
 conv => whnf
 refine satq_restart fun r w1 hR => ?_
 obtain ⟨pl, us, e1, e2, e3⟩ := hR.own 0 _ rfl
 obtain rfl := denL_vals_inv (us := [pV g]) e3
 obtain ⟨pi, us, f1, f2, f3⟩ := hR.own 1 _ rfl
 obtain rfl := denL_vals_inv (us := qiL i) f3
 have hB1 := hR.toBelow
 have hs := box_ok h hB1 e2 (fresh_of hR e1)
 have hs' := box_ok h hB1 f2 (fresh_of hR f1)
 have h1 := h.later hB1
 refine ⟨slotFr [(2, .int .u32 at_), (3, pV pl), (4, pV pi)], fun a' hf => slots_den ⟨slot_val hf rfl, slot_ref hf 3 rfl e1, slot_ref hf 4 rfl f1, trivial⟩, ?_⟩
 clear hR e3 f3
 refine satq_seqN ?_
 conv => whnf
 refine q_makeFunc2 rfl rfl rfl ?_
 conv => whnf
 refine satq_midW (α := Unit) (fun _ => [(2, one (.int .u32 at_)), (3, one (pV pl)), (4, one (pV pi))]) (fun _ w2 => LSt w1 w2 g vA vP vO (l ++ qTest i) pl [pV g] lpT ∧ LSt w1 w2 g vA vP vO (l ++ qTest i) pi (qiL i) qiT) ?_ fun _ w2 hs2 => ?_
 ·refine satq_seqN ?_
  conv => whnf
  refine ⟨_, block_cells hs'.box (off := 0 + 0) (x := intV i.op) rfl, ?_⟩
  conv => whnf
  refine satq_block ?_
  refine satq_seqN ?_
  conv => whnf
  refine satq_cond rfl (fun hc => ?_) (fun hc => ?_)
  ·have hi : i.op = 32 := by simpa using hc
   refine satq_jump 1 rfl rfl rfl ?_
   conv => whnf
   refine test_jmp i 13 false h1 hs hs' (by omega) fun w2 hq => ?_
   conv => whnf
   refine atq_block (atq_midW () (aI rfl (aI rfl (aI rfl trivial))) fun r w3 hR => ?_)
   have ht : qTest i = testL i 13 false := by unfold qTest qTestCode testL; rw [hi]; rfl
   rw [ht]
   exact ⟨hq.1.later hR.toBelow, hq.2.later hR.toBelow⟩
  have n32 : ¬ i.op = 32 := by simpa using hc
  clear hc
  refine satq_seqN ?_
  conv => whnf
  refine satq_cond rfl (fun hc => ?_) (fun hc => ?_)
  ·have hi : i.op = 33 := by simpa using hc
   refine satq_jump 1 rfl rfl rfl ?_
   conv => whnf
   refine test_jmp i 7 false h1 hs hs' (by omega) fun w2 hq => ?_
   conv => whnf
   refine atq_block (atq_midW () (aI rfl (aI rfl (aI rfl trivial))) fun r w3 hR => ?_)
   have ht : qTest i = testL i 7 false := by unfold qTest qTestCode testL; rw [hi]; rfl
   rw [ht]
   exact ⟨hq.1.later hR.toBelow, hq.2.later hR.toBelow⟩
  have n33 : ¬ i.op = 33 := by simpa using hc
  clear hc
  refine satq_seqN ?_
  conv => whnf
  refine satq_cond rfl (fun hc => ?_) (fun hc => ?_)
  ·have hi : i.op = 34 := by simpa using hc
   refine satq_jump 1 rfl rfl rfl ?_
   conv => whnf
   refine test_jmp i 14 false h1 hs hs' (by omega) fun w2 hq => ?_
   conv => whnf
   refine atq_block (atq_midW () (aI rfl (aI rfl (aI rfl trivial))) fun r w3 hR => ?_)
   have ht : qTest i = testL i 14 false := by unfold qTest qTestCode testL; rw [hi]; rfl
   rw [ht]
   exact ⟨hq.1.later hR.toBelow, hq.2.later hR.toBelow⟩
  have n34 : ¬ i.op = 34 := by simpa using hc
  clear hc
  refine satq_seqN ?_
  conv => whnf
  refine satq_cond rfl (fun hc => ?_) (fun hc => ?_)
  ·have hi : i.op = 35 := by simpa using hc
   refine satq_jump 1 rfl rfl rfl ?_
   conv => whnf
   refine test_jmp i 14 true h1 hs hs' (by omega) fun w2 hq => ?_
   conv => whnf
   refine atq_block (atq_midW () (aI rfl (aI rfl (aI rfl trivial))) fun r w3 hR => ?_)
   have ht : qTest i = testL i 14 true := by unfold qTest qTestCode testL; rw [hi]; rfl
   rw [ht]
   exact ⟨hq.1.later hR.toBelow, hq.2.later hR.toBelow⟩
  have n35 : ¬ i.op = 35 := by simpa using hc
  clear hc
  refine satq_seqN ?_
  conv => whnf
  refine satq_cond rfl (fun hc => ?_) (fun hc => ?_)
  ·have hi : i.op = 36 := by simpa using hc
   refine satq_jump 1 rfl rfl rfl ?_
   conv => whnf
   refine test_jmp i 15 false h1 hs hs' (by omega) fun w2 hq => ?_
   conv => whnf
   refine atq_block (atq_midW () (aI rfl (aI rfl (aI rfl trivial))) fun r w3 hR => ?_)
   have ht : qTest i = testL i 15 false := by unfold qTest qTestCode testL; rw [hi]; rfl
   rw [ht]
   exact ⟨hq.1.later hR.toBelow, hq.2.later hR.toBelow⟩
  have n36 : ¬ i.op = 36 := by simpa using hc
  clear hc
  refine satq_seqN ?_
  conv => whnf
  refine satq_cond rfl (fun hc => ?_) (fun hc => ?_)
  ·have hi : i.op = 37 := by simpa using hc
   refine satq_jump 1 rfl rfl rfl ?_
   conv => whnf
   refine test_jmp i 15 true h1 hs hs' (by omega) fun w2 hq => ?_
   conv => whnf
   refine atq_block (atq_midW () (aI rfl (aI rfl (aI rfl trivial))) fun r w3 hR => ?_)
   have ht : qTest i = testL i 15 true := by unfold qTest qTestCode testL; rw [hi]; rfl
   rw [ht]
   exact ⟨hq.1.later hR.toBelow, hq.2.later hR.toBelow⟩
  have n37 : ¬ i.op = 37 := by simpa using hc
  clear hc
  omega
 obtain ⟨hs3, hs4⟩ := hs2
 refine satq_jump 11 rfl rfl rfl ?_
 conv => whnf
 refine ⟨_, block_cells hs3.box (off := 0) (x := pV g) rfl, ?_⟩
 conv => whnf
 refine ⟨_, block_cells hs4.box (off := 0 + 4) (x := .int .u32 i.imm) rfl, ?_⟩
 conv => whnf
 refine ⟨_, wr32 _, ?_⟩
 conv => whnf
 refine ⟨cut32 (at_ + 4 * i.imm), by rw [wr32]; unfold cut32; omega, ?_⟩
 conv => whnf
 refine ⟨cut32 (at_ + 4), by rw [wr32]; rfl, ?_⟩
 conv => whnf
 obtain ⟨vO1, k1, k2⟩ := hs3.step
 have htl : (qTest i).length ≤ 3 := by unfold qTest; split <;> simp
 refine jmp_add k1 [⟨23, 0, 20, 0, cut32 (at_ + 4 * i.imm)⟩, ⟨24, 0, 0, 0, cut32 (at_ + 4)⟩] 0 2 rfl rfl (by rw [List.length_append]; omega) fun w3 hq => ?_
 have hfin := k2 _ _ hq
 rw [List.append_assoc] at hfin
 conv => whnf
 refine atq_end ?_
 conv => whnf
 exact fin_val rfl fun w4 hB => ⟨rfl, (hfin.lift.early hB1).later hB⟩
end
end Go.Proofs.YtnhdcclpjildjaaGreat
namespace Go.Proofs.YtnhdcclpjildjaaGreat
open Go.RowKit

section
variable {R : Value → Option (DataW Unit × List MemPlace)} {mk : Int → Value} {cd : Int → DataW Unit} {good : Int → Prop} {n : Nat} {m : Int → Option Int}
variable {w0 : World} {G : Gs} {N : Nd} {o : Oper} {f : Fr} {S : List Ow} {K : Fr → List Ow → Prop}
theorem op_insert {t e : TypeId} {mo x v : Operand} (hop : o.op = .insert t mo x v) (ht : Tryz.prog.underlying t = some (.map 3 e)) (E : Elems R mk cd good) (i : Nat) (k y : Int)
  (hm : f.ev mo = .p (.c (.mp i))) (hi : S[i]? = some (mapOw R cd n m)) (hx : f.ev x = one (.int .i64 k)) (hv : f.ev v = one (mk y)) (hn : n < 1000000) (hkw : (Lit.int .i64 k).wf = true) (hy : good y) (hdst : dstOk N.n o.dst = true)
  (hk : K (f.put o.dst (.p (.c .any))) (S.set i (mapOw R cd (n + 1) (mput m k y)))) : OpS Tryz.prog w0 G N o f S K := by
 refine ⟨fun r a w hR hf hN hd next Q hK => ?_⟩
 have h1 := hf.ev mo
 have h2 := hf.ev x
 have h3 := hf.ev v
 rw [hm] at h1; rw [hx] at h2; rw [hv] at h3
 obtain ⟨b, hb, hu⟩ := den_mp h1
 obtain ⟨b', hb', hmap, _⟩ := hR.own i _ hi
 rw [hb] at hb'; injection hb' with hb'; subst hb'
 obtain ⟨w', hrun, hmap', hg⟩ := hmap.put E ht hn hkw hy (t := t)
 have hex : (execOp a.eval o).run Tryz.prog w = .ok .skip w' := by
  simp [execOp, hop, hu, den_v h2, den_v h3, hrun]
 exact wp_of_skip hex (hK _ _ _ _ hk (good_value hR hf hN hd hdst (by simp [AV.den, Pc.den, CV.den]) (hR.setBlock hb hg (imap_holds hb hmap') (hR.lt_of_blk hb)) (Env.le.refl r)))
theorem fin_map {R' : Ending → World → Prop} (i : Nat) (hi : S[i]? = some (mapOw R cd n m)) (h : ∀ w b, IMap R cd w b n m → w0.heap.size ≤ b → Below w0.heap.size w0 w → R' (.returned (.map (some b))) w) : Fin w0 Gs.nil S (.p (.c (.mp i))) R' := by
 refine ⟨fun r w u hR hd => ?_⟩
 obtain ⟨b, hb, rfl⟩ := den_mp hd
 obtain ⟨b', hb', hmap, _⟩ := hR.own i _ hi
 rw [hb] at hb'; injection hb' with hb'; subst hb'
 exact h w b hmap (fresh_of hR hb) hR.toBelow
theorem call_newMap {fid : FuncId} {args : List AV} {xs : List Value} {K : AV → List Ow → Prop} (hx : avals args = some xs) (hok : fnOk Tryz.prog fid = true)
  (h : ∀ r w, Rel w0 G S r w → Calls Tryz.prog fid xs.toArray w fun e w' => ∃ b, e = .returned (.map (some b)) ∧ IMap R cd w' b n m ∧ w.heap.size ≤ b ∧ Below w.heap.size w w')
  (hK : K (.p (.c (.mp S.length))) (S ++ [mapOw R cd n m])) : CallS Tryz.prog w0 G fid args S K := by
 refine ⟨hok, fun r w us hR hd => ?_⟩
 obtain rfl := avals_den hx hd
 refine (h r w hR).mono fun e w' ⟨b, he, hmap, hb, hB⟩ => ?_
 refine ⟨_, _, _, r.set S.length (some b) none, he, ?_, hR.snoc hB (fun x hx => by injection hx with hx; subst hx; exact ⟨hb, hmap.lt⟩) (imap_holds (by simp [Env.set]) hmap), hR.le_new _ _, hK⟩
 simp only [AV.den, Pc.den, CV.den]
 exact ⟨b, by simp [Env.set], rfl⟩
end
def plainM (k : Int) : Option Int := if qCode k = 0 then none else some (qCode k)
set_option maxRecDepth 100000 in
set_option maxHeartbeats 2000000 in
theorem plain_walk (w : World) : Calls Tryz.prog 98 #[] w fun e w' => ∃ b, e = .returned (.map (some b)) ∧ IMap i64R i64D w' b 19 plainM ∧ w.heap.size ≤ b ∧ Below w.heap.size w w' := by
 refine calls_satq [] Tryz.func98 Tryz.ntmps98 rfl (by simp) ?_
 refine satq_seqN ?_
 conv => whnf
 refine satq_seqN ?_
 conv => whnf
 refine op_makeMap (R := i64R) (cd := i64D) rfl rfl ?_
 conv => whnf
 refine op_insert (n := 0) rfl Tryz.underlying176 i64Elems 0 1 3 rfl rfl rfl rfl (by decide) (wf_mid (by unfold mid; omega)) (by unfold mid; omega) rfl ?_
 conv => whnf
 refine op_insert (n := 1) rfl Tryz.underlying176 i64Elems 0 2 4 rfl rfl rfl rfl (by decide) (wf_mid (by unfold mid; omega)) (by unfold mid; omega) rfl ?_
 conv => whnf
 refine op_insert (n := 2) rfl Tryz.underlying176 i64Elems 0 3 5 rfl rfl rfl rfl (by decide) (wf_mid (by unfold mid; omega)) (by unfold mid; omega) rfl ?_
 conv => whnf
 refine op_insert (n := 3) rfl Tryz.underlying176 i64Elems 0 4 6 rfl rfl rfl rfl (by decide) (wf_mid (by unfold mid; omega)) (by unfold mid; omega) rfl ?_
 conv => whnf
 refine op_insert (n := 4) rfl Tryz.underlying176 i64Elems 0 5 7 rfl rfl rfl rfl (by decide) (wf_mid (by unfold mid; omega)) (by unfold mid; omega) rfl ?_
 conv => whnf
 refine op_insert (n := 5) rfl Tryz.underlying176 i64Elems 0 6 8 rfl rfl rfl rfl (by decide) (wf_mid (by unfold mid; omega)) (by unfold mid; omega) rfl ?_
 conv => whnf
 refine op_insert (n := 6) rfl Tryz.underlying176 i64Elems 0 7 9 rfl rfl rfl rfl (by decide) (wf_mid (by unfold mid; omega)) (by unfold mid; omega) rfl ?_
 conv => whnf
 refine op_insert (n := 7) rfl Tryz.underlying176 i64Elems 0 8 10 rfl rfl rfl rfl (by decide) (wf_mid (by unfold mid; omega)) (by unfold mid; omega) rfl ?_
 conv => whnf
 refine op_insert (n := 8) rfl Tryz.underlying176 i64Elems 0 9 11 rfl rfl rfl rfl (by decide) (wf_mid (by unfold mid; omega)) (by unfold mid; omega) rfl ?_
 conv => whnf
 refine op_insert (n := 9) rfl Tryz.underlying176 i64Elems 0 10 12 rfl rfl rfl rfl (by decide) (wf_mid (by unfold mid; omega)) (by unfold mid; omega) rfl ?_
 conv => whnf
 refine op_insert (n := 10) rfl Tryz.underlying176 i64Elems 0 11 14 rfl rfl rfl rfl (by decide) (wf_mid (by unfold mid; omega)) (by unfold mid; omega) rfl ?_
 conv => whnf
 refine op_insert (n := 11) rfl Tryz.underlying176 i64Elems 0 12 15 rfl rfl rfl rfl (by decide) (wf_mid (by unfold mid; omega)) (by unfold mid; omega) rfl ?_
 conv => whnf
 refine op_insert (n := 12) rfl Tryz.underlying176 i64Elems 0 16 3 rfl rfl rfl rfl (by decide) (wf_mid (by unfold mid; omega)) (by unfold mid; omega) rfl ?_
 conv => whnf
 refine op_insert (n := 13) rfl Tryz.underlying176 i64Elems 0 17 5 rfl rfl rfl rfl (by decide) (wf_mid (by unfold mid; omega)) (by unfold mid; omega) rfl ?_
 conv => whnf
 refine op_insert (n := 14) rfl Tryz.underlying176 i64Elems 0 18 6 rfl rfl rfl rfl (by decide) (wf_mid (by unfold mid; omega)) (by unfold mid; omega) rfl ?_
 conv => whnf
 refine op_insert (n := 15) rfl Tryz.underlying176 i64Elems 0 19 7 rfl rfl rfl rfl (by decide) (wf_mid (by unfold mid; omega)) (by unfold mid; omega) rfl ?_
 conv => whnf
 refine op_insert (n := 16) rfl Tryz.underlying176 i64Elems 0 20 8 rfl rfl rfl rfl (by decide) (wf_mid (by unfold mid; omega)) (by unfold mid; omega) rfl ?_
 conv => whnf
 refine op_insert (n := 17) rfl Tryz.underlying176 i64Elems 0 21 9 rfl rfl rfl rfl (by decide) (wf_mid (by unfold mid; omega)) (by unfold mid; omega) rfl ?_
 conv => whnf
 refine op_insert (n := 18) rfl Tryz.underlying176 i64Elems 0 22 10 rfl rfl rfl rfl (by decide) (wf_mid (by unfold mid; omega)) (by unfold mid; omega) rfl ?_
 conv => whnf
 refine satq_vcN ?_
 conv => whnf
 refine atq_ret ?_
 conv => whnf
 refine fin_map 0 rfl fun w' b hm hb hB => ⟨b, rfl, hm.is (fun k => ?_), hb, hB⟩
 by_cases hk : 1 ≤ k ∧ k ≤ 22
 ·have : k = 1 ∨ k = 2 ∨ k = 3 ∨ k = 4 ∨ k = 5 ∨ k = 6 ∨ k = 7 ∨ k = 8 ∨ k = 9 ∨ k = 10 ∨ k = 11 ∨ k = 12 ∨ k = 13 ∨ k = 14 ∨ k = 15 ∨ k = 16 ∨ k = 17 ∨ k = 18 ∨ k = 19 ∨ k = 20 ∨ k = 21 ∨ k = 22 := by omega
  rcases this with rfl | rfl | rfl | rfl | rfl | rfl | rfl | rfl | rfl | rfl | rfl | rfl | rfl | rfl | rfl | rfl | rfl | rfl | rfl | rfl | rfl | rfl <;> decide
 ·have hq : qCode k = 0 := by
   unfold qCode
   rw [if_neg (by omega), if_neg (by omega), if_neg (by omega), if_neg (by omega), if_neg (by omega)]
  unfold plainM mput
  rw [if_pos hq]
  simp only [show ¬ k = 1 by omega, show ¬ k = 2 by omega, show ¬ k = 3 by omega, show ¬ k = 4 by omega, show ¬ k = 5 by omega, show ¬ k = 6 by omega, show ¬ k = 7 by omega, show ¬ k = 8 by omega, show ¬ k = 9 by omega, show ¬ k = 10 by omega, show ¬ k = 11 by omega, show ¬ k = 12 by omega, show ¬ k = 16 by omega, show ¬ k = 17 by omega, show ¬ k = 18 by omega, show ¬ k = 19 by omega, show ¬ k = 20 by omega, show ¬ k = 21 by omega, show ¬ k = 22 by omega, if_false]
end Go.Proofs.YtnhdcclpjildjaaGreat
namespace Go.Proofs.YtnhdcclpjildjaaGreat
open Go.RowKit

theorem block_all {w : World} {b : Nat} {us : List Value} {t : TypeId} (h : w.heap[b]? = some (.cells us.toArray t (0, 0))) : CellsAt w Gs.nil b 0 us :=
 cells_list (heap_lt h) (by simp) fun j u hj => by simp [World.cell?, h, hj]
section
variable {w : World} {g : Nat} {vA vP vO : Value} {l : List BOp} {pi : Nat}
theorem lift_jmp {w1 w2 : World} {S : List Ow} {K : Value → World → Prop} {pb : Nat} {us : List Value} {t : TypeId} {fid : FuncId} {args : List AV} {xs : List Value} (l2 : List BOp) (hs : LSt w1 w2 g vA vP vO l pb us t) (hx : avals args = some xs) (hok : fnOk Tryz.prog fid = true)
  (h : ∀ w3 vO1, LiftAt w3 g vA vP vO1 l → Calls Tryz.prog fid xs.toArray w3 fun e w4 => e = .returned (.tuple #[]) ∧ LiftTo w3 w4 g vA vP vO1 l2)
  (hK : ∀ w3, LSt w1 w3 g vA vP vO l2 pb us t → K (.tuple #[]) w3) : Jmp Tryz.prog w2 Gs.nil fid args S K := by
 obtain ⟨vO1, k1, k2⟩ := hs.step
 exact jmp_con (fun u w3 => u = .tuple #[] ∧ LSt w1 w3 g vA vP vO l2 pb us t) hx hok (fun r w3 hR => (h w3 vO1 (k1.later hR.toBelow)).mono fun e w4 ⟨he, hq⟩ => ⟨_, he, rfl, k2 _ _ (hq.early hR.toBelow)⟩) fun u w3 ⟨hu, hj⟩ => hu ▸ hK w3 hj
set_option maxRecDepth 100000 in
set_option maxHeartbeats 4000000 in
theorem instr_walk (i : QI) (at_ : Int) (h : LiftAt w g vA vP vO l) (hi : i.ok) (hlen : l.length ≤ 1000000) :
  Calls Tryz.prog 73 #[pV g, qiV i, .int .u32 at_] w fun e w' => e = .returned (.bool (qTail i at_).isNone) ∧ LiftTo w w' g vA vP vO (l ++ (qBody i at_ ++ (qTail i at_).getD [])) := by
 refine calls_satq [pV g, qiV i, .int .u32 at_] Tryz.func73 Tryz.ntmps73 rfl (by simp) ?_
 refine satq_seqN ?_
 conv => whnf
 refine satq_restart fun r w1 hR => ?_
 obtain ⟨pi, us, f1, f2, f3⟩ := hR.own 0 _ rfl
 obtain rfl := denL_vals_inv (us := qiL i) f3
 have hB1 := hR.toBelow
 have hs := box_ok h hB1 f2 (fresh_of hR f1)
 have h1 := h.later hB1
 refine ⟨slotFr [(0, pV g), (2, .int .u32 at_), (4, pV pi), (6, .bool false)], fun a' hf => slots_den ⟨slot_val hf rfl, slot_val hf rfl, slot_ref hf 4 rfl f1, slot_val hf rfl, trivial⟩, ?_⟩
 clear hR f3
 refine satq_seqN ?_
 conv => whnf
 refine ⟨_, block_cells hs.box (off := 0 + 1) (x := intV i.d) rfl, ?_⟩
 conv => whnf
 refine satq_midW (α := Unit) (fun _ => [(0, one (pV g)), (2, one (.int .u32 at_)), (4, one (pV pi)), (6, one (.bool false)), (7, one (intV (qTarget i.d)))]) (fun _ w2 => LSt w1 w2 g vA vP vO l pi (qiL i) qiT) ?_ fun _ w2 hs2 => ?_
 ·refine satq_seqN ?_
  conv => whnf
  refine satq_cond rfl (fun hc => ?_) (fun hc => ?_)
  ·have ho : i.d = 0 := by simpa using hc
   refine satq_vcN ?_
   conv => whnf
   have ht : qTarget i.d = 20 := by unfold qTarget; rw [if_pos ho]
   rw [ht]
   exact atq_midW () (aI rfl (aI rfl (aI rfl (aI rfl (aI rfl trivial))))) fun r w3 hR => hs.later hR.toBelow
  ·have ho : ¬ i.d = 0 := by simpa using hc
   have ht : qTarget i.d = i.d := by unfold qTarget; rw [if_neg ho]
   rw [ht]
   exact satq_skip (atq_midW () (aI rfl (aI rfl (aI rfl (aI rfl (aI rfl trivial))))) fun r w3 hR => hs.later hR.toBelow)
 refine satq_midW (α := Unit) (fun _ => [(0, one (pV g)), (2, one (.int .u32 at_)), (4, one (pV pi)), (6, one (.bool false)), (7, one (intV (qTarget i.d)))]) (fun _ w3 => LSt w1 w3 g vA vP vO l pi (qiL i) qiT ∧ qCode i.op = 0) ?_ fun _ w3 hs3 => ?_
 ·refine satq_midW (α := Unit) (fun _ => [(0, one (pV g)), (2, one (.int .u32 at_)), (4, one (pV pi)), (6, one (.bool false)), (7, one (intV (qTarget i.d))), (8, one (intV ((plainM i.op).getD 0))), (9, one (.bool (plainM i.op).isSome))]) (fun _ w3 => LSt w1 w3 g vA vP vO l pi (qiL i) qiT) ?_ fun _ w3 hs3 => ?_
  ·refine satq_vcN ?_
   conv => whnf
   refine sat_anyG (.q 1 (.q 2 (.alt 0 (.alt 3 (.alt 4 (.alt 5 (.alt 6 (.alt 7 (.alt 8 .done .no) .no) (.alt 7 (.alt 6 (.alt 8 .done .no) .no) .no)) (.alt 6 (.alt 5 (.alt 7 (.alt 8 .done .no) .no) .no) .no)) .no) .no) .no))) mixed (by kernel_rfl) (by kernel_rfl) ?_
   conv => whnf
   refine ⟨_, block_cells hs2.box (off := 0 + 0) (x := intV i.op) rfl, ?_⟩
   conv => whnf
   refine ⟨?_, trivial⟩
   conv => whnf
   refine call_newMap (R := i64R) (cd := i64D) (n := 19) (m := plainM) rfl (by kernel_rfl) (fun r w' hR => plain_walk w') ?_
   conv => whnf
   refine ⟨?_, trivial⟩
   conv => whnf
   refine q_look_i64 rfl 0 i.op rfl rfl rfl (wf_mid (by have := hi.op; unfold mid; omega)) ?_
   conv => whnf
   refine ⟨?_, trivial⟩
   conv => whnf
   have hend : ∀ {S : List Ow} r w3, Rel w2 Gs.nil S r w3 → LSt w1 w3 g vA vP vO l pi (qiL i) qiT := fun r w3 hR => hs2.later hR.toBelow
   refine ⟨?_, ?_, trivial⟩
   ·conv => whnf
    refine ⟨?_, ?_, trivial⟩
    ·conv => whnf
     refine ⟨?_, trivial⟩
     conv => whnf
     refine ⟨?_, trivial⟩
     conv => whnf
     exact atq_midW () (aI rfl (aI rfl (aI rfl (aI rfl (aI rfl (aI rfl (aI rfl trivial))))))) hend
    ·conv => whnf
     refine ⟨?_, trivial⟩
     conv => whnf
     refine ⟨?_, trivial⟩
     conv => whnf
     exact atq_midW () (aI rfl (aI rfl (aI rfl (aI rfl (aI rfl (aI rfl (aI rfl trivial))))))) hend
   ·conv => whnf
    refine ⟨?_, trivial⟩
    conv => whnf
    refine ⟨?_, trivial⟩
    conv => whnf
    refine ⟨?_, trivial⟩
    conv => whnf
    exact atq_midW () (aI rfl (aI rfl (aI rfl (aI rfl (aI rfl (aI rfl (aI rfl trivial))))))) hend
  refine satq_seqN ?_
  conv => whnf
  refine satq_cond rfl (fun hc => ?_) (fun hc => ?_)
  ·have hq : ¬ qCode i.op = 0 := fun hq => by rw [plainM, if_pos hq] at hc; exact absurd hc (by simp)
   have hm : (plainM i.op).getD 0 = qCode i.op := by unfold plainM; rw [if_neg hq]; rfl
   rw [hm]
   refine satq_in (satq_jump 3 rfl rfl rfl ?_)
   conv => whnf
   refine ⟨_, block_all hs3.box, rfl, ?_⟩
   conv => whnf
   refine lift_jmp (l ++ qArith i) hs3 (by rfl) (by kernel_rfl) (fun w3 vO1 k => arith_walk k i (by omega)) fun w3 hs3 => ?_
   conv => whnf
   refine atq_on ?_
   refine satq_seqN ?_
   conv => whnf
   refine satq_vcN ?_
   conv => whnf
   refine atq_ret_midW (atq_ret ?_)
   conv => whnf
   have hb : qBody i at_ = qArith i := by unfold qBody; rw [if_pos hq]
   have ht : qTail i at_ = none := by unfold qTail; rw [if_pos hq]
   rw [hb, ht]
   exact fin_val rfl fun w3 hB => ⟨rfl, by simpa using (hs3.lift.early hB1).later hB⟩
  ·have hq : qCode i.op = 0 := by
    rcases Classical.em (qCode i.op = 0) with hq | hq
    ·exact hq
    ·rw [plainM, if_neg hq] at hc; exact absurd hc (by simp)
   exact satq_skip (atq_midW () (aI rfl (aI rfl (aI rfl (aI rfl (aI rfl trivial))))) fun r w3 hR => ⟨hs3.later hR.toBelow, hq⟩)
 obtain ⟨hs3, hq⟩ := hs3
 refine satq_midW (α := Unit) (fun _ => [(0, one (pV g)), (2, one (.int .u32 at_)), (4, one (pV pi)), (6, one (.bool false))]) (fun _ w4 => LSt w1 w4 g vA vP vO (l ++ qBody i at_) pi (qiL i) qiT ∧ qTail i at_ = none) ?_ fun _ w4 hs4 => ?_
 ·refine satq_seqN ?_
  conv => whnf
  refine ⟨_, block_cells hs3.box (off := 0 + 0) (x := intV i.op) rfl, ?_⟩
  conv => whnf
  refine satq_block ?_
  refine satq_seqN ?_
  conv => whnf
  refine satq_cond rfl (fun hc => ?_) (fun hc => ?_)
  ·have ho : i.op = 41 := by simpa using hc
   refine satq_jump 6 rfl rfl rfl ?_
   conv => whnf
   refine ⟨_, block_cells hs3.box (off := 0 + 1) (x := intV i.d) rfl, ?_⟩
   conv => whnf
   refine ⟨_, block_cells hs3.box (off := 0 + 4) (x := .int .u32 i.imm) rfl, ?_⟩
   conv => whnf
   refine ⟨by omega, cut32 (i.imm * 1024), by rw [wr32]; rfl, ?_⟩
   conv => whnf
   refine lift_jmp (l ++ qSet i.d (cut32 (i.imm * 1024))) hs3 (by rfl) (by kernel_rfl) (fun w3 vO1 k => set_walkL k i.d _ (by omega)) fun w5 hs5 => ?_
   conv => whnf
   have hb : qBody i at_ = qSet i.d (cut32 (i.imm * 1024)) := by unfold qBody; rw [ho]; rfl
   have ht : qTail i at_ = none := by unfold qTail; rw [ho]; rfl
   rw [hb, ht]
   exact atq_block (atq_midW () (aI rfl (aI rfl (aI rfl (aI rfl trivial)))) fun r w5 hR => ⟨hs5.later hR.toBelow, rfl⟩)
  have n41 : ¬ i.op = 41 := by simpa using hc
  clear hc
  refine satq_seqN ?_
  conv => whnf
  refine satq_cond rfl (fun hc => ?_) (fun hc => ?_)
  ·have ho : i.op = 23 := by simpa using hc
   refine satq_jump 8 rfl rfl rfl ?_
   conv => whnf
   refine ⟨_, block_cells hs3.box (off := 0 + 2) (x := intV i.a) rfl, ?_⟩
   conv => whnf
   refine ⟨_, block_cells hs3.box (off := 0 + 4) (x := .int .u32 i.imm) rfl, ?_⟩
   conv => whnf
   obtain ⟨vO1, k1, k2⟩ := hs3.step
   refine jmp_add k1 [⟨16, qTarget i.d, i.a, 0, i.imm⟩] 0 1 rfl rfl (by omega) fun w5 hl => ?_
   have hs5 := k2 _ _ hl
   conv => whnf
   have hb : qBody i at_ = [⟨16, qTarget i.d, i.a, 0, i.imm⟩] := by unfold qBody; rw [ho]; rfl
   have ht : qTail i at_ = none := by unfold qTail; rw [ho]; rfl
   rw [hb, ht]
   exact atq_block (atq_midW () (aI rfl (aI rfl (aI rfl (aI rfl trivial)))) fun r w5 hR => ⟨hs5.later hR.toBelow, rfl⟩)
  have n23 : ¬ i.op = 23 := by simpa using hc
  clear hc
  refine satq_seqN ?_
  conv => whnf
  refine satq_cond rfl (fun hc => ?_) (fun hc => ?_)
  ·have ho : i.op = 24 := by simpa using hc
   refine satq_jump 8 rfl rfl rfl ?_
   conv => whnf
   refine ⟨_, block_cells hs3.box (off := 0 + 2) (x := intV i.a) rfl, ?_⟩
   conv => whnf
   refine ⟨_, block_cells hs3.box (off := 0 + 4) (x := .int .u32 i.imm) rfl, ?_⟩
   conv => whnf
   obtain ⟨vO1, k1, k2⟩ := hs3.step
   refine jmp_add k1 [⟨17, qTarget i.d, i.a, 0, i.imm⟩] 0 1 rfl rfl (by omega) fun w5 hl => ?_
   have hs5 := k2 _ _ hl
   conv => whnf
   have hb : qBody i at_ = [⟨17, qTarget i.d, i.a, 0, i.imm⟩] := by unfold qBody; rw [ho]; rfl
   have ht : qTail i at_ = none := by unfold qTail; rw [ho]; rfl
   rw [hb, ht]
   exact atq_block (atq_midW () (aI rfl (aI rfl (aI rfl (aI rfl trivial)))) fun r w5 hR => ⟨hs5.later hR.toBelow, rfl⟩)
  have n24 : ¬ i.op = 24 := by simpa using hc
  clear hc
  refine satq_seqN ?_
  conv => whnf
  refine satq_cond rfl (fun hc => ?_) (fun hc => ?_)
  ·have ho : i.op = 25 := by simpa using hc
   refine satq_jump 9 rfl rfl rfl ?_
   conv => whnf
   refine ⟨_, block_cells hs3.box (off := 0 + 2) (x := intV i.a) rfl, ?_⟩
   conv => whnf
   refine ⟨_, block_cells hs3.box (off := 0 + 1) (x := intV i.d) rfl, ?_⟩
   conv => whnf
   refine ⟨_, block_cells hs3.box (off := 0 + 4) (x := .int .u32 i.imm) rfl, ?_⟩
   conv => whnf
   obtain ⟨vO1, k1, k2⟩ := hs3.step
   refine jmp_add k1 [⟨18, 0, i.a, i.d, i.imm⟩] 0 1 rfl rfl (by omega) fun w5 hl => ?_
   have hs5 := k2 _ _ hl
   conv => whnf
   have hb : qBody i at_ = [⟨18, 0, i.a, i.d, i.imm⟩] := by unfold qBody; rw [ho]; rfl
   have ht : qTail i at_ = none := by unfold qTail; rw [ho]; rfl
   rw [hb, ht]
   exact atq_block (atq_midW () (aI rfl (aI rfl (aI rfl (aI rfl trivial)))) fun r w5 hR => ⟨hs5.later hR.toBelow, rfl⟩)
  have n25 : ¬ i.op = 25 := by simpa using hc
  clear hc
  refine satq_seqN ?_
  conv => whnf
  refine satq_cond rfl (fun hc => ?_) (fun hc => ?_)
  ·have ho : i.op = 26 := by simpa using hc
   refine satq_jump 9 rfl rfl rfl ?_
   conv => whnf
   refine ⟨_, block_cells hs3.box (off := 0 + 2) (x := intV i.a) rfl, ?_⟩
   conv => whnf
   refine ⟨_, block_cells hs3.box (off := 0 + 1) (x := intV i.d) rfl, ?_⟩
   conv => whnf
   refine ⟨_, block_cells hs3.box (off := 0 + 4) (x := .int .u32 i.imm) rfl, ?_⟩
   conv => whnf
   obtain ⟨vO1, k1, k2⟩ := hs3.step
   refine jmp_add k1 [⟨19, 0, i.a, i.d, i.imm⟩] 0 1 rfl rfl (by omega) fun w5 hl => ?_
   have hs5 := k2 _ _ hl
   conv => whnf
   have hb : qBody i at_ = [⟨19, 0, i.a, i.d, i.imm⟩] := by unfold qBody; rw [ho]; rfl
   have ht : qTail i at_ = none := by unfold qTail; rw [ho]; rfl
   rw [hb, ht]
   exact atq_block (atq_midW () (aI rfl (aI rfl (aI rfl (aI rfl trivial)))) fun r w5 hR => ⟨hs5.later hR.toBelow, rfl⟩)
  have n26 : ¬ i.op = 26 := by simpa using hc
  clear hc
  refine satq_seqN ?_
  conv => whnf
  refine satq_cond rfl (fun hc => ?_) (fun hc => ?_)
  ·have ho : i.op = 27 := by simpa using hc
   refine satq_in (satq_jump 10 rfl rfl rfl ?_)
   conv => whnf
   refine ⟨_, block_cells hs3.box (off := 0 + 4) (x := .int .u32 i.imm) rfl, ?_⟩
   conv => whnf
   refine ⟨_, block_cells hs3.box (off := 0 + 2) (x := intV i.a) rfl, ?_⟩
   conv => whnf
   obtain ⟨vO1, k1, k2⟩ := hs3.step
   refine jmp_add k1 [⟨1, 21, 0, 0, i.imm⟩, ⟨3, 20, i.a, 21, 0⟩, ⟨1, 21, 0, 0, 4294967292⟩, ⟨5, 20, 20, 21, 0⟩] 0 4 rfl rfl (by omega) fun w5 hl => ?_
   have hs5 := k2 _ _ hl
   conv => whnf
   refine atq_on ?_
   refine satq_in (satq_jump 5 rfl rfl rfl ?_)
   conv => whnf
   refine ⟨_, block_cells hs5.box (off := 0 + 1) (x := intV i.d) rfl, ?_⟩
   conv => whnf
   refine ⟨cut32 (at_ + 4), by rw [wr32]; rfl, ?_⟩
   conv => whnf
   refine lift_jmp (l ++ [⟨1, 21, 0, 0, i.imm⟩, ⟨3, 20, i.a, 21, 0⟩, ⟨1, 21, 0, 0, 4294967292⟩, ⟨5, 20, 20, 21, 0⟩] ++ qSet i.d (cut32 (at_ + 4))) hs5 (by rfl) (by kernel_rfl) (fun w3 vO1 k => set_walkL k i.d _ (by rw [List.length_append]; simp; omega)) fun w6 hs6 => ?_
   conv => whnf
   refine atq_on ?_
   have hlq : (qSet i.d (cut32 (at_ + 4))).length ≤ 1 := by unfold qSet; split <;> simp
   refine satq_in (satq_jump 3 rfl rfl rfl ?_)
   conv => whnf
   obtain ⟨vO2, k3, k4⟩ := hs6.step
   refine jmp_add k3 [⟨25, 0, 20, 0, 0⟩] 0 1 rfl rfl (by rw [List.length_append, List.length_append]; simp; omega) fun w7 hl => ?_
   have hs7 := k4 _ _ hl
   conv => whnf
   refine atq_on ?_
   refine satq_seqN ?_
   conv => whnf
   refine satq_vcN ?_
   conv => whnf
   refine atq_up (atq_ret ?_) fun a w hq => hq
   conv => whnf
   have hb : qBody i at_ = [⟨1, 21, 0, 0, i.imm⟩, ⟨3, 20, i.a, 21, 0⟩, ⟨1, 21, 0, 0, 4294967292⟩, ⟨5, 20, 20, 21, 0⟩] ++ qSet i.d (cut32 (at_ + 4)) := by unfold qBody; rw [ho]; rfl
   have ht : qTail i at_ = some [⟨25, 0, 20, 0, 0⟩] := by unfold qTail; rw [ho]; rfl
   rw [hb, ht]
   exact fin_val rfl fun w5 hB => ⟨rfl, by simpa using (hs7.lift.early hB1).later hB⟩
  have n27 : ¬ i.op = 27 := by simpa using hc
  clear hc
  refine satq_seqN ?_
  conv => whnf
  refine satq_cond rfl (fun hc => ?_) (fun hc => ?_)
  ·have ho : i.op = 40 := by simpa using hc
   refine satq_in (satq_jump 5 rfl rfl rfl ?_)
   conv => whnf
   refine ⟨_, block_cells hs3.box (off := 0 + 1) (x := intV i.d) rfl, ?_⟩
   conv => whnf
   refine ⟨cut32 (at_ + 4), by rw [wr32]; rfl, ?_⟩
   conv => whnf
   refine lift_jmp (l ++ qSet i.d (cut32 (at_ + 4))) hs3 (by rfl) (by kernel_rfl) (fun w3 vO1 k => set_walkL k i.d _ (by omega)) fun w6 hs6 => ?_
   conv => whnf
   refine atq_on ?_
   have hlq : (qSet i.d (cut32 (at_ + 4))).length ≤ 1 := by unfold qSet; split <;> simp
   refine satq_in (satq_jump 8 rfl rfl rfl ?_)
   conv => whnf
   refine ⟨_, block_cells hs6.box (off := 0 + 4) (x := .int .u32 i.imm) rfl, ?_⟩
   conv => whnf
   refine ⟨_, wr32 _, ?_⟩
   conv => whnf
   refine ⟨cut32 (at_ + 4 * i.imm), by rw [wr32]; unfold cut32; omega, ?_⟩
   conv => whnf
   obtain ⟨vO2, k3, k4⟩ := hs6.step
   refine jmp_add k3 [⟨24, 0, 0, 0, cut32 (at_ + 4 * i.imm)⟩] 0 1 rfl rfl (by rw [List.length_append]; omega) fun w7 hl => ?_
   have hs7 := k4 _ _ hl
   conv => whnf
   refine atq_on ?_
   refine satq_seqN ?_
   conv => whnf
   refine satq_vcN ?_
   conv => whnf
   refine atq_up (atq_ret ?_) fun a w hq => hq
   conv => whnf
   have hb : qBody i at_ = qSet i.d (cut32 (at_ + 4)) := by unfold qBody; rw [ho]; rfl
   have ht : qTail i at_ = some [⟨24, 0, 0, 0, cut32 (at_ + 4 * i.imm)⟩] := by unfold qTail; rw [ho]; rfl
   rw [hb, ht]
   exact fin_val rfl fun w5 hB => ⟨rfl, by simpa using (hs7.lift.early hB1).later hB⟩
  have n40 : ¬ i.op = 40 := by simpa using hc
  clear hc
  refine satq_midW (α := Bool) (fun y => [(0, one (pV g)), (2, one (.int .u32 at_)), (4, one (pV pi)), (6, one (.bool false)), (127, one (.bool y))]) (fun y w5 => LSt w1 w5 g vA vP vO l pi (qiL i) qiT ∧ y = decide (32 ≤ i.op ∧ i.op ≤ 37)) ?_ fun y w5 hs5 => ?_
  ·refine satq_seqN ?_
   conv => whnf
   refine satq_cond rfl (fun hc => ?_) (fun hc => ?_)
   ·have ho : i.op = 32 := by simpa using hc
    exact satq_skip (atq_midW _ (aI rfl (aI rfl (aI rfl (aI rfl (aI rfl trivial))))) fun r w5 hR => ⟨hs3.later hR.toBelow, by rw [ho]; rfl⟩)
   have n32 : ¬ i.op = 32 := by simpa using hc
   clear hc
   refine satq_seqN ?_
   conv => whnf
   refine satq_cond rfl (fun hc => ?_) (fun hc => ?_)
   ·have ho : i.op = 33 := by simpa using hc
    exact satq_skip (atq_midW _ (aI rfl (aI rfl (aI rfl (aI rfl (aI rfl trivial))))) fun r w5 hR => ⟨hs3.later hR.toBelow, by rw [ho]; rfl⟩)
   have n33 : ¬ i.op = 33 := by simpa using hc
   clear hc
   refine satq_seqN ?_
   conv => whnf
   refine satq_cond rfl (fun hc => ?_) (fun hc => ?_)
   ·have ho : i.op = 34 := by simpa using hc
    exact satq_skip (atq_midW _ (aI rfl (aI rfl (aI rfl (aI rfl (aI rfl trivial))))) fun r w5 hR => ⟨hs3.later hR.toBelow, by rw [ho]; rfl⟩)
   have n34 : ¬ i.op = 34 := by simpa using hc
   clear hc
   refine satq_seqN ?_
   conv => whnf
   refine satq_cond rfl (fun hc => ?_) (fun hc => ?_)
   ·have ho : i.op = 35 := by simpa using hc
    exact satq_skip (atq_midW _ (aI rfl (aI rfl (aI rfl (aI rfl (aI rfl trivial))))) fun r w5 hR => ⟨hs3.later hR.toBelow, by rw [ho]; rfl⟩)
   have n35 : ¬ i.op = 35 := by simpa using hc
   clear hc
   refine satq_seqN ?_
   conv => whnf
   refine satq_cond rfl (fun hc => ?_) (fun hc => ?_)
   ·have ho : i.op = 36 := by simpa using hc
    exact satq_skip (atq_midW _ (aI rfl (aI rfl (aI rfl (aI rfl (aI rfl trivial))))) fun r w5 hR => ⟨hs3.later hR.toBelow, by rw [ho]; rfl⟩)
   have n36 : ¬ i.op = 36 := by simpa using hc
   clear hc
   refine satq_vcN ?_
   conv => whnf
   exact atq_midW _ (aI rfl (aI rfl (aI rfl (aI rfl (aI rfl trivial))))) fun r w5 hR => ⟨hs3.later hR.toBelow, by rw [Bool.eq_iff_iff]; simp; omega⟩
  obtain ⟨hs5, hy⟩ := hs5
  refine satq_cond rfl (fun hc => ?_) (fun hc => ?_)
  ·have ho : 32 ≤ i.op ∧ i.op ≤ 37 := by rw [hy] at hc; simpa using hc
   refine satq_in (satq_jump 3 rfl rfl rfl ?_)
   conv => whnf
   refine ⟨_, block_all hs5.box, rfl, ?_⟩
   conv => whnf
   refine lift_jmp (l ++ branchL i at_) hs5 (by rfl) (by kernel_rfl) (fun w3 vO1 k => branch_walk i at_ k ho (by omega)) fun w6 hs6 => ?_
   conv => whnf
   refine atq_on ?_
   refine satq_seqN ?_
   conv => whnf
   refine satq_vcN ?_
   conv => whnf
   refine atq_up (atq_ret ?_) fun a w hq => hq
   conv => whnf
   have hb : qBody i at_ = qTest i := by
    unfold qBody
    rw [if_neg (by rw [hq]; simp), if_neg (by omega), if_neg (by omega), if_neg (by omega), if_neg (by omega), if_neg (by omega), if_neg (by omega), if_neg (by omega), if_pos ho]
   have ht : qTail i at_ = some [⟨23, 0, 20, 0, cut32 (at_ + 4 * i.imm)⟩, ⟨24, 0, 0, 0, cut32 (at_ + 4)⟩] := by
    unfold qTail
    rw [if_neg (by rw [hq]; simp), if_neg (by omega), if_neg (by omega), if_neg (by omega), if_pos ho]
   rw [hb, ht]
   exact fin_val rfl fun w5 hB => ⟨rfl, by simpa [branchL] using (hs6.lift.early hB1).later hB⟩
  ·have ho : ¬ (32 ≤ i.op ∧ i.op ≤ 37) := by rw [hy] at hc; simpa using hc
   refine satq_in (satq_jump 3 rfl rfl rfl ?_)
   conv => whnf
   obtain ⟨vO1, k1, k2⟩ := hs5.step
   refine jmp_add k1 [⟨22, 0, 0, 0, 0⟩] 0 1 rfl rfl (by omega) fun w6 hl => ?_
   have hs6 := k2 _ _ hl
   conv => whnf
   refine atq_on ?_
   refine satq_seqN ?_
   conv => whnf
   refine satq_vcN ?_
   conv => whnf
   refine atq_up (atq_ret ?_) fun a w hq => hq
   conv => whnf
   have hb : qBody i at_ = [] := by
    unfold qBody
    rw [if_neg (by rw [hq]; simp), if_neg (by omega), if_neg (by omega), if_neg (by omega), if_neg (by omega), if_neg (by omega), if_neg (by omega), if_neg (by omega), if_neg ho]
   have ht : qTail i at_ = some [⟨22, 0, 0, 0, 0⟩] := by
    unfold qTail
    rw [if_neg (by rw [hq]; simp), if_neg (by omega), if_neg (by omega), if_neg (by omega), if_neg ho]
   rw [hb, ht]
   exact fin_val rfl fun w5 hB => ⟨rfl, by simpa using (hs6.lift.early hB1).later hB⟩
 obtain ⟨hs4, ht⟩ := hs4
 refine satq_seqN ?_
 conv => whnf
 refine satq_vcN ?_
 conv => whnf
 refine atq_ret ?_
 conv => whnf
 rw [ht]
 exact fin_val rfl fun w5 hB => ⟨rfl, by simpa using (hs4.lift.early hB1).later hB⟩
end
end Go.Proofs.YtnhdcclpjildjaaGreat
namespace Go.Proofs.YtnhdcclpjildjaaGreat
open Go.RowKit

def killK (P : Program) (w0 : World) (G : Gs) (o : Oper) (f : Fr) (S : List Ow) (K : AV → Fr → List Ow → Prop) : Prop :=
 match o.op with
 | .call ⟨.value fn, args, _⟩ => (match f.ev fn with
  | .p (.c (.clo (.func fid) [])) => evL f args.toList fun vs => KillS P w0 G fid vs f S K
  | _ => False)
 | _ => False
section
variable {P : Program} {w0 : World} {G : Gs} {N : Nd} {c d : Code} {f : Fr} {S : List Ow} {Q : Exit → Act → World → Prop}
theorem killK_sound {o : Oper} {K : AV → Fr → List Ow → Prop} (h : killK P w0 G o f S K) {r : Env} {w : World} (hR : Rel w0 G S r w) {a : Act} (hf : FDen r f a) {next : Act → World → Prop} (hK : ∀ u x f2 S2 r2 w', Rel w0 G S2 r2 w' → FDen r2 f2 a → x.den r2 u → K x f2 S2 → next (a.put o.dst u) w') : Oper.se P o a w next := by
 unfold killK at h
 split at h
 ·rename_i fn args tys hop
  have hfn := hf.ev fn
  split at h
  ·rename_i fid he
   rw [he] at hfn
   obtain ⟨us, hu, hcap⟩ := den_clo hfn
   simp only [denL] at hcap
   subst hcap
   rw [evL_iff] at h
   obtain ⟨hok, hc⟩ := h
   have hrun : (execOp a.eval o).run P w = .ok (.enter fid (args.map a.eval)) w := by
    simp [execOp, hop, resolve, Deferred.ofValue, hu, invoke, run_callFunc hok]
   refine wp_of_enter hrun ?_
   have := hc r w (args.toList.map a.eval) hR (avdenL_ev hf _)
   rw [show (args.toList.map a.eval).toArray = args.map a.eval by apply Array.ext'; simp] at this
   exact Calls.mono this fun e w' ⟨u, x, f2, S2, r2, he, h1, h2, h3, hk⟩ => ⟨u, he, hK u x f2 S2 r2 w' h1 (h2 a hf) h3 hk⟩
  ·exact h.elim
 ·exact h.elim
theorem satq_kill {id : Nat} {ops : Array Oper} (k : Nat) {o : Oper} (hk : ops.toList.drop k = o :: ops.toList.drop (k + 1)) (hg : o.guard = none) (hdst : dstOk N.n o.dst = true)
  (h : guardedN P w0 G N ops (ops.toList.take k) f S fun f1 S1 => killK P w0 G o f1 S1 fun x f2 S2 => guardedN P w0 G N ops (ops.toList.drop (k + 1)) (f2.put o.dst x) S2 fun f3 S3 => AtQ w0 G N .normal f3 S3 Q) : SatQ P w0 G N (.region id ops false) f S Q :=
 ⟨fun a w hgd => wpIn_region_list (wpListIn_split none 10 k (guardedN_sound (Q := fun a w => ∃ f1 S1, (killK P w0 G o f1 S1 fun x f2 S2 => guardedN P w0 G N ops (ops.toList.drop (k + 1)) (f2.put o.dst x) S2 fun f3 S3 => AtQ w0 G N .normal f3 S3 Q) ∧ Good w0 G N f1 S1 a w) _ f S _ h (fun f' S' a' w' hk' hg' => ⟨f', S', hk', hg'⟩) a w hgd) (by
  rintro a w ⟨f1, S1, hj, r, hR, hf, hN, hd⟩
  rw [hk]
  unfold wpListIn
  rw [if_pos (wanted_none hg _)]
  refine se_wpIn none 10 (next := fun a w => wpListIn (fenceR none) 10 P ops Q (ops.toList.drop (k + 1)) a w) (killK_sound hj hR hf fun u x f2 S2 r2 w' h1 h2 h3 hq => ?_) (fun a w h => h)
  exact seL_wpIn none 10 (guardedN_sound _ _ _ _ hq (fun f' S' a' w' hk' hg' => hk'.out a' w' hg') _ _ ⟨r2, h1, h2.put h3 (by rw [hN]; exact hdst), (put_size a _ _).trans hN, (put_defers a _ _).trans hd⟩)))⟩
end
theorem kill_row {P : Program} {w0 : World} {G : Gs} {f : Fr} {S : List Ow} {K : AV → Fr → List Ow → Prop} {fid : FuncId} {e : TypeId} {size n n' : Nat} {xs xs' : List Value} (i : Nat) (hi : S[i]? = some (.row e size n xs)) (hG : G.fix.length ≤ i) (hok : fnOk P fid = true)
  (h : ∀ w v, w.ownsRow 0 e size v n xs → Calls P fid #[v] w fun en w' => ∃ v', en = .returned v' ∧ w'.ownsRow 0 e size v' n' xs' ∧ w.grownBy w' v.ownBlock ∧ v'.ownBlock = v.ownBlock)
  (hK : forceL ((killS i S).set i (.row e size n' xs')) fun S2 => fillF i f fun f2 => K (.p (.c (.row i))) f2 S2) : KillS P w0 G fid [.p (.c (.row i))] f S K := by
 rw [forceL_iff, fillF_iff] at hK
 refine ⟨hok, fun r w us hR hd => ?_⟩
 obtain ⟨u1, l1, rfl, d1, d2⟩ := hd
 obtain rfl : l1 = [] := d2
 obtain ⟨v, e1, e2, e3⟩ := hR.own i _ hi
 have d1 := den_row d1
 rw [e1] at d1; injection d1 with d1; subst d1
 refine (h w v e3).mono fun en w' ⟨v', he, ho, hg, hb⟩ => ?_
 obtain ⟨k1, k2⟩ := hR.append hi hG e1 ho hg (.inl hb)
 exact ⟨v', _, _, _, _, he, k1, fun a hf => hf.kill k2, by simp [AV.den, Pc.den, CV.den, Env.set], hK⟩
theorem ent_field {w0 : World} {G : Gs} {N : Nd} {f : Fr} {S : List Ow} (i k : Nat) {t : TypeId} {l : List CV} (e : TypeId) (size : Nat) (hi : S[i]? = some (.cells t l)) (hk : l[k]? = some (.v (.slice none 0 0))) : Ent w0 G N f S f (S.set i (.cells t (l.set k (.row S.length))) ++ [.row e size 0 []]) := ⟨fun a w ⟨r, hR, hf, hN, hd⟩ => by
 have hle := hR.le_new none (some (.slice none 0 0))
 have hil : i < S.length := by
  rcases Nat.lt_or_ge i S.length with h1 | h1
  ·exact h1
  ·rw [List.getElem?_eq_none h1] at hi; cases hi
 have hR2 := hR.snoc (Below.refl _ _) (b := none) (v := some (.slice none 0 0)) (o := .row e size 0 []) nofun ⟨.slice none 0 0, by simp [Env.set], by simp [Env.set, Value.ownBlock], by simp, .inl ⟨rfl, rfl⟩⟩
 obtain ⟨b, us, e1, e2, e3⟩ := hR2.own i (.cells t l) (by rw [List.getElem?_append_left hil]; exact hi)
 obtain ⟨u, h1, h2⟩ := denL_at e3 hk
 have h2 : u = .slice none 0 0 := by simpa only [CV.den] using h2
 subst h2
 have h3 := denL_set (c := .row S.length) (u := .slice none 0 0) k e3 (by simp [CV.den, Env.set])
 have h4 : us.set k (.slice none 0 0) = us := by
  refine List.ext_getElem? fun j => ?_
  rw [List.getElem?_set]
  split
  ·rename_i hj; subst hj
   split
   ·exact h1.symm
   ·rename_i hlt; rw [List.getElem?_eq_none (by omega)] at h1; cases h1
  ·rfl
 rw [h4] at h3
 have hR3 := rel_setSame hR2 (i := i) (o := .cells t (l.set k (.row S.length))) ⟨b, us, e1, e2, h3⟩
 rw [List.set_append_left _ _ hil] at hR3
 exact ⟨_, hR3, hf.mono hle, hN, hd⟩⟩
end Go.Proofs.YtnhdcclpjildjaaGreat
