/- Walks: the program's memory: Fetch. -/
import Derived.Test.YtnhdcclpjildjaaGreatC14
namespace Go.Proofs.YtnhdcclpjildjaaGreat
open Go.RowKit

section
variable {B m sb : Nat} {img : Nat → List Int}
set_option maxRecDepth 100000 in
theorem image_walk {w : World} {l : List Slt} (h : MemAt2 w B m sb l img) {k : Nat} {s : Slt} (hk : l[k]? = some s) :
  Calls Tryz.prog 164 #[.pointer (some ⟨sb, 7 * k, none⟩)] w fun e w' => e = .returned (ptrV s.c) ∧ Below w.heap.size w w' := by
 refine calls_valN [.pointer (some ⟨sb, 7 * k, none⟩)] Tryz.func164 Tryz.ntmps164 rfl (by simp) ?_
 conv => whnf
 refine ⟨_, block_cells h.hs (off := 7 * k + 1) (slotsL_get (j := 1) hk rfl), ?_⟩
 conv => whnf
 refine q_nil_v _ rfl rfl rfl rfl ?_
 conv => whnf
 (repeat ((first | apply k1 | apply k2 | apply k3 | apply k4 | refine k5 (by decide) ?_ | refine k6 (by decide) ?_); conv => whnf))
 conv => whnf
 refine ⟨_, block_cells h.hs (off := 7 * k + 1) (slotsL_get (j := 1) hk rfl), ?_⟩
 conv => whnf
 exact fin_val rfl fun w' hB => ⟨rfl, hB⟩
def fetchL (l : List Slt) (img : Nat → List Int) (a : Int) : Option Int := match l[(a / 256).toNat]? with
 | none => none
 | some s => if s.r / 4 % 2 = 1 then some (((img (a / 256).toNat)[(a % 256).toNat]?).getD 0) else none
abbrev fetV (x : Option Int) : Value := .tuple #[.int .u8 (x.getD 0), .bool x.isSome]
theorem and_four_b {r : Int} (h : 0 ≤ r ∧ r < 8) : (bits .and .i64 r 4 == 0) = !decide (r / 4 % 2 = 1) := by
 rcases (by omega : r = 0 ∨ r = 1 ∨ r = 2 ∨ r = 3 ∨ r = 4 ∨ r = 5 ∨ r = 6 ∨ r = 7) with rfl | rfl | rfl | rfl | rfl | rfl | rfl | rfl <;> rfl
set_option maxRecDepth 100000 in
theorem fetchM_walk {w : World} {l : List Slt} (h : MemAt2 w B m sb l img) (a : Int) (ha : word a) (hr : ∀ s ∈ l, 0 ≤ s.r ∧ s.r < 8) :
  Calls Tryz.prog 163 #[ptrV m, .int .u32 a] w fun e w' => e = .returned (fetV (fetchL l img a)) ∧ Below w.heap.size w w' := by
 have hw : 0 ≤ a ∧ a < 4294967296 := ha
 refine calls_satq [ptrV m, .int .u32 a] Tryz.func163 Tryz.ntmps163 rfl (by simp) ?_
 refine satq_seqN ?_
 conv => whnf
 refine satq_seqN ?_
 conv => whnf
 refine call_con rfl (by kernel_rfl) (fun r w' hR => at_mem a (by rw [hR.toBelow.block _ (heap_lt h.hm)]; exact h.hm) ha) ?_
 by_cases hlt : a / 256 < (l.length : Int)
 ·obtain ⟨k, hk⟩ : ∃ k : Nat, (a / 256).toNat = k := ⟨_, rfl⟩
  have hkl : k < l.length := by omega
  obtain ⟨s, hs⟩ : ∃ s, l[k]? = some s := ⟨_, List.getElem?_eq_getElem hkl⟩
  obtain ⟨hp, _⟩ := h.cp k s hs
  have hat : atV sb l.length a = .pointer (some ⟨sb, 7 * k, none⟩) := by unfold atV; rw [if_pos hlt, hk]; congr 3; omega
  have hoff : 0 ≤ a % 256 ∧ a % 256 < 256 := by omega
  obtain ⟨x, hx⟩ : ∃ x, (img k)[(a % 256).toNat]? = some x := ⟨_, List.getElem?_eq_getElem (by rw [hp.len]; omega)⟩
  have hfl : fetchL l img a = if s.r / 4 % 2 = 1 then some x else none := by unfold fetchL; rw [hk, hs]; dsimp only; rw [hx]; rfl
  rw [hat, hfl]
  conv => whnf
  refine satq_seqN ?_
  conv => whnf
  refine q_nil_v _ rfl rfl rfl rfl ?_
  conv => whnf
  (repeat ((first | apply k1 | apply k2 | apply k3 | apply k4 | refine k5 (by decide) ?_ | refine k6 (by decide) ?_); conv => whnf))
  refine ⟨_, block_cells h.hs (off := 7 * k + 6) (slotsL_get (j := 6) hs rfl), ?_⟩
  conv => whnf
  (repeat ((first | apply k1 | apply k2 | apply k3 | apply k4 | refine k5 (by decide) ?_ | refine k6 (by decide) ?_); conv => whnf))
  refine ⟨_, rfl, ?_⟩
  conv => whnf
  (repeat ((first | apply k1 | apply k2 | apply k3 | apply k4 | refine k5 (by decide) ?_ | refine k6 (by decide) ?_); conv => whnf))
  rw [and_four_b (hr s (List.mem_of_getElem? hs))]
  by_cases h4 : s.r / 4 % 2 = 1
  ·rw [if_pos h4, decide_eq_true h4]
   (repeat ((first | apply k1 | apply k2 | apply k3 | apply k4 | refine k5 (by decide) ?_ | refine k6 (by decide) ?_); conv => whnf))
   conv => whnf
   refine satq_vcN ?_
   conv => whnf
   refine call_con rfl (by kernel_rfl) (fun r w' hR => image_walk (h.later hR.toBelow) hs) ?_
   conv => whnf
   refine ⟨by decide, a % 256, Int.tmod_eq_emod_of_nonneg hw.1, ?_⟩
   conv => whnf
   refine q_index_ptr (size := 1) s.c 0 256 (a % 256) rfl rfl rfl rfl rfl rfl hoff.1 hoff.2 ?_
   conv => whnf
   refine ⟨_, block_cells hp.at_ (off := 0 + (a % 256).toNat * 1) (x := byteV x) (by rw [Nat.zero_add, Nat.mul_one, List.getElem?_map, hx]; rfl), ?_⟩
   conv => whnf
   refine atq_ret ?_
   conv => whnf
   exact fin_val rfl fun w' hB => ⟨rfl, hB⟩
  ·rw [if_neg h4, decide_eq_false h4]
   (repeat ((first | apply k1 | apply k2 | apply k3 | apply k4 | refine k5 (by decide) ?_ | refine k6 (by decide) ?_); conv => whnf))
   conv => whnf
   refine atq_ret ?_
   conv => whnf
   exact fin_val rfl fun w' hB => ⟨rfl, hB⟩
 ·have hat : atV sb l.length a = .pointer none := by unfold atV; rw [if_neg hlt]
  have hfl : fetchL l img a = none := by unfold fetchL; rw [List.getElem?_eq_none (by omega)]
  rw [hat, hfl]
  conv => whnf
  refine satq_seqN ?_
  conv => whnf
  refine q_nil_v _ rfl rfl rfl rfl ?_
  conv => whnf
  (repeat ((first | apply k1 | apply k2 | apply k3 | apply k4 | refine k5 (by decide) ?_ | refine k6 (by decide) ?_); conv => whnf))
  refine atq_ret ?_
  conv => whnf
  exact fin_val rfl fun w' hB => ⟨rfl, hB⟩
end
end Go.Proofs.YtnhdcclpjildjaaGreat
namespace Go.Proofs.YtnhdcclpjildjaaGreat
open Go.RowKit

def MemP.img (M : MemP) (k : Nat) : List Int := (M.image.drop (256 * k)).take 256
def imgTo (M : MemP) (j k : Nat) : List Int := if k < j then M.img k else zpage
theorem imgTo_succ (M : MemP) (j : Nat) : (fun k => if k = j then M.img j else imgTo M j k) = imgTo M (j + 1) := by
 funext k
 unfold imgTo
 by_cases h : k = j
 ·subst h; rw [if_pos rfl, if_pos (by omega)]
 ·rw [if_neg h]
  by_cases h2 : k < j
  ·rw [if_pos h2, if_pos (by omega)]
  ·rw [if_neg h2, if_neg (by omega)]
theorem img_length {M : MemP} {n p k : Nat} (hM : M.ok n p) (hk : k < p) : (M.img k).length = 256 := by
 have := hM.np
 unfold MemP.img
 rw [List.length_take, List.length_drop, hM.li]; omega
theorem img_byte {M : MemP} {n p : Nat} (hM : M.ok n p) (k : Nat) : ∀ x ∈ M.img k, 0 ≤ x ∧ x < 256 := fun x hx => hM.ib x (List.mem_of_mem_drop (List.mem_of_mem_take hx))
theorem page_byte {M : MemP} {n p : Nat} (hM : M.ok n p) (k : Nat) : ∀ x ∈ M.page k, 0 ≤ x ∧ x < 256 := fun x hx => hM.db x (List.mem_of_mem_drop (List.mem_of_mem_take hx))
theorem rightsAt_range {M : MemP} {n p : Nat} (hM : M.ok n p) (k : Nat) : 0 ≤ M.rightsAt k ∧ M.rightsAt k < 8 := by
 unfold MemP.rightsAt
 cases h : M.rights[k]? with
 | none => simp
 | some x => exact hM.rb x (List.mem_of_getElem? h)
structure MadeTo (w w' : World) (m sb p : Nat) (M : MemP) (j q : Nat) (l : List Slt) : Prop where
 mem : MemAt2 w' w.heap.size m sb l (imgTo M j)
 len : l.length = p
 slots : ∀ (k : Nat) (s : Slt), l[k]? = some s → (k < q → s.r = M.rightsAt k) ∧ (j ≤ k → s.oc = false) ∧ 0 ≤ s.r ∧ s.r < 8
 below : Below w.heap.size w w'
theorem MadeTo.later {w w' w2 : World} {m sb p : Nat} {M : MemP} {j q : Nat} {l : List Slt} (h : MadeTo w w' m sb p M j q l) (hB : Below w'.heap.size w' w2) : MadeTo w w2 m sb p M j q l :=
 ⟨h.mem.later hB, h.len, h.slots, h.below.trans (hB.mono h.below.size)⟩
theorem keep_slots {l l' : List Slt} (h : keepS l l') {k : Nat} {s : Slt} (hs : l'[k]? = some s) : ∃ y, l[k]? = some y ∧ s.r = y.r ∧ s.oc = y.oc := by
 have := h.2 k
 rw [hs] at this
 cases hy : l[k]? with
 | none => rw [hy] at this; cases this
 | some y =>
  rw [hy] at this
  simp at this
  exact ⟨y, rfl, this.1, this.2⟩
section
variable {w : World} {g n p : Nat} {gs : List Nat} {M : MemP}
theorem mem_image_at (hU : ObjsAt w (g :: gs) (memS 0 n p M)) : ∃ g2, CellsAt w Gs.nil g 1 [.slice (some ⟨g2, 0, none⟩) n (n + M.ti.length)] ∧ CellsAt w Gs.nil g2 0 (M.image.map byteV) := by
 obtain ⟨g0, g1, g2, g3, g4, g5, hg⟩ := six_blocks hU
 injection hg with hg0 hgs
 subst hgs; subst hg0
 obtain ⟨b, us, e1, e2, e3⟩ := hU.own 0 _ rfl
 obtain rfl : g = b := by injection e1
 obtain ⟨u1, l1, rfl, d1, u2, l2, rfl, d2, d3⟩ := e3
 obtain ⟨b2, f1, rfl⟩ := d2
 obtain ⟨c, vs, h1, h2, h3⟩ := hU.own 2 _ rfl
 obtain rfl : b2 = c := by rw [show (envOf [g, g1, g2, g3, g4, g5]).blk 2 = some b2 from f1] at h1; injection h1
 obtain rfl := denL_vals_inv h3
 exact ⟨b2, cells_one (heap_lt e2) (by simp) (by simp [World.cell?, e2]), ⟨heap_lt h2, by simp, fun j u hj => by
  have hi : j < (M.image.map byteV).length := by
   rcases Nat.lt_or_ge j (M.image.map byteV).length with h1 | h1
   ·exact h1
   ·rw [List.getElem?_eq_none h1] at hj; cases hj
  simp [World.cell?, h2]
  show (M.image.map byteV ++ M.ti)[j]? = some u
  rw [List.getElem?_append_left hi]; exact hj⟩⟩
end
end Go.Proofs.YtnhdcclpjildjaaGreat
namespace Go.Proofs.YtnhdcclpjildjaaGreat
open Go.RowKit

theorem block_all {w : World} {b : Nat} {us : List Value} {t : TypeId} (h : w.heap[b]? = some (.cells us.toArray t (0, 0))) : CellsAt w Gs.nil b 0 us :=
 cells_list (heap_lt h) (by simp) fun j u hj => by simp [World.cell?, h, hj]
section
variable {w : World} {g : Nat} {vA vP vO : Value} {l : List BOp} {pi : Nat}
theorem lift_jmp {w1 w2 : World} {S : List Ow} {K : Value → World → Prop} {pb : Nat} {us : List Value} {t : TypeId} {fid : FuncId} {args : List AV} {xs : List Value} (l2 : List BOp) (hs : LSt w1 w2 g vA vP vO l pb us t) (hx : avals args = some xs) (hok : fnOk Tryz.prog fid = true)
  (h : ∀ w3 vO1, LiftAt w3 g vA vP vO1 l → Calls Tryz.prog fid xs.toArray w3 fun e w4 => e = .returned (.tuple #[]) ∧ LiftTo w3 w4 g vA vP vO1 l2)
  (hK : ∀ w3, LSt w1 w3 g vA vP vO l2 pb us t → K (.tuple #[]) w3) : Jmp Tryz.prog w2 Gs.nil fid args S K := by
 obtain ⟨vO1, k1, k2⟩ := hs.step
 exact jmp_con (fun u w3 => u = .tuple #[] ∧ LSt w1 w3 g vA vP vO l2 pb us t) hx hok (fun r w3 hR => (h w3 vO1 (k1.later hR.toBelow)).mono fun e w4 ⟨he, hq⟩ => ⟨_, he, rfl, k2 _ _ (hq.early hR.toBelow)⟩) fun u w3 ⟨hu, hj⟩ => hu ▸ hK w3 hj
set_option maxRecDepth 100000 in
set_option maxHeartbeats 4000000 in
theorem instr_walk (i : QI) (at_ : Int) (h : LiftAt w g vA vP vO l) (hi : i.ok) (hlen : l.length ≤ 1000000) :
  Calls Tryz.prog 73 #[pV g, qiV i, .int .u32 at_] w fun e w' => e = .returned (.bool (qTail i at_).isNone) ∧ LiftTo w w' g vA vP vO (l ++ (qBody i at_ ++ (qTail i at_).getD [])) := by
 refine calls_satq [pV g, qiV i, .int .u32 at_] Tryz.func73 Tryz.ntmps73 rfl (by simp) ?_
 refine satq_seqN ?_
 conv => whnf
 refine satq_restart fun r w1 hR => ?_
 obtain ⟨pi, us, f1, f2, f3⟩ := hR.own 0 _ rfl
 obtain rfl := denL_vals_inv (us := qiL i) f3
 have hB1 := hR.toBelow
 have hs := box_ok h hB1 f2 (fresh_of hR f1)
 have h1 := h.later hB1
 refine ⟨slotFr [(0, pV g), (2, .int .u32 at_), (4, pV pi), (6, .bool false)], fun a' hf => slots_den ⟨slot_val hf rfl, slot_val hf rfl, slot_ref hf 4 rfl f1, slot_val hf rfl, trivial⟩, ?_⟩
 clear hR f3
 refine satq_seqN ?_
 conv => whnf
 refine ⟨_, block_cells hs.box (off := 0 + 1) (x := intV i.d) rfl, ?_⟩
 conv => whnf
 refine satq_midW (α := Unit) (fun _ => [(0, one (pV g)), (2, one (.int .u32 at_)), (4, one (pV pi)), (6, one (.bool false)), (7, one (intV (qTarget i.d)))]) (fun _ w2 => LSt w1 w2 g vA vP vO l pi (qiL i) qiT) ?_ fun _ w2 hs2 => ?_
 ·refine satq_seqN ?_
  conv => whnf
  refine satq_cond rfl (fun hc => ?_) (fun hc => ?_)
  ·have ho : i.d = 0 := by simpa using hc
   refine satq_vcN ?_
   conv => whnf
   have ht : qTarget i.d = 20 := by unfold qTarget; rw [if_pos ho]
   rw [ht]
   exact atq_midW () (aI rfl (aI rfl (aI rfl (aI rfl (aI rfl trivial))))) fun r w3 hR => hs.later hR.toBelow
  ·have ho : ¬ i.d = 0 := by simpa using hc
   have ht : qTarget i.d = i.d := by unfold qTarget; rw [if_neg ho]
   rw [ht]
   exact satq_skip (atq_midW () (aI rfl (aI rfl (aI rfl (aI rfl (aI rfl trivial))))) fun r w3 hR => hs.later hR.toBelow)
 refine satq_midW (α := Unit) (fun _ => [(0, one (pV g)), (2, one (.int .u32 at_)), (4, one (pV pi)), (6, one (.bool false)), (7, one (intV (qTarget i.d)))]) (fun _ w3 => LSt w1 w3 g vA vP vO l pi (qiL i) qiT ∧ qCode i.op = 0) ?_ fun _ w3 hs3 => ?_
 ·refine satq_midW (α := Unit) (fun _ => [(0, one (pV g)), (2, one (.int .u32 at_)), (4, one (pV pi)), (6, one (.bool false)), (7, one (intV (qTarget i.d))), (8, one (intV ((plainM i.op).getD 0))), (9, one (.bool (plainM i.op).isSome))]) (fun _ w3 => LSt w1 w3 g vA vP vO l pi (qiL i) qiT) ?_ fun _ w3 hs3 => ?_
  ·refine satq_vcN ?_
   conv => whnf
   refine sat_anyG (.q 1 (.q 2 (.alt 0 (.alt 3 (.alt 4 (.alt 5 (.alt 6 (.alt 7 (.alt 8 .done .no) .no) (.alt 7 (.alt 6 (.alt 8 .done .no) .no) .no)) (.alt 6 (.alt 5 (.alt 7 (.alt 8 .done .no) .no) .no) .no)) .no) .no) .no))) mixed (by kernel_rfl) (by kernel_rfl) ?_
   conv => whnf
   refine ⟨_, block_cells hs2.box (off := 0 + 0) (x := intV i.op) rfl, ?_⟩
   conv => whnf
   refine ⟨?_, trivial⟩
   conv => whnf
   refine call_newMap (R := i64R) (cd := i64D) (n := 19) (m := plainM) rfl (by kernel_rfl) (fun r w' hR => plain_walk w') ?_
   conv => whnf
   refine ⟨?_, trivial⟩
   conv => whnf
   refine q_look_i64 rfl 0 i.op rfl rfl rfl (wf_mid (by have := hi.op; unfold mid; omega)) ?_
   conv => whnf
   refine ⟨?_, trivial⟩
   conv => whnf
   have hend : ∀ {S : List Ow} r w3, Rel w2 Gs.nil S r w3 → LSt w1 w3 g vA vP vO l pi (qiL i) qiT := fun r w3 hR => hs2.later hR.toBelow
   refine ⟨?_, ?_, trivial⟩
   ·conv => whnf
    refine ⟨?_, ?_, trivial⟩
    ·conv => whnf
     refine ⟨?_, trivial⟩
     conv => whnf
     refine ⟨?_, trivial⟩
     conv => whnf
     exact atq_midW () (aI rfl (aI rfl (aI rfl (aI rfl (aI rfl (aI rfl (aI rfl trivial))))))) hend
    ·conv => whnf
     refine ⟨?_, trivial⟩
     conv => whnf
     refine ⟨?_, trivial⟩
     conv => whnf
     exact atq_midW () (aI rfl (aI rfl (aI rfl (aI rfl (aI rfl (aI rfl (aI rfl trivial))))))) hend
   ·conv => whnf
    refine ⟨?_, trivial⟩
    conv => whnf
    refine ⟨?_, trivial⟩
    conv => whnf
    refine ⟨?_, trivial⟩
    conv => whnf
    exact atq_midW () (aI rfl (aI rfl (aI rfl (aI rfl (aI rfl (aI rfl (aI rfl trivial))))))) hend
  refine satq_seqN ?_
  conv => whnf
  refine satq_cond rfl (fun hc => ?_) (fun hc => ?_)
  ·have hq : ¬ qCode i.op = 0 := fun hq => by rw [plainM, if_pos hq] at hc; exact absurd hc (by simp)
   have hm : (plainM i.op).getD 0 = qCode i.op := by unfold plainM; rw [if_neg hq]; rfl
   rw [hm]
   refine satq_in (satq_jump 3 rfl rfl rfl ?_)
   conv => whnf
   refine ⟨_, block_all hs3.box, rfl, ?_⟩
   conv => whnf
   refine lift_jmp (l ++ qArith i) hs3 (by rfl) (by kernel_rfl) (fun w3 vO1 k => arith_walk k i (by omega)) fun w3 hs3 => ?_
   conv => whnf
   refine atq_on ?_
   refine satq_seqN ?_
   conv => whnf
   refine satq_vcN ?_
   conv => whnf
   refine atq_ret_midW (atq_ret ?_)
   conv => whnf
   have hb : qBody i at_ = qArith i := by unfold qBody; rw [if_pos hq]
   have ht : qTail i at_ = none := by unfold qTail; rw [if_pos hq]
   rw [hb, ht]
   exact fin_val rfl fun w3 hB => ⟨rfl, by simpa using (hs3.lift.early hB1).later hB⟩
  ·have hq : qCode i.op = 0 := by
    rcases Classical.em (qCode i.op = 0) with hq | hq
    ·exact hq
    ·rw [plainM, if_neg hq] at hc; exact absurd hc (by simp)
   exact satq_skip (atq_midW () (aI rfl (aI rfl (aI rfl (aI rfl (aI rfl trivial))))) fun r w3 hR => ⟨hs3.later hR.toBelow, hq⟩)
 obtain ⟨hs3, hq⟩ := hs3
 refine satq_midW (α := Unit) (fun _ => [(0, one (pV g)), (2, one (.int .u32 at_)), (4, one (pV pi)), (6, one (.bool false))]) (fun _ w4 => LSt w1 w4 g vA vP vO (l ++ qBody i at_) pi (qiL i) qiT ∧ qTail i at_ = none) ?_ fun _ w4 hs4 => ?_
 ·refine satq_seqN ?_
  conv => whnf
  refine ⟨_, block_cells hs3.box (off := 0 + 0) (x := intV i.op) rfl, ?_⟩
  conv => whnf
  refine satq_block ?_
  refine satq_seqN ?_
  conv => whnf
  refine satq_cond rfl (fun hc => ?_) (fun hc => ?_)
  ·have ho : i.op = 41 := by simpa using hc
   refine satq_jump 6 rfl rfl rfl ?_
   conv => whnf
   refine ⟨_, block_cells hs3.box (off := 0 + 1) (x := intV i.d) rfl, ?_⟩
   conv => whnf
   refine ⟨_, block_cells hs3.box (off := 0 + 4) (x := .int .u32 i.imm) rfl, ?_⟩
   conv => whnf
   refine ⟨by omega, cut32 (i.imm * 1024), by rw [wr32]; rfl, ?_⟩
   conv => whnf
   refine lift_jmp (l ++ qSet i.d (cut32 (i.imm * 1024))) hs3 (by rfl) (by kernel_rfl) (fun w3 vO1 k => set_walkL k i.d _ (by omega)) fun w5 hs5 => ?_
   conv => whnf
   have hb : qBody i at_ = qSet i.d (cut32 (i.imm * 1024)) := by unfold qBody; rw [ho]; rfl
   have ht : qTail i at_ = none := by unfold qTail; rw [ho]; rfl
   rw [hb, ht]
   exact atq_block (atq_midW () (aI rfl (aI rfl (aI rfl (aI rfl trivial)))) fun r w5 hR => ⟨hs5.later hR.toBelow, rfl⟩)
  have n41 : ¬ i.op = 41 := by simpa using hc
  clear hc
  refine satq_seqN ?_
  conv => whnf
  refine satq_cond rfl (fun hc => ?_) (fun hc => ?_)
  ·have ho : i.op = 23 := by simpa using hc
   refine satq_jump 8 rfl rfl rfl ?_
   conv => whnf
   refine ⟨_, block_cells hs3.box (off := 0 + 2) (x := intV i.a) rfl, ?_⟩
   conv => whnf
   refine ⟨_, block_cells hs3.box (off := 0 + 4) (x := .int .u32 i.imm) rfl, ?_⟩
   conv => whnf
   obtain ⟨vO1, k1, k2⟩ := hs3.step
   refine jmp_add k1 [⟨16, qTarget i.d, i.a, 0, i.imm⟩] 0 1 rfl rfl (by omega) fun w5 hl => ?_
   have hs5 := k2 _ _ hl
   conv => whnf
   have hb : qBody i at_ = [⟨16, qTarget i.d, i.a, 0, i.imm⟩] := by unfold qBody; rw [ho]; rfl
   have ht : qTail i at_ = none := by unfold qTail; rw [ho]; rfl
   rw [hb, ht]
   exact atq_block (atq_midW () (aI rfl (aI rfl (aI rfl (aI rfl trivial)))) fun r w5 hR => ⟨hs5.later hR.toBelow, rfl⟩)
  have n23 : ¬ i.op = 23 := by simpa using hc
  clear hc
  refine satq_seqN ?_
  conv => whnf
  refine satq_cond rfl (fun hc => ?_) (fun hc => ?_)
  ·have ho : i.op = 24 := by simpa using hc
   refine satq_jump 8 rfl rfl rfl ?_
   conv => whnf
   refine ⟨_, block_cells hs3.box (off := 0 + 2) (x := intV i.a) rfl, ?_⟩
   conv => whnf
   refine ⟨_, block_cells hs3.box (off := 0 + 4) (x := .int .u32 i.imm) rfl, ?_⟩
   conv => whnf
   obtain ⟨vO1, k1, k2⟩ := hs3.step
   refine jmp_add k1 [⟨17, qTarget i.d, i.a, 0, i.imm⟩] 0 1 rfl rfl (by omega) fun w5 hl => ?_
   have hs5 := k2 _ _ hl
   conv => whnf
   have hb : qBody i at_ = [⟨17, qTarget i.d, i.a, 0, i.imm⟩] := by unfold qBody; rw [ho]; rfl
   have ht : qTail i at_ = none := by unfold qTail; rw [ho]; rfl
   rw [hb, ht]
   exact atq_block (atq_midW () (aI rfl (aI rfl (aI rfl (aI rfl trivial)))) fun r w5 hR => ⟨hs5.later hR.toBelow, rfl⟩)
  have n24 : ¬ i.op = 24 := by simpa using hc
  clear hc
  refine satq_seqN ?_
  conv => whnf
  refine satq_cond rfl (fun hc => ?_) (fun hc => ?_)
  ·have ho : i.op = 25 := by simpa using hc
   refine satq_jump 9 rfl rfl rfl ?_
   conv => whnf
   refine ⟨_, block_cells hs3.box (off := 0 + 2) (x := intV i.a) rfl, ?_⟩
   conv => whnf
   refine ⟨_, block_cells hs3.box (off := 0 + 1) (x := intV i.d) rfl, ?_⟩
   conv => whnf
   refine ⟨_, block_cells hs3.box (off := 0 + 4) (x := .int .u32 i.imm) rfl, ?_⟩
   conv => whnf
   obtain ⟨vO1, k1, k2⟩ := hs3.step
   refine jmp_add k1 [⟨18, 0, i.a, i.d, i.imm⟩] 0 1 rfl rfl (by omega) fun w5 hl => ?_
   have hs5 := k2 _ _ hl
   conv => whnf
   have hb : qBody i at_ = [⟨18, 0, i.a, i.d, i.imm⟩] := by unfold qBody; rw [ho]; rfl
   have ht : qTail i at_ = none := by unfold qTail; rw [ho]; rfl
   rw [hb, ht]
   exact atq_block (atq_midW () (aI rfl (aI rfl (aI rfl (aI rfl trivial)))) fun r w5 hR => ⟨hs5.later hR.toBelow, rfl⟩)
  have n25 : ¬ i.op = 25 := by simpa using hc
  clear hc
  refine satq_seqN ?_
  conv => whnf
  refine satq_cond rfl (fun hc => ?_) (fun hc => ?_)
  ·have ho : i.op = 26 := by simpa using hc
   refine satq_jump 9 rfl rfl rfl ?_
   conv => whnf
   refine ⟨_, block_cells hs3.box (off := 0 + 2) (x := intV i.a) rfl, ?_⟩
   conv => whnf
   refine ⟨_, block_cells hs3.box (off := 0 + 1) (x := intV i.d) rfl, ?_⟩
   conv => whnf
   refine ⟨_, block_cells hs3.box (off := 0 + 4) (x := .int .u32 i.imm) rfl, ?_⟩
   conv => whnf
   obtain ⟨vO1, k1, k2⟩ := hs3.step
   refine jmp_add k1 [⟨19, 0, i.a, i.d, i.imm⟩] 0 1 rfl rfl (by omega) fun w5 hl => ?_
   have hs5 := k2 _ _ hl
   conv => whnf
   have hb : qBody i at_ = [⟨19, 0, i.a, i.d, i.imm⟩] := by unfold qBody; rw [ho]; rfl
   have ht : qTail i at_ = none := by unfold qTail; rw [ho]; rfl
   rw [hb, ht]
   exact atq_block (atq_midW () (aI rfl (aI rfl (aI rfl (aI rfl trivial)))) fun r w5 hR => ⟨hs5.later hR.toBelow, rfl⟩)
  have n26 : ¬ i.op = 26 := by simpa using hc
  clear hc
  refine satq_seqN ?_
  conv => whnf
  refine satq_cond rfl (fun hc => ?_) (fun hc => ?_)
  ·have ho : i.op = 27 := by simpa using hc
   refine satq_in (satq_jump 10 rfl rfl rfl ?_)
   conv => whnf
   refine ⟨_, block_cells hs3.box (off := 0 + 4) (x := .int .u32 i.imm) rfl, ?_⟩
   conv => whnf
   refine ⟨_, block_cells hs3.box (off := 0 + 2) (x := intV i.a) rfl, ?_⟩
   conv => whnf
   obtain ⟨vO1, k1, k2⟩ := hs3.step
   refine jmp_add k1 [⟨1, 21, 0, 0, i.imm⟩, ⟨3, 20, i.a, 21, 0⟩, ⟨1, 21, 0, 0, 4294967292⟩, ⟨5, 20, 20, 21, 0⟩] 0 4 rfl rfl (by omega) fun w5 hl => ?_
   have hs5 := k2 _ _ hl
   conv => whnf
   refine atq_on ?_
   refine satq_in (satq_jump 5 rfl rfl rfl ?_)
   conv => whnf
   refine ⟨_, block_cells hs5.box (off := 0 + 1) (x := intV i.d) rfl, ?_⟩
   conv => whnf
   refine ⟨cut32 (at_ + 4), by rw [wr32]; rfl, ?_⟩
   conv => whnf
   refine lift_jmp (l ++ [⟨1, 21, 0, 0, i.imm⟩, ⟨3, 20, i.a, 21, 0⟩, ⟨1, 21, 0, 0, 4294967292⟩, ⟨5, 20, 20, 21, 0⟩] ++ qSet i.d (cut32 (at_ + 4))) hs5 (by rfl) (by kernel_rfl) (fun w3 vO1 k => set_walkL k i.d _ (by rw [List.length_append]; simp; omega)) fun w6 hs6 => ?_
   conv => whnf
   refine atq_on ?_
   have hlq : (qSet i.d (cut32 (at_ + 4))).length ≤ 1 := by unfold qSet; split <;> simp
   refine satq_in (satq_jump 3 rfl rfl rfl ?_)
   conv => whnf
   obtain ⟨vO2, k3, k4⟩ := hs6.step
   refine jmp_add k3 [⟨25, 0, 20, 0, 0⟩] 0 1 rfl rfl (by rw [List.length_append, List.length_append]; simp; omega) fun w7 hl => ?_
   have hs7 := k4 _ _ hl
   conv => whnf
   refine atq_on ?_
   refine satq_seqN ?_
   conv => whnf
   refine satq_vcN ?_
   conv => whnf
   refine atq_up (atq_ret ?_) fun a w hq => hq
   conv => whnf
   have hb : qBody i at_ = [⟨1, 21, 0, 0, i.imm⟩, ⟨3, 20, i.a, 21, 0⟩, ⟨1, 21, 0, 0, 4294967292⟩, ⟨5, 20, 20, 21, 0⟩] ++ qSet i.d (cut32 (at_ + 4)) := by unfold qBody; rw [ho]; rfl
   have ht : qTail i at_ = some [⟨25, 0, 20, 0, 0⟩] := by unfold qTail; rw [ho]; rfl
   rw [hb, ht]
   exact fin_val rfl fun w5 hB => ⟨rfl, by simpa using (hs7.lift.early hB1).later hB⟩
  have n27 : ¬ i.op = 27 := by simpa using hc
  clear hc
  refine satq_seqN ?_
  conv => whnf
  refine satq_cond rfl (fun hc => ?_) (fun hc => ?_)
  ·have ho : i.op = 40 := by simpa using hc
   refine satq_in (satq_jump 5 rfl rfl rfl ?_)
   conv => whnf
   refine ⟨_, block_cells hs3.box (off := 0 + 1) (x := intV i.d) rfl, ?_⟩
   conv => whnf
   refine ⟨cut32 (at_ + 4), by rw [wr32]; rfl, ?_⟩
   conv => whnf
   refine lift_jmp (l ++ qSet i.d (cut32 (at_ + 4))) hs3 (by rfl) (by kernel_rfl) (fun w3 vO1 k => set_walkL k i.d _ (by omega)) fun w6 hs6 => ?_
   conv => whnf
   refine atq_on ?_
   have hlq : (qSet i.d (cut32 (at_ + 4))).length ≤ 1 := by unfold qSet; split <;> simp
   refine satq_in (satq_jump 8 rfl rfl rfl ?_)
   conv => whnf
   refine ⟨_, block_cells hs6.box (off := 0 + 4) (x := .int .u32 i.imm) rfl, ?_⟩
   conv => whnf
   refine ⟨_, wr32 _, ?_⟩
   conv => whnf
   refine ⟨cut32 (at_ + 4 * i.imm), by rw [wr32]; unfold cut32; omega, ?_⟩
   conv => whnf
   obtain ⟨vO2, k3, k4⟩ := hs6.step
   refine jmp_add k3 [⟨24, 0, 0, 0, cut32 (at_ + 4 * i.imm)⟩] 0 1 rfl rfl (by rw [List.length_append]; omega) fun w7 hl => ?_
   have hs7 := k4 _ _ hl
   conv => whnf
   refine atq_on ?_
   refine satq_seqN ?_
   conv => whnf
   refine satq_vcN ?_
   conv => whnf
   refine atq_up (atq_ret ?_) fun a w hq => hq
   conv => whnf
   have hb : qBody i at_ = qSet i.d (cut32 (at_ + 4)) := by unfold qBody; rw [ho]; rfl
   have ht : qTail i at_ = some [⟨24, 0, 0, 0, cut32 (at_ + 4 * i.imm)⟩] := by unfold qTail; rw [ho]; rfl
   rw [hb, ht]
   exact fin_val rfl fun w5 hB => ⟨rfl, by simpa using (hs7.lift.early hB1).later hB⟩
  have n40 : ¬ i.op = 40 := by simpa using hc
  clear hc
  refine satq_midW (α := Bool) (fun y => [(0, one (pV g)), (2, one (.int .u32 at_)), (4, one (pV pi)), (6, one (.bool false)), (127, one (.bool y))]) (fun y w5 => LSt w1 w5 g vA vP vO l pi (qiL i) qiT ∧ y = decide (32 ≤ i.op ∧ i.op ≤ 37)) ?_ fun y w5 hs5 => ?_
  ·refine satq_seqN ?_
   conv => whnf
   refine satq_cond rfl (fun hc => ?_) (fun hc => ?_)
   ·have ho : i.op = 32 := by simpa using hc
    exact satq_skip (atq_midW _ (aI rfl (aI rfl (aI rfl (aI rfl (aI rfl trivial))))) fun r w5 hR => ⟨hs3.later hR.toBelow, by rw [ho]; rfl⟩)
   have n32 : ¬ i.op = 32 := by simpa using hc
   clear hc
   refine satq_seqN ?_
   conv => whnf
   refine satq_cond rfl (fun hc => ?_) (fun hc => ?_)
   ·have ho : i.op = 33 := by simpa using hc
    exact satq_skip (atq_midW _ (aI rfl (aI rfl (aI rfl (aI rfl (aI rfl trivial))))) fun r w5 hR => ⟨hs3.later hR.toBelow, by rw [ho]; rfl⟩)
   have n33 : ¬ i.op = 33 := by simpa using hc
   clear hc
   refine satq_seqN ?_
   conv => whnf
   refine satq_cond rfl (fun hc => ?_) (fun hc => ?_)
   ·have ho : i.op = 34 := by simpa using hc
    exact satq_skip (atq_midW _ (aI rfl (aI rfl (aI rfl (aI rfl (aI rfl trivial))))) fun r w5 hR => ⟨hs3.later hR.toBelow, by rw [ho]; rfl⟩)
   have n34 : ¬ i.op = 34 := by simpa using hc
   clear hc
   refine satq_seqN ?_
   conv => whnf
   refine satq_cond rfl (fun hc => ?_) (fun hc => ?_)
   ·have ho : i.op = 35 := by simpa using hc
    exact satq_skip (atq_midW _ (aI rfl (aI rfl (aI rfl (aI rfl (aI rfl trivial))))) fun r w5 hR => ⟨hs3.later hR.toBelow, by rw [ho]; rfl⟩)
   have n35 : ¬ i.op = 35 := by simpa using hc
   clear hc
   refine satq_seqN ?_
   conv => whnf
   refine satq_cond rfl (fun hc => ?_) (fun hc => ?_)
   ·have ho : i.op = 36 := by simpa using hc
    exact satq_skip (atq_midW _ (aI rfl (aI rfl (aI rfl (aI rfl (aI rfl trivial))))) fun r w5 hR => ⟨hs3.later hR.toBelow, by rw [ho]; rfl⟩)
   have n36 : ¬ i.op = 36 := by simpa using hc
   clear hc
   refine satq_vcN ?_
   conv => whnf
   exact atq_midW _ (aI rfl (aI rfl (aI rfl (aI rfl (aI rfl trivial))))) fun r w5 hR => ⟨hs3.later hR.toBelow, by rw [Bool.eq_iff_iff]; simp; omega⟩
  obtain ⟨hs5, hy⟩ := hs5
  refine satq_cond rfl (fun hc => ?_) (fun hc => ?_)
  ·have ho : 32 ≤ i.op ∧ i.op ≤ 37 := by rw [hy] at hc; simpa using hc
   refine satq_in (satq_jump 3 rfl rfl rfl ?_)
   conv => whnf
   refine ⟨_, block_all hs5.box, rfl, ?_⟩
   conv => whnf
   refine lift_jmp (l ++ branchL i at_) hs5 (by rfl) (by kernel_rfl) (fun w3 vO1 k => branch_walk i at_ k ho (by omega)) fun w6 hs6 => ?_
   conv => whnf
   refine atq_on ?_
   refine satq_seqN ?_
   conv => whnf
   refine satq_vcN ?_
   conv => whnf
   refine atq_up (atq_ret ?_) fun a w hq => hq
   conv => whnf
   have hb : qBody i at_ = qTest i := by
    unfold qBody
    rw [if_neg (by rw [hq]; simp), if_neg (by omega), if_neg (by omega), if_neg (by omega), if_neg (by omega), if_neg (by omega), if_neg (by omega), if_neg (by omega), if_pos ho]
   have ht : qTail i at_ = some [⟨23, 0, 20, 0, cut32 (at_ + 4 * i.imm)⟩, ⟨24, 0, 0, 0, cut32 (at_ + 4)⟩] := by
    unfold qTail
    rw [if_neg (by rw [hq]; simp), if_neg (by omega), if_neg (by omega), if_neg (by omega), if_pos ho]
   rw [hb, ht]
   exact fin_val rfl fun w5 hB => ⟨rfl, by simpa [branchL] using (hs6.lift.early hB1).later hB⟩
  ·have ho : ¬ (32 ≤ i.op ∧ i.op ≤ 37) := by rw [hy] at hc; simpa using hc
   refine satq_in (satq_jump 3 rfl rfl rfl ?_)
   conv => whnf
   obtain ⟨vO1, k1, k2⟩ := hs5.step
   refine jmp_add k1 [⟨22, 0, 0, 0, 0⟩] 0 1 rfl rfl (by omega) fun w6 hl => ?_
   have hs6 := k2 _ _ hl
   conv => whnf
   refine atq_on ?_
   refine satq_seqN ?_
   conv => whnf
   refine satq_vcN ?_
   conv => whnf
   refine atq_up (atq_ret ?_) fun a w hq => hq
   conv => whnf
   have hb : qBody i at_ = [] := by
    unfold qBody
    rw [if_neg (by rw [hq]; simp), if_neg (by omega), if_neg (by omega), if_neg (by omega), if_neg (by omega), if_neg (by omega), if_neg (by omega), if_neg (by omega), if_neg ho]
   have ht : qTail i at_ = some [⟨22, 0, 0, 0, 0⟩] := by
    unfold qTail
    rw [if_neg (by rw [hq]; simp), if_neg (by omega), if_neg (by omega), if_neg (by omega), if_neg ho]
   rw [hb, ht]
   exact fin_val rfl fun w5 hB => ⟨rfl, by simpa using (hs6.lift.early hB1).later hB⟩
 obtain ⟨hs4, ht⟩ := hs4
 refine satq_seqN ?_
 conv => whnf
 refine satq_vcN ?_
 conv => whnf
 refine atq_ret ?_
 conv => whnf
 rw [ht]
 exact fin_val rfl fun w5 hB => ⟨rfl, by simpa using (hs4.lift.early hB1).later hB⟩
end
end Go.Proofs.YtnhdcclpjildjaaGreat
namespace Go.Proofs.YtnhdcclpjildjaaGreat
open Go.RowKit

def setC (l : List Slt) (q : Nat) (c' : Nat) : List Slt := l.modify q fun s => { s with c := c', oc := true }
theorem setC_get (l : List Slt) (q k : Nat) (c' : Nat) : (setC l q c')[k]? = if q = k then (l[k]?).map (fun s => { s with c := c', oc := true }) else l[k]? := by
 unfold setC; rw [List.getElem?_modify]
 split
 ·rfl
 ·cases l[k]? <;> rfl
theorem setC_length (l : List Slt) (q c' : Nat) : (setC l q c').length = l.length := by unfold setC; simp
theorem slotsL_setC : ∀ {l : List Slt} {q : Nat} (c' : Nat), q < l.length → slotsL (setC l q c') = ((slotsL l).set (7 * q + 1) (ptrV c')).set (7 * q + 3) (.bool true)
 | [], q, x, h => by simp at h
 | s :: l, 0, x, h => rfl
 | s :: l, q + 1, x, h => by
  have ih := slotsL_setC (l := l) (q := q) x (by simpa using h)
  show slotL s ++ slotsL (setC l q x) = ((slotL s ++ slotsL l).set (7 * (q + 1) + 1) _).set (7 * (q + 1) + 3) _
  rw [ih, show 7 * (q + 1) + 1 = (slotL s).length + (7 * q + 1) by show _ = 7 + _; omega, List.set_append_right _ _ (by omega), show 7 * (q + 1) + 3 = (slotL s).length + (7 * q + 3) by show _ = 7 + _; omega, List.set_append_right _ _ (by omega)]
  simp
section
variable {B m sb : Nat} {img : Nat → List Int}
theorem setC_mem {w w' : World} {l : List Slt} (h : MemAt2 w B m sb l img) {q : Nat} (_hq : q < l.length) {xs : List Int} {c' : Nat} (hc : w.heap.size ≤ c') (hp : PageAt w' c' xs) (hg : GrownBys w w' [m, sb]) (hm : w'.heap[m]? = some (.cells #[.slice (some ⟨sb, 0, none⟩) l.length l.length, .bool false] 163 (0, 0))) (hs : w'.heap[sb]? = some (.cells (slotsL (setC l q c')).toArray 168 (0, 0))) :
  MemAt2 w' B m sb (setC l q c') (fun k => if k = q then xs else img k) ∧ Below B w w' := by
 have hsz : B ≤ w.heap.size := Nat.le_of_lt (Nat.lt_of_le_of_lt h.Bm (heap_lt h.hm))
 have key : ∀ {k : Nat} {s : Slt}, (setC l q c')[k]? = some s → ∃ y, l[k]? = some y ∧ y.d = s.d ∧ y.od = s.od ∧ (k = q → s.c = c') ∧ (k ≠ q → s.c = y.c) := by
  intro k s hk
  rw [setC_get] at hk
  split at hk
  ·rename_i e
   cases hy : l[k]? with
   | none => rw [hy] at hk; cases hk
   | some y => rw [hy] at hk; simp at hk; subst hk; exact ⟨y, rfl, rfl, rfl, fun _ => rfl, fun n => absurd e.symm n⟩
  ·rename_i e
   exact ⟨s, hk, rfl, rfl, fun n => absurd n.symm e, fun _ => rfl⟩
 refine ⟨⟨by rw [setC_length]; exact hm, hs, h.Bm, h.Bs, fun s hs' => ?_, fun k s hk => ?_, fun s hs' s2 hs2 ho => ?_⟩, ⟨hg.os, hg.tape, hg.output, hg.size, fun b hb => hg.block b (Nat.lt_of_lt_of_le hb hsz) (by have h1 := h.Bm; have h2 := h.Bs; simp; omega)⟩⟩
 ·obtain ⟨k, hk⟩ := List.getElem?_of_mem hs'
  obtain ⟨y, hy, e, _⟩ := key hk
  obtain ⟨⟨us, hu⟩, hb⟩ := h.dp y (List.mem_of_getElem? hy)
  rw [← e]
  exact ⟨⟨us, keep_pages h hg hu⟩, hb⟩
 ·obtain ⟨y, hy, _, _, e1, e2⟩ := key hk
  by_cases e : k = q
  ·rw [e1 e, if_pos e]; exact ⟨hp, Nat.le_trans hsz hc⟩
  ·rw [e2 e, if_neg e]
   obtain ⟨hu, hb⟩ := h.cp k y hy
   exact ⟨keep_pages h hg hu, hb⟩
 ·obtain ⟨k, hk⟩ := List.getElem?_of_mem hs'
  obtain ⟨k2, hk2⟩ := List.getElem?_of_mem hs2
  obtain ⟨y, hy, e, eo, _⟩ := key hk
  obtain ⟨y2, hy2, _, _, e1, e2⟩ := key hk2
  obtain ⟨⟨us, hu⟩, _⟩ := h.dp y (List.mem_of_getElem? hy)
  have hlt := heap_lt hu.at_
  by_cases e3 : k2 = q
  ·rw [e1 e3, ← e]; omega
  ·rw [e2 e3, ← e]; exact h.sep y (List.mem_of_getElem? hy) y2 (List.mem_of_getElem? hy2) (eo.trans ho)
set_option maxRecDepth 100000 in
set_option maxHeartbeats 1000000 in
theorem setCodeM_walk {w : World} {l : List Slt} (h : MemAt2 w B m sb l img) (q : Nat) {s : Slt} (hsq : l[q]? = some s) (hoc : s.oc = false) (h2 : 2 ≤ l.length) (xs : List Int) (hxs : ∀ x ∈ xs, 0 ≤ x ∧ x < 256) (hlen : xs.length = 256) :
  Calls Tryz.prog 69 #[ptrV m, intV (q : Int), strV xs] w fun e w' => e = .returned (.tuple #[]) ∧ ∃ c', MemAt2 w' B m sb (setC l q c') (fun k => if k = q then xs else img k) ∧ Below B w w' := by
 have hq : q < l.length := by
  rcases Nat.lt_or_ge q l.length with h1 | h1
  ·exact h1
  ·rw [List.getElem?_eq_none h1] at hsq; cases hsq
 have hsl := slotsL_length l
 obtain ⟨hpc, hBc⟩ := h.cp q s hsq
 have hml : (List.map CV.v (slotsL l)).length = 7 * l.length := by rw [List.length_map, hsl]
 have hpl : (List.map CV.v ((img q).map byteV)).length = 256 := by rw [List.length_map, List.length_map, hpc.len]
 have hcc : CellsAt w ⟨[m, sb], []⟩ s.c 0 ((img q).map byteV) := by
  refine ⟨heap_lt hpc.at_, ?_, fun j u hj => by simp [World.cell?, hpc.at_, hj]⟩
  rintro (h1 | h1)
  ·simp at h1
   rcases h1 with e | e
   ·have h3 := h.hm; rw [← e] at h3; cases cells_type (us := [.slice (some ⟨sb, 0, none⟩) l.length l.length, .bool false]) h3 hpc.at_
   ·have h3 := h.hs; rw [← e] at h3; cases cells_type h3 hpc.at_
  ·cases h1
 have g1 : (List.map CV.v (slotsL l))[0 + (q : Int).toNat * 7 + 1]? = some (.v (ptrV s.c)) := by
  rw [List.getElem?_map, show 0 + (q : Int).toNat * 7 + 1 = 7 * q + 1 by omega, slotsL_get (j := 1) hsq rfl]; rfl
 have g3 : (List.map CV.v (slotsL l))[0 + (q : Int).toNat * 7 + 3]? = some (.v (.bool false)) := by
  rw [List.getElem?_map, show 0 + (q : Int).toNat * 7 + 3 = 7 * q + 3 by omega, slotsL_get (j := 3) hsq rfl, hoc]; rfl
 refine calls_objs_satq [.p (.c (.ref 0 0)), one (intV (q : Int)), one (strV xs)] [ptrV m, intV (q : Int), strV xs] Tryz.func69 Tryz.ntmps69 rfl (by simp) (mem_objs h) ⟨_, _, rfl, den_mk_ref rfl, avdenL_of [intV (q : Int), strV xs]⟩ ?_
 refine satq_seqN ?_
 conv => whnf
 refine ⟨fun _ => ?_, fun hc => absurd hc (by simp)⟩
 conv => whnf
 (repeat ((first | apply k1 | apply k2 | apply k3 | apply k4 | refine k5 (by decide) ?_ | refine k6 (by decide) ?_); conv => whnf))
 refine call_pagesU l rfl rfl (T := []) ?_
 conv => whnf
 (repeat ((first | apply k1 | apply k2 | apply k3 | apply k4 | refine k5 (by decide) ?_ | refine k6 (by decide) ?_); conv => whnf))
 refine ⟨fun _ => ?_, fun hc => absurd hc (by simp; omega)⟩
 conv => whnf
 (repeat ((first | apply k1 | apply k2 | apply k3 | apply k4 | refine k5 (by decide) ?_ | refine k6 (by decide) ?_); conv => whnf))
 refine satq_seqN ?_
 conv => whnf
 (refine ⟨⟨by omega, by omega⟩, ?_⟩; (conv=>whnf))
 refine satq_seqN ?_
 conv => whnf
 erw [g1]
 conv => whnf
 refine q_nil_v _ rfl rfl rfl rfl ?_
 conv => whnf
 (repeat ((first | apply k1 | apply k2 | apply k3 | apply k4 | refine k5 (by decide) ?_ | refine k6 (by decide) ?_); conv => whnf))
 refine satq_cut (α := Unit) (fun _ => [(2, one (strV xs)), (6, .p (.c (.ref 1 (0 + (q : Int).toNat * 7))))]) (fun _ => [.cells 163 [.sl 1 0 l.length l.length, .v (.bool false)], .cells 168 ((((slotsL l).map CV.v).set (0 + (q : Int).toNat * 7 + 1) (.ref 2 0)).set (0 + (q : Int).toNat * 7 + 3) (.v (.bool true))), .cells 166 (((img q).map byteV).map .v)]) ?_ fun _ => ?_
 ·conv => whnf
  erw [g3]
  conv => whnf
  (repeat ((first | apply k1 | apply k2 | apply k3 | apply k4 | refine k5 (by decide) ?_ | refine k6 (by decide) ?_); conv => whnf))
  conv => whnf
  erw [g1]
  conv => whnf
  refine ⟨_, hcc, by rw [List.length_map, hpc.len]; rfl, ?_⟩
  conv => whnf
  rw [show Nat.beq (List.map CV.v (List.map byteV (img q))).length (Tryz.prog.types[166].size) = true from by rw [hpl]; rfl, byteV_flat]
  conv => whnf
  rw [hpl]
  conv => whnf
  erw [show Nat.ble (0 + (q : Int).toNat * 7 + 1 + 1) (List.map CV.v (slotsL l)).length = true from Nat.ble_eq_true_of_le (by rw [hml]; omega)]
  conv => whnf
  erw [show Nat.ble (List.map CV.v (slotsL l)).length 8 = false from by rw [hml]; exact ble_no (by omega)]
  conv => whnf
  have hul2 : (setAll (List.map CV.v (slotsL l)) (0 + (q : Int).toNat * 7 + 1) [CV.ref 2 0]).length = 7 * l.length := by rw [setAll_length, hml]
  erw [show Nat.ble (0 + (q : Int).toNat * 7 + 3 + 1) (setAll (List.map CV.v (slotsL l)) (0 + (q : Int).toNat * 7 + 1) [CV.ref 2 0]).length = true from Nat.ble_eq_true_of_le (by rw [hul2]; omega)]
  conv => whnf
  erw [show Nat.ble (setAll (List.map CV.v (slotsL l)) (0 + (q : Int).toNat * 7 + 1) [CV.ref 2 0]).length 8 = false from by rw [hul2]; exact ble_no (by omega)]
  conv => whnf
  exact ⟨(), ent_same rfl (aI rfl (aI rfl trivial)) (aI sM (aI sM (aI ((aI rfl (Or.inl (setAll_same (by rw [hpl]; kernel_rfl))))) trivial)))⟩
 ·have hL : ((((slotsL l).map CV.v).set (0 + (q : Int).toNat * 7 + 1) (.ref 2 0)).set (0 + (q : Int).toNat * 7 + 3) (.v (.bool true)))[0 + (q : Int).toNat * 7 + 1]? = some (CV.ref 2 0) := by
   rw [List.getElem?_set_ne (by omega), List.getElem?_set_self (by rw [hml]; omega)]
  refine satq_vcN ?_
  conv => whnf
  erw [hL]
  conv => whnf
  refine opS_q (q_slice_arr 2 0 256 rfl rfl rfl rfl rfl ?_) rfl
  conv => whnf
  refine op_copy_str xs 2 256 256 rfl rfl rfl rfl rfl rfl rfl hxs (by omega) (by rw [hpl]; omega) rfl ?_
  rw [setAll_same (show (List.map CV.v ((img q).map byteV)).length = (List.map CV.v (xs.map (Value.int .u8))).length by rw [hpl, List.length_map, List.length_map, hlen])]
  conv => whnf
  refine atq_end ?_
  conv => whnf
  refine ⟨fun r w' u hR hd => ?_⟩
  obtain rfl : u = .tuple #[] := by obtain ⟨us, rfl, rfl⟩ := hd; rfl
  obtain ⟨c', vs2, e1, e2, e3⟩ := hR.own 2 _ rfl
  have f0 := hR.first 0 m rfl
  have f1 := hR.first 1 sb rfl
  refine ⟨rfl, c', ?_⟩
  have hc' : w.heap.size ≤ c' := by
   rcases Nat.lt_or_ge c' w.heap.size with h2 | h2
   ·rcases (hR.new 2 c' e1).2 h2 with h3 | h3
    ·simp at h3
     rcases h3 with h3 | h3
     ·subst h3; have := hR.inj 0 2 c' f0 e1; omega
     ·subst h3; have := hR.inj 1 2 c' f1 e1; omega
    ·cases h3
   ·exact h2
  have k0 : w'.heap[m]? = some (.cells #[.slice (some ⟨sb, 0, none⟩) l.length l.length, .bool false] 163 (0, 0)) := by
   obtain ⟨b, vs, z1, z2, z3⟩ := hR.own 0 _ rfl
   rw [f0] at z1; injection z1 with z1; subst z1
   obtain ⟨v1, l2, rfl, d3, v2, l3, rfl, d4, d5⟩ := z3
   obtain rfl : l3 = [] := d5
   obtain ⟨sb', y1, rfl⟩ := d3
   rw [f1] at y1; injection y1 with y1; subst y1
   obtain rfl : v2 = .bool false := d4
   exact z2
  have k1 : w'.heap[sb]? = some (.cells (slotsL (setC l q c')).toArray 168 (0, 0)) := by
   obtain ⟨b, vs, z1, z2, z3⟩ := hR.own 1 _ rfl
   rw [f1] at z1; injection z1 with z1; subst z1
   have e4 : denL r ((((slotsL l).map CV.v).set (0 + (q : Int).toNat * 7 + 1) (.ref 2 0)).set (0 + (q : Int).toNat * 7 + 3) (.v (.bool true))) (((slotsL l).set (0 + (q : Int).toNat * 7 + 1) (ptrV c')).set (0 + (q : Int).toNat * 7 + 3) (.bool true)) :=
    denL_set _ (denL_set _ (denL_vals _) (by simp only [CV.den]; exact ⟨c', e1, rfl⟩)) (by simp only [CV.den])
   have e5 := denL_det (n := 3) (fun c hc => by
    rcases List.mem_or_eq_of_mem_set hc with h5 | h5
    ·rcases List.mem_or_eq_of_mem_set h5 with h6 | h6
     ·obtain ⟨v, _, rfl⟩ := List.mem_map.1 h6; rfl
     ·rw [h6]; rfl
    ·rw [h5]; rfl) z3 e4
   rw [z2, e5, slotsL_setC c' hq, show 0 + (q : Int).toNat * 7 + 1 = 7 * q + 1 by omega, show 0 + (q : Int).toNat * 7 + 3 = 7 * q + 3 by omega]
  have k2 : PageAt w' c' xs := ⟨by rw [e2, denL_vals_inv e3], hlen, hxs⟩
  exact setC_mem h hq hc' k2 hR.growns k0 k1
end
end Go.Proofs.YtnhdcclpjildjaaGreat
namespace Go.Proofs.YtnhdcclpjildjaaGreat
open Go.RowKit

def readN (F : Int → Option Int) (a : Int) : Nat → Option Int
 | 0 => some 0
 | j + 1 => match readN F a j, F (a + j) with
  | some k, some b => some (k + b * 256 ^ j)
  | _, _ => none
def readQ (F : Int → Option Int) (a : Int) : Option QI := if a % 4 = 0 then (readN F a 4).bind decQ else none
theorem readN_lt {F : Int → Option Int} (hF : ∀ a b, F a = some b → 0 ≤ b ∧ b < 256) {a : Int} : ∀ {j : Nat} {k : Int}, readN F a j = some k → 0 ≤ k ∧ k < 256 ^ j
 | 0, k, h => by simp [readN] at h; subst h; decide
 | j + 1, k, h => by
  unfold readN at h
  split at h
  ·rename_i k0 b h1 h2
   injection h with h
   have h3 := readN_lt hF h1
   have h4 := hF _ _ h2
   have hp : (0 : Int) < 256 ^ j := Int.pow_pos (by decide)
   rw [Int.pow_succ]
   have h5 : b * 256 ^ j ≤ 255 * 256 ^ j := Int.mul_le_mul_of_nonneg_right (by omega) (by omega)
   have h6 : 0 ≤ b * 256 ^ j := Int.mul_nonneg h4.1 (by omega)
   omega
  ·cases h
theorem readN_none {F : Int → Option Int} {a : Int} {i : Nat} (h : F (a + i) = none) : ∀ {j : Nat}, i < j → readN F a j = none
 | j + 1, hj => by
  unfold readN
  rcases Nat.lt_or_ge i j with h1 | h1
  ·rw [readN_none h h1]
  ·have : i = j := by omega
   subst this
   rw [h]
   split
   ·rename_i h1 h2; cases h2
   ·rfl
structure RdS (F : Int → Option Int) (a : Int) where
 j : Nat
 k : Int
 hj : j ≤ 4
 hk : readN F a j = some k
set_option maxRecDepth 100000 in
set_option maxHeartbeats 4000000 in
theorem read_walk (w : World) (F : Int → Option Int) (hF : ∀ a b, F a = some b → 0 ≤ b ∧ b < 256) (m : Nat) (t : TypeId) (hm : ∀ w, (method (Tryz.prog.types.size + Made.depth) t (ptrV m) "Fetch").run Tryz.prog w = .ok (163, ptrV m) w) (a : Int) (ha : word a)
  (hcall : ∀ w' x, Below w.heap.size w w' → word x → Calls Tryz.prog 163 #[ptrV m, .int .u32 x] w' fun e w2 => e = .returned (fetV (F x)) ∧ Below w'.heap.size w' w2) :
  Calls Tryz.prog 72 #[.int .u32 a, .iface t (ptrV m)] w fun e w' => e = .returned (.tuple #[qiV ((readQ F a).getD QI.zero), .bool (readQ F a).isSome]) ∧ Below w.heap.size w w' := by
 refine calls_satq [.int .u32 a, .iface t (ptrV m)] Tryz.func72 Tryz.ntmps72 rfl (by simp) ?_
 refine satq_seqN ?_
 conv => whnf
 refine satq_seqN ?_
 conv => whnf
 refine ⟨by decide, a % 4, Int.tmod_eq_emod_of_nonneg ha.1, ?_⟩
 conv => whnf
 refine ⟨fun hc => ?_, fun hc => ?_⟩
 ·have h4 : ¬ a % 4 = 0 := by simpa using hc
  have hr : readQ F a = none := by unfold readQ; rw [if_neg h4]
  conv => whnf
  refine atq_ret ?_
  conv => whnf
  rw [hr]
  exact fin_val rfl fun w2 hB => ⟨rfl, hB⟩
 have h4 : a % 4 = 0 := by simpa using hc
 have hr : readQ F a = (readN F a 4).bind decQ := by unfold readQ; rw [if_pos h4]
 rw [hr]
 clear hc
 conv => whnf
 refine satq_seqN ?_
 conv => whnf
 refine satq_mid (α := { x : Int // readN F a 4 = some x }) (fun x => [(4, .p (.c (.ref 0 0))), (5, one (.bool false)), (6, one (.int .u32 x.1))]) (fun _ => [.cells qiT ((qiL QI.zero).map .v)]) ?_ fun x => ?_
 ·refine satq_seqN ?_
  conv => whnf
  refine satq_block ?_
  refine satq_loop (α := RdS F a) (fun x => [(0, one (.int .u32 a)), (1, one (.iface t (ptrV m))), (4, .p (.c (.ref 0 0))), (5, one (.bool false)), (6, one (.int .u32 x.k)), (16, one (.int .u32 (x.j : Int)))]) (fun _ => [.cells qiT ((qiL QI.zero).map .v)]) (fun x => 4 - x.j) ⟨0, 0, by omega, rfl⟩
   (ent_same rfl (aI rfl (aI rfl (aI rfl (aI rfl (aI rfl (aI rfl trivial)))))) (aI sM trivial)) fun x => ?_
  obtain ⟨j, k, hj, hk⟩ := x
  dsimp only
  have hkb := readN_lt hF hk
  refine satq_seqN ?_
  conv => whnf
  refine satq_seqN ?_
  conv => whnf
  refine ⟨fun hc => ?_, fun hc => ?_⟩
  ·have hlt : j < 4 := by simp at hc; omega
   conv => whnf
   refine satq_in (satq_block ?_)
   refine satq_seqN ?_
   conv => whnf
   refine satq_seqN ?_
   conv => whnf
   refine ⟨a + j, by rw [wr32]; unfold word at ha; omega, ?_⟩
   conv => whnf
   have hwx : word (a + j) := by unfold word at ha ⊢; omega
   refine op_invoke rfl rfl rfl hm ?_
   refine call_con rfl (by kernel_rfl) (fun r w' hR => hcall w' (a + j) hR.toBelow hwx) ?_
   have hfb := hF (a + j)
   have hno := readN_none (F := F) (a := a) (i := j) (j := 4)
   have hnx : readN F a (j + 1) = match readN F a j, F (a + j) with
    | some k, some b => some (k + b * 256 ^ j)
    | _, _ => none := rfl
   rw [hk] at hnx
   generalize F (a + j) = fb at hfb hno hnx ⊢
   cases fb with
   | none =>
    rw [hno rfl hlt]
    conv => whnf
    refine satq_seqN ?_
    conv => whnf
    refine ⟨fun _ => ?_, fun hc => absurd hc (by decide)⟩
    conv => whnf
    refine atq_up (atq_ret ?_) fun a w hq => hq
    conv => whnf
    exact fin_val rfl fun w2 hB => ⟨rfl, hB⟩
   | some b =>
    have hbb := hfb b rfl
    conv => whnf
    refine satq_seqN ?_
    conv => whnf
    refine ⟨fun hc => absurd hc (by simp), fun _ => ?_⟩
    conv => whnf
    refine satq_vcN ?_
    conv => whnf
    have hj4 : j = 0 ∨ j = 1 ∨ j = 2 ∨ j = 3 := by omega
    refine ⟨b, by rw [wr32]; show b % 4294967296 = b; omega, ?_⟩
    conv => whnf
    refine ⟨8 * (j : Int), by rw [wr32]; omega, ?_⟩
    conv => whnf
    refine ⟨by omega, b * 256 ^ j, ?_, ?_⟩
    ·rw [wr32]
     rcases hj4 with rfl | rfl | rfl | rfl
     ·show b * 2 ^ 0 % 4294967296 = b * 256 ^ 0; omega
     ·show b * 2 ^ 8 % 4294967296 = b * 256 ^ 1; omega
     ·show b * 2 ^ 16 % 4294967296 = b * 256 ^ 2; omega
     ·show b * 2 ^ 24 % 4294967296 = b * 256 ^ 3; omega
    conv => whnf
    have hor : orI k (b * 256 ^ j) = k + b * 256 ^ j := by
     unfold orI
     rw [Nat.or_comm]
     have := orI_add (a := b * 256 ^ j) (b := k) (8 * j) (Int.mul_nonneg hbb.1 (Int.le_of_lt (Int.pow_pos (by decide)))) (by rw [show (2 : Int) ^ (8 * j) = 256 ^ j by rw [Int.pow_mul]; rfl]; exact Int.mul_emod_left _ _) (by rw [show (2 : Int) ^ (8 * j) = 256 ^ j by rw [Int.pow_mul]; rfl]; exact hkb)
     unfold orI at this
     rw [this]; omega
    have hww : word k ∧ word (b * 256 ^ j) := by
     rcases hj4 with rfl | rfl | rfl | rfl <;> (unfold word; simp at hkb ⊢; omega)
    refine ⟨k + b * 256 ^ j, (u32_or hww.1 hww.2).trans hor, ?_⟩
    conv => whnf
    refine atq_block (atq_on ?_)
    refine satq_vcN ?_
    conv => whnf
    refine ⟨(j : Int) + 1, by rw [wr32]; omega, ?_⟩
    conv => whnf
    exact atq_next ⟨j + 1, k + b * 256 ^ j, by omega, hnx⟩ (ent_same rfl (aI rfl (aI rfl (aI rfl (aI rfl (aI rfl (aI rfl trivial)))))) (aI sM trivial)) (by show 4 - (j + 1) < 4 - j; omega)
  ·have he : j = 4 := by simp at hc; omega
   subst he
   conv => whnf
   exact atq_out (atq_exit (atq_mid ⟨k, hk⟩ (ent_same rfl (aI rfl (aI rfl (aI rfl trivial))) (aI sM trivial))))
 obtain ⟨x, hx⟩ := x
 dsimp only
 rw [hx]
 have hxw : word x := by have := readN_lt hF hx; unfold word; omega
 refine satq_seqN ?_
 conv => whnf
 refine call_con rfl (by kernel_rfl) (fun r w' hR => decode_walk x w' hxw) ?_
 obtain ⟨y, hy⟩ : ∃ y, decQ x = y := ⟨_, rfl⟩
 have hb : (some x).bind decQ = y := hy
 rw [hb, hy]
 conv => whnf
 refine satq_seqN ?_
 conv => whnf
 refine satq_vcN ?_
 conv => whnf
 refine atq_ret ?_
 conv => whnf
 exact fin_val rfl fun w2 hB => ⟨by cases y <;> rfl, hB⟩
end Go.Proofs.YtnhdcclpjildjaaGreat
namespace Go.Proofs.YtnhdcclpjildjaaGreat
open Go.RowKit

def ProgAt (w : World) (A : Option Addr) (n : Nat) : Prop := ∀ j, j < n → ∃ b off n0 n1 n2 n3 n4, A = some ⟨b, off, none⟩ ∧ CellsAt w Gs.nil b (off + j * 5) [intV n0, intV n1, intV n2, intV n3, intV n4]
theorem ProgAt.later {w w' : World} {A : Option Addr} {n : Nat} (h : ProgAt w A n) (hB : Below w.heap.size w w') : ProgAt w' A n := fun j hj => by
 obtain ⟨b, off, n0, n1, n2, n3, n4, e, h1, h2, h3⟩ := h j hj
 exact ⟨b, off, n0, n1, n2, n3, n4, e, Nat.lt_of_lt_of_le h1 hB.size, by simp, fun i u hi => by have := h3 i u hi; simp only [World.cell?] at this ⊢; rw [hB.block b h1]; exact this⟩
end Go.Proofs.YtnhdcclpjildjaaGreat
namespace Go.Proofs.YtnhdcclpjildjaaGreat
open Go.RowKit

def limI (i : Nat) : QI := ⟨1, 1 + (i : Int) % 15, 1, 2, 0⟩
def limW (i : Nat) : Int := wordQ (limI i)
structure LimS (M : MemP) (j : Nat) : Prop where
 ok : M.ok 768 3
 code : ∀ i, i < j → ∀ b, b < 4 → M.data[4 * i + b]? = some (byteAt (limW i) b)
 rest : ∀ x, 4 * j ≤ x → x < 768 → M.data[x]? = some 0
structure SynS (D : List Int) (M : MemP) (q : Nat) : Prop where
 ok : M.ok 768 3
 data : M.data = D
 img : ∀ x, x < 256 * q → M.image[x]? = D[x]?
 rights : ∀ y, y < q → M.rights[y]? = some 5
end Go.Proofs.YtnhdcclpjildjaaGreat
