/- Walks: the program's memory: SetCode. -/
import Derived.Test.YtnhdcclpjildjaaGreatMRunsE
namespace Go.Proofs.YtnhdcclpjildjaaGreat
open Go.RowKit

def setC (l : List Slt) (q : Nat) (c' : Nat) : List Slt := l.modify q fun s => { s with c := c', oc := true }
theorem setC_get (l : List Slt) (q k : Nat) (c' : Nat) : (setC l q c')[k]? = if q = k then (l[k]?).map (fun s => { s with c := c', oc := true }) else l[k]? := by
 unfold setC; rw [List.getElem?_modify]
 split
 ·rfl
 ·cases l[k]? <;> rfl
theorem setC_length (l : List Slt) (q c' : Nat) : (setC l q c').length = l.length := by unfold setC; simp
theorem slotsL_setC : ∀ {l : List Slt} {q : Nat} (c' : Nat), q < l.length → slotsL (setC l q c') = ((slotsL l).set (7 * q + 1) (ptrV c')).set (7 * q + 3) (.bool true)
 | [], q, x, h => by simp at h
 | s :: l, 0, x, h => rfl
 | s :: l, q + 1, x, h => by
  have ih := slotsL_setC (l := l) (q := q) x (by simpa using h)
  show slotL s ++ slotsL (setC l q x) = ((slotL s ++ slotsL l).set (7 * (q + 1) + 1) _).set (7 * (q + 1) + 3) _
  rw [ih, show 7 * (q + 1) + 1 = (slotL s).length + (7 * q + 1) by show _ = 7 + _; omega, List.set_append_right _ _ (by omega), show 7 * (q + 1) + 3 = (slotL s).length + (7 * q + 3) by show _ = 7 + _; omega, List.set_append_right _ _ (by omega)]
  simp
section
variable {B m sb : Nat} {img : Nat → List Int}
theorem setC_mem {w w' : World} {l : List Slt} (h : MemAt2 w B m sb l img) {q : Nat} (_hq : q < l.length) {xs : List Int} {c' : Nat} (hc : w.heap.size ≤ c') (hp : PageAt w' c' xs) (hg : GrownBys w w' [m, sb]) (hm : w'.heap[m]? = some (.cells #[.slice (some ⟨sb, 0, none⟩) l.length l.length, .bool false] 163 (0, 0))) (hs : w'.heap[sb]? = some (.cells (slotsL (setC l q c')).toArray 168 (0, 0))) :
  MemAt2 w' B m sb (setC l q c') (fun k => if k = q then xs else img k) ∧ Below B w w' := by
 have hsz : B ≤ w.heap.size := Nat.le_of_lt (Nat.lt_of_le_of_lt h.Bm (heap_lt h.hm))
 have key : ∀ {k : Nat} {s : Slt}, (setC l q c')[k]? = some s → ∃ y, l[k]? = some y ∧ y.d = s.d ∧ y.od = s.od ∧ (k = q → s.c = c') ∧ (k ≠ q → s.c = y.c) := by
  intro k s hk
  rw [setC_get] at hk
  split at hk
  ·rename_i e
   cases hy : l[k]? with
   | none => rw [hy] at hk; cases hk
   | some y => rw [hy] at hk; simp at hk; subst hk; exact ⟨y, rfl, rfl, rfl, fun _ => rfl, fun n => absurd e.symm n⟩
  ·rename_i e
   exact ⟨s, hk, rfl, rfl, fun n => absurd n.symm e, fun _ => rfl⟩
 refine ⟨⟨by rw [setC_length]; exact hm, hs, h.Bm, h.Bs, fun s hs' => ?_, fun k s hk => ?_, fun s hs' s2 hs2 ho => ?_⟩, ⟨hg.os, hg.tape, hg.output, hg.size, fun b hb => hg.block b (Nat.lt_of_lt_of_le hb hsz) (by have h1 := h.Bm; have h2 := h.Bs; simp; omega)⟩⟩
 ·obtain ⟨k, hk⟩ := List.getElem?_of_mem hs'
  obtain ⟨y, hy, e, _⟩ := key hk
  obtain ⟨⟨us, hu⟩, hb⟩ := h.dp y (List.mem_of_getElem? hy)
  rw [← e]
  exact ⟨⟨us, keep_pages h hg hu⟩, hb⟩
 ·obtain ⟨y, hy, _, _, e1, e2⟩ := key hk
  by_cases e : k = q
  ·rw [e1 e, if_pos e]; exact ⟨hp, Nat.le_trans hsz hc⟩
  ·rw [e2 e, if_neg e]
   obtain ⟨hu, hb⟩ := h.cp k y hy
   exact ⟨keep_pages h hg hu, hb⟩
 ·obtain ⟨k, hk⟩ := List.getElem?_of_mem hs'
  obtain ⟨k2, hk2⟩ := List.getElem?_of_mem hs2
  obtain ⟨y, hy, e, eo, _⟩ := key hk
  obtain ⟨y2, hy2, _, _, e1, e2⟩ := key hk2
  obtain ⟨⟨us, hu⟩, _⟩ := h.dp y (List.mem_of_getElem? hy)
  have hlt := heap_lt hu.at_
  by_cases e3 : k2 = q
  ·rw [e1 e3, ← e]; omega
  ·rw [e2 e3, ← e]; exact h.sep y (List.mem_of_getElem? hy) y2 (List.mem_of_getElem? hy2) (eo.trans ho)
set_option maxRecDepth 100000 in
set_option maxHeartbeats 1000000 in
theorem setCodeM_walk {w : World} {l : List Slt} (h : MemAt2 w B m sb l img) (q : Nat) {s : Slt} (hsq : l[q]? = some s) (hoc : s.oc = false) (h2 : 2 ≤ l.length) (xs : List Int) (hxs : ∀ x ∈ xs, 0 ≤ x ∧ x < 256) (hlen : xs.length = 256) :
  Calls Tryz.prog 69 #[ptrV m, intV (q : Int), strV xs] w fun e w' => e = .returned (.tuple #[]) ∧ ∃ c', MemAt2 w' B m sb (setC l q c') (fun k => if k = q then xs else img k) ∧ Below B w w' := by
 have hq : q < l.length := by
  rcases Nat.lt_or_ge q l.length with h1 | h1
  ·exact h1
  ·rw [List.getElem?_eq_none h1] at hsq; cases hsq
 have hsl := slotsL_length l
 obtain ⟨hpc, hBc⟩ := h.cp q s hsq
 have hml : (List.map CV.v (slotsL l)).length = 7 * l.length := by rw [List.length_map, hsl]
 have hpl : (List.map CV.v ((img q).map byteV)).length = 256 := by rw [List.length_map, List.length_map, hpc.len]
 have hcc : CellsAt w ⟨[m, sb], []⟩ s.c 0 ((img q).map byteV) := by
  refine ⟨heap_lt hpc.at_, ?_, fun j u hj => by simp [World.cell?, hpc.at_, hj]⟩
  rintro (h1 | h1)
  ·simp at h1
   rcases h1 with e | e
   ·have h3 := h.hm; rw [← e] at h3; cases cells_type (us := [.slice (some ⟨sb, 0, none⟩) l.length l.length, .bool false]) h3 hpc.at_
   ·have h3 := h.hs; rw [← e] at h3; cases cells_type h3 hpc.at_
  ·cases h1
 have g1 : (List.map CV.v (slotsL l))[0 + (q : Int).toNat * 7 + 1]? = some (.v (ptrV s.c)) := by
  rw [List.getElem?_map, show 0 + (q : Int).toNat * 7 + 1 = 7 * q + 1 by omega, slotsL_get (j := 1) hsq rfl]; rfl
 have g3 : (List.map CV.v (slotsL l))[0 + (q : Int).toNat * 7 + 3]? = some (.v (.bool false)) := by
  rw [List.getElem?_map, show 0 + (q : Int).toNat * 7 + 3 = 7 * q + 3 by omega, slotsL_get (j := 3) hsq rfl, hoc]; rfl
 refine calls_objs_satq [.p (.c (.ref 0 0)), one (intV (q : Int)), one (strV xs)] [ptrV m, intV (q : Int), strV xs] Tryz.func69 Tryz.ntmps69 rfl (by simp) (mem_objs h) ⟨_, _, rfl, den_mk_ref rfl, avdenL_of [intV (q : Int), strV xs]⟩ ?_
 refine satq_seqN ?_
 conv => whnf
 refine ⟨fun _ => ?_, fun hc => absurd hc (by simp)⟩
 conv => whnf
 (repeat ((first | apply k1 | apply k2 | apply k3 | apply k4 | refine k5 (by decide) ?_ | refine k6 (by decide) ?_); conv => whnf))
 refine call_pagesU l rfl rfl (T := []) ?_
 conv => whnf
 (repeat ((first | apply k1 | apply k2 | apply k3 | apply k4 | refine k5 (by decide) ?_ | refine k6 (by decide) ?_); conv => whnf))
 refine ⟨fun _ => ?_, fun hc => absurd hc (by simp; omega)⟩
 conv => whnf
 (repeat ((first | apply k1 | apply k2 | apply k3 | apply k4 | refine k5 (by decide) ?_ | refine k6 (by decide) ?_); conv => whnf))
 refine satq_seqN ?_
 conv => whnf
 (refine ⟨⟨by omega, by omega⟩, ?_⟩; (conv=>whnf))
 refine satq_seqN ?_
 conv => whnf
 erw [g1]
 conv => whnf
 refine q_nil_v _ rfl rfl rfl rfl ?_
 conv => whnf
 (repeat ((first | apply k1 | apply k2 | apply k3 | apply k4 | refine k5 (by decide) ?_ | refine k6 (by decide) ?_); conv => whnf))
 refine satq_cut (α := Unit) (fun _ => [(2, one (strV xs)), (6, .p (.c (.ref 1 (0 + (q : Int).toNat * 7))))]) (fun _ => [.cells 163 [.sl 1 0 l.length l.length, .v (.bool false)], .cells 168 ((((slotsL l).map CV.v).set (0 + (q : Int).toNat * 7 + 1) (.ref 2 0)).set (0 + (q : Int).toNat * 7 + 3) (.v (.bool true))), .cells 166 (((img q).map byteV).map .v)]) ?_ fun _ => ?_
 ·conv => whnf
  erw [g3]
  conv => whnf
  (repeat ((first | apply k1 | apply k2 | apply k3 | apply k4 | refine k5 (by decide) ?_ | refine k6 (by decide) ?_); conv => whnf))
  conv => whnf
  erw [g1]
  conv => whnf
  refine ⟨_, hcc, by rw [List.length_map, hpc.len]; rfl, ?_⟩
  conv => whnf
  rw [show Nat.beq (List.map CV.v (List.map byteV (img q))).length (Tryz.prog.types[166].size) = true from by rw [hpl]; rfl, byteV_flat]
  conv => whnf
  rw [hpl]
  conv => whnf
  erw [show Nat.ble (0 + (q : Int).toNat * 7 + 1 + 1) (List.map CV.v (slotsL l)).length = true from Nat.ble_eq_true_of_le (by rw [hml]; omega)]
  conv => whnf
  erw [show Nat.ble (List.map CV.v (slotsL l)).length 8 = false from by rw [hml]; exact ble_no (by omega)]
  conv => whnf
  have hul2 : (setAll (List.map CV.v (slotsL l)) (0 + (q : Int).toNat * 7 + 1) [CV.ref 2 0]).length = 7 * l.length := by rw [setAll_length, hml]
  erw [show Nat.ble (0 + (q : Int).toNat * 7 + 3 + 1) (setAll (List.map CV.v (slotsL l)) (0 + (q : Int).toNat * 7 + 1) [CV.ref 2 0]).length = true from Nat.ble_eq_true_of_le (by rw [hul2]; omega)]
  conv => whnf
  erw [show Nat.ble (setAll (List.map CV.v (slotsL l)) (0 + (q : Int).toNat * 7 + 1) [CV.ref 2 0]).length 8 = false from by rw [hul2]; exact ble_no (by omega)]
  conv => whnf
  exact ⟨(), ent_same rfl (aI rfl (aI rfl trivial)) (aI sM (aI sM (aI ((aI rfl (Or.inl (setAll_same (by rw [hpl]; kernel_rfl))))) trivial)))⟩
 ·have hL : ((((slotsL l).map CV.v).set (0 + (q : Int).toNat * 7 + 1) (.ref 2 0)).set (0 + (q : Int).toNat * 7 + 3) (.v (.bool true)))[0 + (q : Int).toNat * 7 + 1]? = some (CV.ref 2 0) := by
   rw [List.getElem?_set_ne (by omega), List.getElem?_set_self (by rw [hml]; omega)]
  refine satq_vcN ?_
  conv => whnf
  erw [hL]
  conv => whnf
  refine opS_q (q_slice_arr 2 0 256 rfl rfl rfl rfl rfl ?_) rfl
  conv => whnf
  refine op_copy_str xs 2 256 256 rfl rfl rfl rfl rfl rfl rfl hxs (by omega) (by rw [hpl]; omega) rfl ?_
  rw [setAll_same (show (List.map CV.v ((img q).map byteV)).length = (List.map CV.v (xs.map (Value.int .u8))).length by rw [hpl, List.length_map, List.length_map, hlen])]
  conv => whnf
  refine atq_end ?_
  conv => whnf
  refine ⟨fun r w' u hR hd => ?_⟩
  obtain rfl : u = .tuple #[] := by obtain ⟨us, rfl, rfl⟩ := hd; rfl
  obtain ⟨c', vs2, e1, e2, e3⟩ := hR.own 2 _ rfl
  have f0 := hR.first 0 m rfl
  have f1 := hR.first 1 sb rfl
  refine ⟨rfl, c', ?_⟩
  have hc' : w.heap.size ≤ c' := by
   rcases Nat.lt_or_ge c' w.heap.size with h2 | h2
   ·rcases (hR.new 2 c' e1).2 h2 with h3 | h3
    ·simp at h3
     rcases h3 with h3 | h3
     ·subst h3; have := hR.inj 0 2 c' f0 e1; omega
     ·subst h3; have := hR.inj 1 2 c' f1 e1; omega
    ·cases h3
   ·exact h2
  have k0 : w'.heap[m]? = some (.cells #[.slice (some ⟨sb, 0, none⟩) l.length l.length, .bool false] 163 (0, 0)) := by
   obtain ⟨b, vs, z1, z2, z3⟩ := hR.own 0 _ rfl
   rw [f0] at z1; injection z1 with z1; subst z1
   obtain ⟨v1, l2, rfl, d3, v2, l3, rfl, d4, d5⟩ := z3
   obtain rfl : l3 = [] := d5
   obtain ⟨sb', y1, rfl⟩ := d3
   rw [f1] at y1; injection y1 with y1; subst y1
   obtain rfl : v2 = .bool false := d4
   exact z2
  have k1 : w'.heap[sb]? = some (.cells (slotsL (setC l q c')).toArray 168 (0, 0)) := by
   obtain ⟨b, vs, z1, z2, z3⟩ := hR.own 1 _ rfl
   rw [f1] at z1; injection z1 with z1; subst z1
   have e4 : denL r ((((slotsL l).map CV.v).set (0 + (q : Int).toNat * 7 + 1) (.ref 2 0)).set (0 + (q : Int).toNat * 7 + 3) (.v (.bool true))) (((slotsL l).set (0 + (q : Int).toNat * 7 + 1) (ptrV c')).set (0 + (q : Int).toNat * 7 + 3) (.bool true)) :=
    denL_set _ (denL_set _ (denL_vals _) (by simp only [CV.den]; exact ⟨c', e1, rfl⟩)) (by simp only [CV.den])
   have e5 := denL_det (n := 3) (fun c hc => by
    rcases List.mem_or_eq_of_mem_set hc with h5 | h5
    ·rcases List.mem_or_eq_of_mem_set h5 with h6 | h6
     ·obtain ⟨v, _, rfl⟩ := List.mem_map.1 h6; rfl
     ·rw [h6]; rfl
    ·rw [h5]; rfl) z3 e4
   rw [z2, e5, slotsL_setC c' hq, show 0 + (q : Int).toNat * 7 + 1 = 7 * q + 1 by omega, show 0 + (q : Int).toNat * 7 + 3 = 7 * q + 3 by omega]
  have k2 : PageAt w' c' xs := ⟨by rw [e2, denL_vals_inv e3], hlen, hxs⟩
  exact setC_mem h hq hc' k2 hR.growns k0 k1
end
end Go.Proofs.YtnhdcclpjildjaaGreat
namespace Go.Proofs.YtnhdcclpjildjaaGreat
open Go.RowKit

section
variable {B m sb : Nat} {img : Nat → List Int}
set_option maxRecDepth 100000 in
theorem image_walk {w : World} {l : List Slt} (h : MemAt2 w B m sb l img) {k : Nat} {s : Slt} (hk : l[k]? = some s) :
  Calls Tryz.prog 164 #[.pointer (some ⟨sb, 7 * k, none⟩)] w fun e w' => e = .returned (ptrV s.c) ∧ Below w.heap.size w w' := by
 refine calls_valN [.pointer (some ⟨sb, 7 * k, none⟩)] Tryz.func164 Tryz.ntmps164 rfl (by simp) ?_
 conv => whnf
 refine ⟨_, block_cells h.hs (off := 7 * k + 1) (slotsL_get (j := 1) hk rfl), ?_⟩
 conv => whnf
 refine q_nil_v _ rfl rfl rfl rfl ?_
 conv => whnf
 (repeat ((first | apply k1 | apply k2 | apply k3 | apply k4 | refine k5 (by decide) ?_ | refine k6 (by decide) ?_); conv => whnf))
 conv => whnf
 refine ⟨_, block_cells h.hs (off := 7 * k + 1) (slotsL_get (j := 1) hk rfl), ?_⟩
 conv => whnf
 exact fin_val rfl fun w' hB => ⟨rfl, hB⟩
def fetchL (l : List Slt) (img : Nat → List Int) (a : Int) : Option Int := match l[(a / 256).toNat]? with
 | none => none
 | some s => if s.r / 4 % 2 = 1 then some (((img (a / 256).toNat)[(a % 256).toNat]?).getD 0) else none
abbrev fetV (x : Option Int) : Value := .tuple #[.int .u8 (x.getD 0), .bool x.isSome]
theorem and_four_b {r : Int} (h : 0 ≤ r ∧ r < 8) : (bits .and .i64 r 4 == 0) = !decide (r / 4 % 2 = 1) := by
 rcases (by omega : r = 0 ∨ r = 1 ∨ r = 2 ∨ r = 3 ∨ r = 4 ∨ r = 5 ∨ r = 6 ∨ r = 7) with rfl | rfl | rfl | rfl | rfl | rfl | rfl | rfl <;> rfl
set_option maxRecDepth 100000 in
theorem fetchM_walk {w : World} {l : List Slt} (h : MemAt2 w B m sb l img) (a : Int) (ha : word a) (hr : ∀ s ∈ l, 0 ≤ s.r ∧ s.r < 8) :
  Calls Tryz.prog 163 #[ptrV m, .int .u32 a] w fun e w' => e = .returned (fetV (fetchL l img a)) ∧ Below w.heap.size w w' := by
 have hw : 0 ≤ a ∧ a < 4294967296 := ha
 refine calls_satq [ptrV m, .int .u32 a] Tryz.func163 Tryz.ntmps163 rfl (by simp) ?_
 refine satq_seqN ?_
 conv => whnf
 refine satq_seqN ?_
 conv => whnf
 refine call_con rfl (by kernel_rfl) (fun r w' hR => at_mem a (by rw [hR.toBelow.block _ (heap_lt h.hm)]; exact h.hm) ha) ?_
 by_cases hlt : a / 256 < (l.length : Int)
 ·obtain ⟨k, hk⟩ : ∃ k : Nat, (a / 256).toNat = k := ⟨_, rfl⟩
  have hkl : k < l.length := by omega
  obtain ⟨s, hs⟩ : ∃ s, l[k]? = some s := ⟨_, List.getElem?_eq_getElem hkl⟩
  obtain ⟨hp, _⟩ := h.cp k s hs
  have hat : atV sb l.length a = .pointer (some ⟨sb, 7 * k, none⟩) := by unfold atV; rw [if_pos hlt, hk]; congr 3; omega
  have hoff : 0 ≤ a % 256 ∧ a % 256 < 256 := by omega
  obtain ⟨x, hx⟩ : ∃ x, (img k)[(a % 256).toNat]? = some x := ⟨_, List.getElem?_eq_getElem (by rw [hp.len]; omega)⟩
  have hfl : fetchL l img a = if s.r / 4 % 2 = 1 then some x else none := by unfold fetchL; rw [hk, hs]; dsimp only; rw [hx]; rfl
  rw [hat, hfl]
  conv => whnf
  refine satq_seqN ?_
  conv => whnf
  refine q_nil_v _ rfl rfl rfl rfl ?_
  conv => whnf
  (repeat ((first | apply k1 | apply k2 | apply k3 | apply k4 | refine k5 (by decide) ?_ | refine k6 (by decide) ?_); conv => whnf))
  refine ⟨_, block_cells h.hs (off := 7 * k + 6) (slotsL_get (j := 6) hs rfl), ?_⟩
  conv => whnf
  (repeat ((first | apply k1 | apply k2 | apply k3 | apply k4 | refine k5 (by decide) ?_ | refine k6 (by decide) ?_); conv => whnf))
  refine ⟨_, rfl, ?_⟩
  conv => whnf
  (repeat ((first | apply k1 | apply k2 | apply k3 | apply k4 | refine k5 (by decide) ?_ | refine k6 (by decide) ?_); conv => whnf))
  rw [and_four_b (hr s (List.mem_of_getElem? hs))]
  by_cases h4 : s.r / 4 % 2 = 1
  ·rw [if_pos h4, decide_eq_true h4]
   (repeat ((first | apply k1 | apply k2 | apply k3 | apply k4 | refine k5 (by decide) ?_ | refine k6 (by decide) ?_); conv => whnf))
   conv => whnf
   refine satq_vcN ?_
   conv => whnf
   refine call_con rfl (by kernel_rfl) (fun r w' hR => image_walk (h.later hR.toBelow) hs) ?_
   conv => whnf
   refine ⟨by decide, a % 256, Int.tmod_eq_emod_of_nonneg hw.1, ?_⟩
   conv => whnf
   refine q_index_ptr (size := 1) s.c 0 256 (a % 256) rfl rfl rfl rfl rfl rfl hoff.1 hoff.2 ?_
   conv => whnf
   refine ⟨_, block_cells hp.at_ (off := 0 + (a % 256).toNat * 1) (x := byteV x) (by rw [Nat.zero_add, Nat.mul_one, List.getElem?_map, hx]; rfl), ?_⟩
   conv => whnf
   refine atq_ret ?_
   conv => whnf
   exact fin_val rfl fun w' hB => ⟨rfl, hB⟩
  ·rw [if_neg h4, decide_eq_false h4]
   (repeat ((first | apply k1 | apply k2 | apply k3 | apply k4 | refine k5 (by decide) ?_ | refine k6 (by decide) ?_); conv => whnf))
   conv => whnf
   refine atq_ret ?_
   conv => whnf
   exact fin_val rfl fun w' hB => ⟨rfl, hB⟩
 ·have hat : atV sb l.length a = .pointer none := by unfold atV; rw [if_neg hlt]
  have hfl : fetchL l img a = none := by unfold fetchL; rw [List.getElem?_eq_none (by omega)]
  rw [hat, hfl]
  conv => whnf
  refine satq_seqN ?_
  conv => whnf
  refine q_nil_v _ rfl rfl rfl rfl ?_
  conv => whnf
  (repeat ((first | apply k1 | apply k2 | apply k3 | apply k4 | refine k5 (by decide) ?_ | refine k6 (by decide) ?_); conv => whnf))
  refine atq_ret ?_
  conv => whnf
  exact fin_val rfl fun w' hB => ⟨rfl, hB⟩
end
end Go.Proofs.YtnhdcclpjildjaaGreat
namespace Go.Proofs.YtnhdcclpjildjaaGreat
open Go.RowKit

set_option maxRecDepth 100000 in
set_option maxHeartbeats 4000000 in
theorem read_walk (w : World) (F : Int → Option Int) (hF : ∀ a b, F a = some b → 0 ≤ b ∧ b < 256) (m : Nat) (t : TypeId) (hm : ∀ w, (method (Tryz.prog.types.size + Made.depth) t (ptrV m) "Fetch").run Tryz.prog w = .ok (163, ptrV m) w) (a : Int) (ha : word a)
  (hcall : ∀ w' x, Below w.heap.size w w' → word x → Calls Tryz.prog 163 #[ptrV m, .int .u32 x] w' fun e w2 => e = .returned (fetV (F x)) ∧ Below w'.heap.size w' w2) :
  Calls Tryz.prog 72 #[.int .u32 a, .iface t (ptrV m)] w fun e w' => e = .returned (.tuple #[qiV ((readQ F a).getD QI.zero), .bool (readQ F a).isSome]) ∧ Below w.heap.size w w' := by
 refine calls_satq [.int .u32 a, .iface t (ptrV m)] Tryz.func72 Tryz.ntmps72 rfl (by simp) ?_
 refine satq_seqN ?_
 conv => whnf
 refine satq_seqN ?_
 conv => whnf
 refine ⟨by decide, a % 4, Int.tmod_eq_emod_of_nonneg ha.1, ?_⟩
 conv => whnf
 refine ⟨fun hc => ?_, fun hc => ?_⟩
 ·have h4 : ¬ a % 4 = 0 := by simpa using hc
  have hr : readQ F a = none := by unfold readQ; rw [if_neg h4]
  conv => whnf
  refine atq_ret ?_
  conv => whnf
  rw [hr]
  exact fin_val rfl fun w2 hB => ⟨rfl, hB⟩
 have h4 : a % 4 = 0 := by simpa using hc
 have hr : readQ F a = (readN F a 4).bind decQ := by unfold readQ; rw [if_pos h4]
 rw [hr]
 clear hc
 conv => whnf
 refine satq_seqN ?_
 conv => whnf
 refine satq_mid (α := { x : Int // readN F a 4 = some x }) (fun x => [(4, .p (.c (.ref 0 0))), (5, one (.bool false)), (6, one (.int .u32 x.1))]) (fun _ => [.cells qiT ((qiL QI.zero).map .v)]) ?_ fun x => ?_
 ·refine satq_seqN ?_
  conv => whnf
  refine satq_block ?_
  refine satq_loop (α := RdS F a) (fun x => [(0, one (.int .u32 a)), (1, one (.iface t (ptrV m))), (4, .p (.c (.ref 0 0))), (5, one (.bool false)), (6, one (.int .u32 x.k)), (16, one (.int .u32 (x.j : Int)))]) (fun _ => [.cells qiT ((qiL QI.zero).map .v)]) (fun x => 4 - x.j) ⟨0, 0, by omega, rfl⟩
   (ent_same rfl (aI rfl (aI rfl (aI rfl (aI rfl (aI rfl (aI rfl trivial)))))) (aI sM trivial)) fun x => ?_
  obtain ⟨j, k, hj, hk⟩ := x
  dsimp only
  have hkb := readN_lt hF hk
  refine satq_seqN ?_
  conv => whnf
  refine satq_seqN ?_
  conv => whnf
  refine ⟨fun hc => ?_, fun hc => ?_⟩
  ·have hlt : j < 4 := by simp at hc; omega
   conv => whnf
   refine satq_in (satq_block ?_)
   refine satq_seqN ?_
   conv => whnf
   refine satq_seqN ?_
   conv => whnf
   refine ⟨a + j, by rw [wr32]; unfold word at ha; omega, ?_⟩
   conv => whnf
   have hwx : word (a + j) := by unfold word at ha ⊢; omega
   refine op_invoke rfl rfl rfl hm ?_
   refine call_con rfl (by kernel_rfl) (fun r w' hR => hcall w' (a + j) hR.toBelow hwx) ?_
   have hfb := hF (a + j)
   have hno := readN_none (F := F) (a := a) (i := j) (j := 4)
   have hnx : readN F a (j + 1) = match readN F a j, F (a + j) with
    | some k, some b => some (k + b * 256 ^ j)
    | _, _ => none := rfl
   rw [hk] at hnx
   generalize F (a + j) = fb at hfb hno hnx ⊢
   cases fb with
   | none =>
    rw [hno rfl hlt]
    conv => whnf
    refine satq_seqN ?_
    conv => whnf
    refine ⟨fun _ => ?_, fun hc => absurd hc (by decide)⟩
    conv => whnf
    refine atq_up (atq_ret ?_) fun a w hq => hq
    conv => whnf
    exact fin_val rfl fun w2 hB => ⟨rfl, hB⟩
   | some b =>
    have hbb := hfb b rfl
    conv => whnf
    refine satq_seqN ?_
    conv => whnf
    refine ⟨fun hc => absurd hc (by simp), fun _ => ?_⟩
    conv => whnf
    refine satq_vcN ?_
    conv => whnf
    have hj4 : j = 0 ∨ j = 1 ∨ j = 2 ∨ j = 3 := by omega
    refine ⟨b, by rw [wr32]; show b % 4294967296 = b; omega, ?_⟩
    conv => whnf
    refine ⟨8 * (j : Int), by rw [wr32]; omega, ?_⟩
    conv => whnf
    refine ⟨by omega, b * 256 ^ j, ?_, ?_⟩
    ·rw [wr32]
     rcases hj4 with rfl | rfl | rfl | rfl
     ·show b * 2 ^ 0 % 4294967296 = b * 256 ^ 0; omega
     ·show b * 2 ^ 8 % 4294967296 = b * 256 ^ 1; omega
     ·show b * 2 ^ 16 % 4294967296 = b * 256 ^ 2; omega
     ·show b * 2 ^ 24 % 4294967296 = b * 256 ^ 3; omega
    conv => whnf
    have hor : orI k (b * 256 ^ j) = k + b * 256 ^ j := by
     unfold orI
     rw [Nat.or_comm]
     have := orI_add (a := b * 256 ^ j) (b := k) (8 * j) (Int.mul_nonneg hbb.1 (Int.le_of_lt (Int.pow_pos (by decide)))) (by rw [show (2 : Int) ^ (8 * j) = 256 ^ j by rw [Int.pow_mul]; rfl]; exact Int.mul_emod_left _ _) (by rw [show (2 : Int) ^ (8 * j) = 256 ^ j by rw [Int.pow_mul]; rfl]; exact hkb)
     unfold orI at this
     rw [this]; omega
    have hww : word k ∧ word (b * 256 ^ j) := by
     rcases hj4 with rfl | rfl | rfl | rfl <;> (unfold word; simp at hkb ⊢; omega)
    refine ⟨k + b * 256 ^ j, (u32_or hww.1 hww.2).trans hor, ?_⟩
    conv => whnf
    refine atq_block (atq_on ?_)
    refine satq_vcN ?_
    conv => whnf
    refine ⟨(j : Int) + 1, by rw [wr32]; omega, ?_⟩
    conv => whnf
    exact atq_next ⟨j + 1, k + b * 256 ^ j, by omega, hnx⟩ (ent_same rfl (aI rfl (aI rfl (aI rfl (aI rfl (aI rfl (aI rfl trivial)))))) (aI sM trivial)) (by show 4 - (j + 1) < 4 - j; omega)
  ·have he : j = 4 := by simp at hc; omega
   subst he
   conv => whnf
   exact atq_out (atq_exit (atq_mid ⟨k, hk⟩ (ent_same rfl (aI rfl (aI rfl (aI rfl trivial))) (aI sM trivial))))
 obtain ⟨x, hx⟩ := x
 dsimp only
 rw [hx]
 have hxw : word x := by have := readN_lt hF hx; unfold word; omega
 refine satq_seqN ?_
 conv => whnf
 refine call_con rfl (by kernel_rfl) (fun r w' hR => decode_walk x w' hxw) ?_
 obtain ⟨y, hy⟩ : ∃ y, decQ x = y := ⟨_, rfl⟩
 have hb : (some x).bind decQ = y := hy
 rw [hb, hy]
 conv => whnf
 refine satq_seqN ?_
 conv => whnf
 refine satq_vcN ?_
 conv => whnf
 refine atq_ret ?_
 conv => whnf
 exact fin_val rfl fun w2 hB => ⟨by cases y <;> rfl, hB⟩
end Go.Proofs.YtnhdcclpjildjaaGreat
namespace Go.Proofs.YtnhdcclpjildjaaGreat
open Go.RowKit

theorem below_next {a b c : World} (h : Below a.heap.size a b) (k : Below b.heap.size b c) : Below a.heap.size a c := ⟨k.os.trans h.os, k.tape.trans h.tape, k.output.trans h.output, Nat.le_trans h.size k.size, fun i hi => (k.block i (Nat.lt_of_lt_of_le hi h.size)).trans (h.block i hi)⟩
theorem addTo_four (l : List Int) (a : Int) : addTo l a 4 = addPages l a := by simp [addTo, addPages]
abbrev blT : TypeId := 32
abbrev nilB : Value := .slice none 0 0
abbrev zerosC : List CV := [.v nilB, .v nilB, .v nilB]
abbrev liftS (ats ps : List Int) (ops : List BOp) : List Ow := [.cells blT zerosC, .cells liT [.row 2, .row 3, .row 4], .row 35 1 ats.length (ats.map (.int .u32)), .row 3 1 ps.length (ps.map intV), .row opT 5 ops.length (ops.flatMap opC)]
set_option maxRecDepth 100000 in
set_option maxHeartbeats 8000000 in
theorem lift_walk (w : World) (F : Int → Option Int) (hF : ∀ a b, F a = some b → 0 ≤ b ∧ b < 256) (m : Nat) (t : TypeId) (hm : ∀ w, (method (Tryz.prog.types.size + Made.depth) t (ptrV m) "Fetch").run Tryz.prog w = .ok (163, ptrV m) w)
  (hcall : ∀ w' x, Below w.heap.size w w' → word x → Calls Tryz.prog 163 #[ptrV m, .int .u32 x] w' fun e w2 => e = .returned (fetV (F x)) ∧ Below w'.heap.size w' w2) (pc most : Int) (_hpc : word pc) :
  Calls Tryz.prog 40 #[.int .u32 pc, .iface t (ptrV m), intV most] w fun e w' => ∃ v1 v2 v3, e = .returned (.agg #[v1, v2, v3]) ∧ Rows3 w.heap.size w' v1 v2 v3 (liftQ (readQ F) pc (limN most)) ∧ Below w.heap.size w w' := by
 refine calls_satq [.int .u32 pc, .iface t (ptrV m), intV most] Tryz.func40 Tryz.ntmps40 rfl (by simp) ?_
 refine satq_seqN ?_
 conv => whnf
 refine satq_seqN ?_
 conv => whnf
 refine op_max rfl rfl rfl rfl ?_
 conv => whnf
 refine op_min rfl rfl rfl rfl ?_
 have hlim : (if 64 < (if most < 1 then 1 else most) then 64 else (if most < 1 then 1 else most)) = ((limN most : Nat) : Int) := by
  unfold limN; split <;> split <;> omega
 rw [hlim]
 obtain ⟨hn1, hn64⟩ := limN_ok most
 generalize limN most = n at hn1 hn64 ⊢
 clear hlim
 conv => whnf
 refine satq_seqN ?_
 conv => whnf
 refine satq_as (ent_field 1 0 35 1 rfl rfl) ?_
 refine satq_as (ent_field 1 1 3 1 rfl rfl) ?_
 refine satq_as (ent_field 1 2 opT 5 rfl rfl) ?_
 conv => whnf
 refine satq_mid (α := { p : List Int // (∀ x, x ∈ p ↔ x ∈ liftPages pc (liftLen (readQ F) pc n n 0)) ∧ p.length ≤ 256 }) (fun x => [(6, .p (.c (.ref 0 0))), (8, .p (.c (.ref 1 0)))]) (fun x => liftS (liftAts pc (liftLen (readQ F) pc n n 0)) x.1 (liftOps (readQ F) pc n n 0)) ?_ fun x => ?_
 ·refine satq_seqN ?_
  conv => whnf
  refine satq_block ?_
  refine satq_loop (α := LfS (readQ F) pc n) (fun x => [(0, one (.int .u32 pc)), (1, one (.iface t (ptrV m))), (6, .p (.c (.ref 0 0))), (7, one (.int .i64 (n : Int))), (8, .p (.c (.ref 1 0))), (9, one (.bool x.more))]) (fun x => liftS (liftAts pc x.k) x.ps x.pre) (fun x => (n - x.k) + if x.more then 1 else 0)
   ⟨true, 0, [], [], by omega, fun x => by simp [liftPages], by simp, by simp, fun _ => ⟨by omega, rfl, rfl⟩, fun h => by cases h⟩
   (ent_same rfl (aI rfl (aI rfl (aI rfl (aI rfl (aI rfl (aI rfl trivial)))))) (aI sM (aI sM (aI ((aI rfl (aI rfl (aI rfl rfl)))) (aI ((aI rfl (aI rfl (aI rfl rfl)))) (aI ((aI rfl (aI rfl (aI rfl rfl)))) trivial)))))) fun x => ?_
  obtain ⟨more, k, ps, pre, hk, hps, hpl, hol, hgo, hend⟩ := x
  dsimp only
  refine satq_seqN ?_
  conv => whnf
  refine ⟨fun hc => ?_, fun hc => ?_⟩
  ·obtain ⟨hkn, hops, hlen⟩ := hgo hc
   have hal : (liftAts pc k).length = k := by simp [liftAts]
   conv => whnf
   refine satq_block ?_
   refine satq_seqN ?_
   conv => whnf
   rw [hal]
   refine ⟨4 * (k : Int), by rw [wr64] <;> omega, ?_⟩
   conv => whnf
   refine ⟨4 * (k : Int), by rw [wr32]; omega, ?_⟩
   conv => whnf
   refine ⟨qAddr pc k, by rw [wr32]; rfl, ?_⟩
   conv => whnf
   refine satq_in (satq_kill 10 rfl rfl rfl ?_)
   conv => whnf
   rw [hal]
   refine ⟨(k : Int), by rw [wr32]; omega, ?_⟩
   conv => whnf
   refine kill_add 1 4 5 1 [⟨20, 0, 0, 0, (k : Int)⟩] rfl rfl rfl rfl ⟨by decide, by decide, by decide⟩ (Nat.zero_le _) rfl rfl (by omega) ?_
   conv => whnf
   refine atq_on ?_
   refine satq_seqN ?_
   conv => whnf
   refine appK_sound rfl ?_ rfl
   conv => whnf
   refine ⟨by omega, ?_⟩
   conv => whnf
   have hadd : ∀ x, x ∈ addTo (liftPages pc k) (qAddr pc k) 4 ↔ x ∈ liftPages pc (k + 1) := fun x => by rw [addTo_four]; rfl
   refine satq_mid (α := { q : List Int // (∀ x, x ∈ q ↔ x ∈ liftPages pc (k + 1)) ∧ q.length ≤ 4 * (k + 1) }) (fun x => [(0, one (.int .u32 pc)), (1, one (.iface t (ptrV m))), (6, .p (.c (.ref 0 0))), (7, one (.int .i64 (n : Int))), (8, .p (.c (.ref 1 0))), (10, one (.int .u32 (qAddr pc k)))]) (fun x => liftS (liftAts pc (k + 1)) x.1 (pre ++ [⟨20, 0, 0, 0, (k : Int)⟩])) ?_ fun x => ?_
   ·refine satq_seqN ?_
    conv => whnf
    refine satq_block ?_
    refine satq_loop (α := PgS (liftPages pc k) (qAddr pc k) (4 * k)) (fun x => [(0, one (.int .u32 pc)), (1, one (.iface t (ptrV m))), (6, .p (.c (.ref 0 0))), (7, one (.int .i64 (n : Int))), (8, .p (.c (.ref 1 0))), (10, one (.int .u32 (qAddr pc k))), (54, one (.int .u32 (x.j : Int)))]) (fun x => liftS (liftAts pc (k + 1)) x.q (pre ++ [⟨20, 0, 0, 0, (k : Int)⟩])) (fun x => 4 - x.j)
     ⟨0, ps, by omega, hps, hpl⟩
     (ent_drop (aI rfl (aI rfl (aI rfl (aI rfl (aI rfl (aI rfl (aI rfl trivial))))))) (aI sM (aI sM (aI ((aI rfl (aI rfl (aI (by simp [liftAts]) (by simp [liftAts_succ]))))) (aI ((aI rfl (aI rfl (aI rfl rfl)))) (aI ((aI rfl (aI rfl (aI rfl rfl)))) trivial))))) rfl rfl) fun x => ?_
    obtain ⟨j, q, hj, hq, hql⟩ := x
    dsimp only
    have haw : word (qAddr pc k) := cut32_word _
    refine satq_seqN ?_
    conv => whnf
    refine satq_seqN ?_
    conv => whnf
    refine ⟨fun hc => ?_, fun hc => ?_⟩
    ·have hlt : j < 4 := by simp at hc; omega
     conv => whnf
     have hcut : word (cut32 (qAddr pc k + j)) := cut32_word _
     refine satq_mid (α := { q2 : List Int // (∀ x, x ∈ q2 ↔ x ∈ addTo (liftPages pc k) (qAddr pc k) (j + 1)) ∧ q2.length ≤ 4 * k + (j + 1) }) (fun x => [(0, one (.int .u32 pc)), (1, one (.iface t (ptrV m))), (6, .p (.c (.ref 0 0))), (7, one (.int .i64 (n : Int))), (8, .p (.c (.ref 1 0))), (10, one (.int .u32 (qAddr pc k))), (54, one (.int .u32 (j : Int)))]) (fun x => liftS (liftAts pc (k + 1)) x.1 (pre ++ [⟨20, 0, 0, 0, (k : Int)⟩])) ?_ fun x => ?_
     ·refine satq_vcN ?_
      conv => whnf
      refine ⟨cut32 (qAddr pc k + j), by rw [wr32]; rfl, ?_⟩
      conv => whnf
      refine ⟨by decide, pageOf (qAddr pc k + j), by rw [Int.tdiv_eq_ediv_of_nonneg hcut.1, wr32]; unfold pageOf; unfold word at hcut; omega, ?_⟩
      conv => whnf
      refine ⟨fun hc => ?_, fun hc => ?_⟩
      ·have hp : pageOf (qAddr pc k + j) < 4096 := by simpa using hc
       conv => whnf
       refine ⟨pageOf (qAddr pc k + j), by have : 0 ≤ pageOf (qAddr pc k + j) := Int.ediv_nonneg hcut.1 (by decide); rw [wr64] <;> omega, ?_⟩
       conv => whnf
       refine appK_sound rfl ?_ rfl
       conv => whnf
       refine ⟨by omega, ?_⟩
       conv => whnf
       exact atq_mid ⟨q ++ [pageOf (qAddr pc k + j)], fun x => by rw [addTo, mem_addPage, List.mem_append, hq]; simp [hp], by simp; omega⟩ (ent_drop (aI rfl (aI rfl (aI rfl (aI rfl (aI rfl (aI rfl (aI rfl trivial))))))) (aI sM (aI sM (aI ((aI rfl (aI rfl (aI rfl rfl)))) (aI ((aI rfl (aI rfl (aI (by simp) (by simp))))) (aI ((aI rfl (aI rfl (aI rfl rfl)))) trivial))))) rfl rfl)
      ·have hp : ¬ pageOf (qAddr pc k + j) < 4096 := by simpa using hc
       conv => whnf
       exact atq_mid ⟨q, fun x => by rw [addTo, mem_addPage, hq]; simp [hp], by omega⟩ (ent_same rfl (aI rfl (aI rfl (aI rfl (aI rfl (aI rfl (aI rfl (aI rfl trivial))))))) (aI sM (aI sM (aI ((aI rfl (aI rfl (aI rfl rfl)))) (aI ((aI rfl (aI rfl (aI rfl rfl)))) (aI ((aI rfl (aI rfl (aI rfl rfl)))) trivial))))))
     ·obtain ⟨q2, hq2, hl2⟩ := x
      dsimp only
      refine satq_vcN ?_
      conv => whnf
      refine ⟨(j : Int) + 1, by rw [wr32]; omega, ?_⟩
      conv => whnf
      exact atq_next ⟨j + 1, q2, by omega, hq2, hl2⟩ (ent_same rfl (aI rfl (aI rfl (aI rfl (aI rfl (aI rfl (aI rfl (aI rfl trivial))))))) (aI sM (aI sM (aI ((aI rfl (aI rfl (aI rfl rfl)))) (aI ((aI rfl (aI rfl (aI rfl rfl)))) (aI ((aI rfl (aI rfl (aI rfl rfl)))) trivial)))))) (by show 4 - (j + 1) < 4 - j; omega)
    ·have he : j = 4 := by simp at hc; omega
     subst he
     conv => whnf
     exact atq_out (atq_exit (atq_mid ⟨q, fun x => (hq x).trans (hadd x), by omega⟩ (ent_same rfl (aI rfl (aI rfl (aI rfl (aI rfl (aI rfl (aI rfl trivial)))))) (aI sM (aI sM (aI ((aI rfl (aI rfl (aI rfl rfl)))) (aI ((aI rfl (aI rfl (aI rfl rfl)))) (aI ((aI rfl (aI rfl (aI rfl rfl)))) trivial))))))))
   obtain ⟨q, hq2, hql⟩ := x
   dsimp only
   have haw : word (qAddr pc k) := cut32_word _
   refine satq_seqN ?_
   conv => whnf
   refine call_con rfl (by kernel_rfl) (fun r w' hR => read_walk w' F hF m t hm (qAddr pc k) haw fun w2 x hB hx => hcall w2 x (below_next hR.toBelow hB) hx) ?_
   conv => whnf
   obtain ⟨i, hi⟩ : ∃ i, qAt (readQ F) (qAddr pc k) = i := ⟨_, rfl⟩
   have hiok : i.ok := hi ▸ qAt_ok (fun a i h => readQ_ok hF h) _
   have hi2 : (readQ F (qAddr pc k)).getD QI.zero = i := hi
   rw [hi2]
   refine satq_mid (α := Unit) (fun _ => [(0, one (.int .u32 pc)), (1, one (.iface t (ptrV m))), (6, .p (.c (.ref 0 0))), (7, one (.int .i64 (n : Int))), (8, .p (.c (.ref 1 0))), (10, one (.int .u32 (qAddr pc k))), (13, .p (.c (.ref 5 0)))]) (fun _ => liftS (liftAts pc (k + 1)) q (pre ++ [⟨20, 0, 0, 0, (k : Int)⟩]) ++ [.cells qiT ((qiL i).map .v)]) ?_ fun _ => ?_
   ·refine satq_vcN ?_
    conv => whnf
    refine ⟨fun hc => ?_, fun hc => ?_⟩
    ·have hz : i = QI.zero := by
      rw [← hi2]
      cases hr : readQ F (qAddr pc k) with
      | none => rfl
      | some y => rw [hr] at hc; cases hc
     subst hz
     conv => whnf
     exact atq_mid () (ent_same rfl (aI rfl (aI rfl (aI rfl (aI rfl (aI rfl (aI rfl (aI rfl trivial))))))) (aI sM (aI sM (aI ((aI rfl (aI rfl (aI rfl rfl)))) (aI ((aI rfl (aI rfl (aI rfl rfl)))) (aI ((aI rfl (aI rfl (aI rfl rfl)))) (aI sM trivial)))))))
    ·conv => whnf
     exact atq_mid () (ent_same rfl (aI rfl (aI rfl (aI rfl (aI rfl (aI rfl (aI rfl (aI rfl trivial))))))) (aI sM (aI sM (aI ((aI rfl (aI rfl (aI rfl rfl)))) (aI ((aI rfl (aI rfl (aI rfl rfl)))) (aI ((aI rfl (aI rfl (aI rfl rfl)))) (aI sM trivial)))))))
   ·obtain ⟨fu, hfu⟩ : ∃ fu, n - k = fu + 1 := ⟨n - k - 1, by omega⟩
    have hbl := qBody_length i (qAddr pc k)
    have hw := fun w g vA vP vO (h : LiftAt w g vA vP vO (pre ++ [⟨20, 0, 0, 0, (k : Int)⟩])) => instr_walk i (qAddr pc k) h hiok (by simp; omega)
    have hfu2 : fu = n - (k + 1) := by omega
    rw [hfu, liftOps_succ, hi] at hops
    rw [hfu, liftLen_succ, hi] at hlen
    have hal' : (liftAts pc (k + 1)).length = k + 1 := by simp [liftAts]
    cases hq : qTail i (qAddr pc k) with
    | some tl =>
     have htl := qTail_length hq
     simp only [hq, Option.isNone_some, Option.getD_some] at hw hops hlen
     refine satq_in (satq_kill 3 rfl rfl rfl ?_)
     conv => whnf
     refine kill_lift 1 4 (pre ++ [⟨20, 0, 0, 0, (k : Int)⟩] ++ (qBody i (qAddr pc k) ++ tl)) (.bool false) rfl rfl (by decide) (Nat.zero_le _) rfl rfl (by rfl) (by kernel_rfl) hw ?_
     conv => whnf
     refine atq_on ?_
     refine satq_vcN ?_
     conv => whnf
     (repeat ((first | apply k1 | apply k2 | apply k3 | apply k4 | refine k5 (by decide) ?_ | refine k6 (by decide) ?_); conv => whnf))
     exact atq_block (atq_next ⟨false, k + 1, q, pre ++ [⟨20, 0, 0, 0, (k : Int)⟩] ++ (qBody i (qAddr pc k) ++ tl), by omega, hq2, hql, by simp; omega, fun h => (by cases h), fun _ => ⟨by rw [← hops]; simp, hlen⟩⟩ (ent_drop (aI rfl (aI rfl (aI rfl (aI rfl (aI rfl (aI rfl trivial)))))) (aI sM (aI sM (aI ((aI rfl (aI rfl (aI rfl rfl)))) (aI ((aI rfl (aI rfl (aI rfl rfl)))) (aI ((aI rfl (aI rfl (aI rfl rfl)))) trivial))))) rfl rfl) (by show n - (k + 1) + 0 < _; rw [if_pos hc]; omega))
    | none =>
     simp only [hq, Option.isNone_none, Option.getD_none, List.append_nil] at hw hops hlen
     refine satq_in (satq_kill 3 rfl rfl rfl ?_)
     conv => whnf
     refine kill_lift 1 4 (pre ++ [⟨20, 0, 0, 0, (k : Int)⟩] ++ qBody i (qAddr pc k)) (.bool true) rfl rfl (by decide) (Nat.zero_le _) rfl rfl (by rfl) (by kernel_rfl) hw ?_
     conv => whnf
     refine atq_on ?_
     refine satq_seqN ?_
     conv => whnf
     (repeat ((first | apply k1 | apply k2 | apply k3 | apply k4 | refine k5 (by decide) ?_ | refine k6 (by decide) ?_); conv => whnf))
     refine satq_cond rfl (fun hk1 => ?_) (fun hk1 => ?_)
     ·have hkn1 : k + 1 = n := by
       have : ((liftAts pc (k + 1)).length : Int) = n := by simpa using hk1
       omega
      rw [if_pos hkn1] at hops hlen
      refine satq_in (satq_kill 5 rfl rfl rfl ?_)
      conv => whnf
      refine ⟨cut32 (qAddr pc k + 4), by rw [wr32]; rfl, ?_⟩
      conv => whnf
      refine kill_add 1 4 6 1 [⟨24, 0, 0, 0, cut32 (qAddr pc k + 4)⟩] rfl rfl rfl rfl ⟨by decide, by decide, by decide⟩ (Nat.zero_le _) rfl rfl (by simp; omega) ?_
      conv => whnf
      refine atq_on ?_
      refine satq_vcN ?_
      conv => whnf
      exact atq_block (atq_next ⟨false, k + 1, q, pre ++ [⟨20, 0, 0, 0, (k : Int)⟩] ++ qBody i (qAddr pc k) ++ [⟨24, 0, 0, 0, cut32 (qAddr pc k + 4)⟩], by omega, hq2, hql, by simp; omega, fun h => (by cases h), fun _ => ⟨by rw [← hops]; simp, hlen⟩⟩ (ent_drop (aI rfl (aI rfl (aI rfl (aI rfl (aI rfl (aI rfl trivial)))))) (aI sM (aI sM (aI ((aI rfl (aI rfl (aI rfl rfl)))) (aI ((aI rfl (aI rfl (aI rfl rfl)))) (aI ((aI rfl (aI rfl (aI rfl rfl)))) trivial))))) rfl rfl) (by show n - (k + 1) + 0 < _; rw [if_pos hc]; omega))
     ·have hkn1 : ¬ k + 1 = n := by
       intro e
       have : (((liftAts pc (k + 1)).length : Int) == n) = true := by simp; omega
       rw [show (bif true then (((liftAts pc (k + 1)).length : Int) == n) else false) = (((liftAts pc (k + 1)).length : Int) == n) from rfl, this] at hk1
       cases hk1
      rw [if_neg hkn1] at hops hlen
      rw [hfu2] at hops hlen
      refine satq_skip ?_
      exact atq_block (atq_next ⟨true, k + 1, q, pre ++ [⟨20, 0, 0, 0, (k : Int)⟩] ++ qBody i (qAddr pc k), by omega, hq2, hql, by simp; omega, fun _ => ⟨by omega, by rw [← hops]; simp, hlen⟩, fun h => (by cases h)⟩ (ent_drop (aI rfl (aI rfl (aI rfl (aI rfl (aI rfl (aI rfl trivial)))))) (aI sM (aI sM (aI ((aI rfl (aI rfl (aI rfl rfl)))) (aI ((aI rfl (aI rfl (aI rfl rfl)))) (aI ((aI rfl (aI rfl (aI rfl rfl)))) trivial))))) rfl rfl) (by show n - (k + 1) + 1 < _; rw [if_pos hc]; omega))
  ·obtain ⟨hops, hlen⟩ := hend hc
   subst hops
   subst hlen
   conv => whnf
   exact atq_out (atq_exit (atq_mid ⟨ps, hps, by omega⟩ (ent_same rfl (aI rfl (aI rfl trivial)) (aI sM (aI sM (aI ((aI rfl (aI rfl (aI rfl rfl)))) (aI ((aI rfl (aI rfl (aI rfl rfl)))) (aI ((aI rfl (aI rfl (aI rfl rfl)))) trivial))))))))
 obtain ⟨ps, hps, hpl⟩ := x
 dsimp only
 have hul := uniqL_length ps
 obtain ⟨hui, hum⟩ := uniqL_is ps
 have hup : uniqL ps = liftPages pc (liftLen (readQ F) pc n n 0) := liftPages_is hui fun x => (hum x).trans (hps x)
 refine satq_in (satq_kill 6 rfl rfl rfl ?_)
 conv => whnf
 refine kill_row (e := 3) (size := 1) (n := ps.length) (n' := (uniqL ps).length) (xs := ps.map intV) (xs' := (uniqL ps).map intV) 3 rfl (Nat.zero_le _) (by kernel_rfl) (fun w v h => unique_walk w v ps (by omega) h) ?_
 conv => whnf
 refine atq_on ?_
 refine satq_vcN ?_
 conv => whnf
 refine atq_ret ?_
 conv => whnf
 exact fin_rows3 2 3 4 (liftQ (readQ F) pc n) (by decide) (by decide) (by decide) (.inl ⟨rfl, rfl⟩) (.inl ⟨rfl, by rw [hup]; rfl⟩) (.inl ⟨rfl, rfl⟩) fun w v1 v2 v3 h1 h2 => ⟨_, _, _, rfl, h1, h2⟩
end Go.Proofs.YtnhdcclpjildjaaGreat
namespace Go.Proofs.YtnhdcclpjildjaaGreat
open Go.RowKit

theorem setAll_in {α : Type} : ∀ (C X Y : List α) (off : Nat), setAll (X ++ Y) (X.length + off) C = X ++ setAll Y off C
 | [], X, Y, off => rfl
 | c :: C, X, Y, off => by
  show setAll ((X ++ Y).set (X.length + off) c) (X.length + off + 1) C = X ++ setAll (Y.set off c) (off + 1) C
  rw [List.set_append_right _ _ (by omega), show X.length + off - X.length = off by omega, show X.length + off + 1 = X.length + (off + 1) by omega]
  exact setAll_in C X _ (off + 1)
abbrev nilV : Value := .pointer none
abbrev newC : List CV := [.ref 2 0, .ref 2 0, .v (.bool false), .v (.bool false), .ref 2 0, .ref 2 0, .v (intV 0)]
abbrev rawV : List Value := [nilV, nilV, .bool false, .bool false, nilV, nilV, intV 0]
def newL (p j : Nat) : List CV := (List.replicate j newC).flatten ++ (List.replicate (p - j) (rawV.map CV.v)).flatten
theorem flat_len {α : Type} (C : List α) : ∀ j : Nat, ((List.replicate j C).flatten).length = j * C.length
 | 0 => by simp
 | j + 1 => by rw [List.replicate_succ, List.flatten_cons, List.length_append, flat_len C j, Nat.succ_mul]; omega
theorem newL_length (p j : Nat) (h : j ≤ p) : (newL p j).length = 7 * p := by
 unfold newL
 rw [List.length_append, flat_len, flat_len]
 show j * 7 + (p - j) * 7 = 7 * p
 omega
theorem newL_succ (p j : Nat) (h : j < p) : setAll (setAll (setAll (newL p j) (7 * j) [.ref 2 0, .v nilV, .v (.bool false), .v (.bool false), .ref 2 0, .v nilV, .v (intV 0)]) (7 * j + 1) [CV.ref 2 0]) (7 * j + 5) [CV.ref 2 0] = newL p (j + 1) := by
 have e1 : newL p j = (List.replicate j newC).flatten ++ (rawV.map CV.v ++ (List.replicate (p - (j + 1)) (rawV.map CV.v)).flatten) := by
  unfold newL
  rw [show p - j = (p - (j + 1)) + 1 by omega, List.replicate_succ, List.flatten_cons]
 have e2 : newL p (j + 1) = (List.replicate j newC).flatten ++ (newC ++ (List.replicate (p - (j + 1)) (rawV.map CV.v)).flatten) := by
  unfold newL
  rw [List.replicate_succ', List.flatten_append, List.flatten_cons, List.flatten_nil, List.append_nil, List.append_assoc]
 have hl : ((List.replicate j newC).flatten).length = 7 * j := by rw [flat_len]; show j * 7 = _; omega
 have step : ∀ (Y C : List CV) (off : Nat), setAll ((List.replicate j newC).flatten ++ Y) (7 * j + off) C = (List.replicate j newC).flatten ++ setAll Y off C := fun Y C off => by rw [← hl]; exact setAll_in C _ Y off
 have s0 := fun Y C => step Y C 0
 rw [Nat.add_zero] at s0
 rw [e1, e2, s0, step, step]
 rfl
def newSlots (p z : Nat) : List Slt := List.replicate p ⟨z, z, false, false, z, z, 0⟩
theorem newL_den {r : Env} {z : Nat} (h : r.blk 2 = some z) : ∀ p, denL r ((List.replicate p newC).flatten) (slotsL (newSlots p z))
 | 0 => by show denL r [] []; rfl
 | p + 1 => by
  unfold newSlots slotsL
  rw [List.replicate_succ, List.flatten_cons, List.replicate_succ, List.flatMap_cons]
  have hz : CV.den r (.ref 2 0) (ptrV z) := by simp only [CV.den]; exact ⟨z, h, rfl⟩
  exact denL_append ⟨_, _, rfl, hz, _, _, rfl, hz, _, _, rfl, rfl, _, _, rfl, rfl, _, _, rfl, hz, _, _, rfl, hz, _, _, rfl, rfl, rfl⟩ (newL_den h p)
theorem raw_made (p : Nat) (z : Array Value) (hz : z.toList = rawV) : (madeCells z (p * 7)).toList = (List.replicate p rawV).flatten := by
 have hs : z = rawV.toArray := by apply Array.ext'; rw [hz]
 subst hs
 have e : ∀ p : Nat, (List.range (p * 7)).map (fun i => (rawV.toArray)[i % 7]!) = (List.replicate p rawV).flatten := by
  intro p
  induction p with
  | zero => rfl
  | succ p ih =>
   rw [Nat.succ_mul, List.range_add, List.map_append, ih, List.map_map, List.replicate_succ', List.flatten_append, List.flatten_cons, List.flatten_nil, List.append_nil]
   congr 1
   have : ∀ i ∈ List.range 7, ((fun i => (rawV.toArray)[i % 7]!) ∘ fun x => p * 7 + x) i = (rawV.toArray)[i]! := by
    intro i hi
    have hi7 : i < 7 := List.mem_range.1 hi
    show (rawV.toArray)[(p * 7 + i) % 7]! = _
    rw [show (p * 7 + i) % 7 = i by omega]
   rw [List.map_congr_left this]
   rfl
 rw [← e p]
 simp only [madeCells, Array.toList_map, Array.toList_range]
 rfl
end Go.Proofs.YtnhdcclpjildjaaGreat
namespace Go.Proofs.YtnhdcclpjildjaaGreat
open Go.RowKit

theorem newL_zero (p : Nat) : newL p 0 = ((List.replicate p rawV).flatten).map CV.v := by
 unfold newL
 rw [List.replicate_zero, List.flatten_nil, List.nil_append, Nat.sub_zero, List.map_flatten, List.map_replicate]
theorem zpage_c : List.map CV.v (zpage.map byteV) = (List.replicate 256 (Value.int .u8 0)).map CV.v := by
 rw [List.map_replicate]
set_option maxRecDepth 100000 in
set_option maxHeartbeats 2000000 in
theorem newM_walk (p : Nat) (w : World) (hp : 2 ≤ p ∧ p ≤ 4096) :
  Calls Tryz.prog 66 #[intV (p : Int), .bool false] w fun e w' => ∃ m sb z, e = .returned (ptrV m) ∧ MemAt2 w' w.heap.size m sb (newSlots p z) (fun _ => zpage) ∧ Below w.heap.size w w' := by
 have hmade : (madeCells (Value.agg rawV.toArray).cells (p * 7)).toList = (List.replicate p rawV).flatten := raw_made p _ rfl
 refine calls_satq [intV (p : Int), .bool false] Tryz.func66 Tryz.ntmps66 rfl (by simp) ?_
 refine satq_seqN ?_
 conv => whnf
 refine satq_seqN ?_
 conv => whnf
 refine op_max rfl rfl rfl rfl ?_
 rw [if_neg (by omega)]
 conv => whnf
 refine op_min rfl rfl rfl rfl ?_
 rw [if_neg (by omega)]
 conv => whnf
 refine op_makeCells 7 p rfl rfl rfl rfl rfl rfl rfl (by omega) (by show 48 * p ≤ _; omega) (by show p ≤ 9223372036854775807; omega) rfl hmade ?_
 conv => whnf
 refine satq_seqN ?_
 conv => whnf
 have hS0 : ∀ j, (newL p j).length = 7 * p → True := fun _ _ => trivial
 refine satq_as (f' := [(1, one (.bool false)), (5, .p (.c (.ref 1 0))), (6, .p (.c (.ref 2 0)))]) (S' := [.cells 168 (newL p 0), .cells 163 [.sl 0 0 p p, .v (.bool false)], .cells 166 ((zpage.map byteV).map .v)]) (ent_same rfl (aI rfl (aI rfl (aI rfl trivial))) (aI ((aI rfl (Or.inl (newL_zero p).symm))) (aI sM (aI ((aI rfl (Or.inl (by rw [zpage_c]; kernel_rfl)))) trivial)))) ?_
 refine satq_cut (α := Unit) (fun _ => [(5, .p (.c (.ref 1 0)))]) (fun _ => [.cells 168 (newL p p), .cells 163 [.sl 0 0 p p, .v (.bool false)], .cells 166 ((zpage.map byteV).map .v)]) ?_ fun _ => ?_
 ·conv => whnf
  refine ⟨{ j : Nat // j ≤ p }, fun x => [(1, one (.bool false)), (5, .p (.c (.ref 1 0))), (6, .p (.c (.ref 2 0))), (21, one (intV (p : Int))), (22, one (intV (x.1 : Int)))], fun x => [.cells 168 (newL p x.1), .cells 163 [.sl 0 0 p p, .v (.bool false)], .cells 166 ((zpage.map byteV).map .v)], fun x => p - x.1,
   ⟨⟨0, by omega⟩, ent_same rfl (aI rfl (aI rfl (aI rfl (aI rfl (aI rfl trivial))))) (aI sM (aI sM (aI sM trivial)))⟩, fun x => ?_⟩
  obtain ⟨j, hj⟩ := x
  dsimp only
  have hl := newL_length p j hj
  conv => whnf
  refine ⟨fun hc => ?_, fun hc => ?_⟩
  ·have hlt : j < p := by simp at hc; omega
   have hs := newL_succ p j hlt
   generalize newL p j = L at hl hs ⊢
   conv => whnf
   (refine ⟨⟨by omega, by omega⟩, ?_⟩; (conv=>whnf))
   erw [show Nat.ble (0 + (j : Int).toNat * 7 + 7) L.length = true from Nat.ble_eq_true_of_le (by rw [hl]; omega)]
   conv => whnf
   erw [show Nat.ble L.length 8 = false from by rw [hl]; exact ble_no (by omega)]
   conv => whnf
   (repeat ((first | apply k1 | apply k2 | apply k3 | apply k4 | refine k5 (by decide) ?_ | refine k6 (by decide) ?_); conv => whnf))
   have hl1 : (setAll L (0 + (j : Int).toNat * 7) [CV.ref 2 0, .v nilV, .v (.bool false), .v (.bool false), .ref 2 0, .v nilV, .v (intV 0)]).length = 7 * p := by rw [setAll_length, hl]
   refine sat_anyG (.q 0 (.q 1 (.q 2 (.q 4 (.q 5 (.q 6 (.q 7 (.q 9 (.q 10 (.q 11 (.alt 3 (.alt 8 (.alt 12 (.alt 13 (.alt 14 (.alt 15 (.alt 16 (.alt 17 .done .no) .no) .no) .no) .no) .no) .no) (.alt 8 (.alt 3 (.alt 12 (.alt 13 (.alt 14 (.alt 15 (.alt 16 (.alt 17 .done .no) .no) .no) .no) .no) .no) .no) .no)))))))))))) mixed (by kernel_rfl) (by kernel_rfl) ?_
   conv => whnf
   refine ⟨?_, ?_, trivial⟩
   ·conv => whnf
    refine ⟨?_, trivial⟩
    conv => whnf
    refine ⟨⟨⟨by omega, by omega⟩, ?_⟩, trivial⟩
    conv => whnf
    refine ⟨?_, trivial⟩
    conv => whnf
    refine ⟨?_, trivial⟩
    conv => whnf
    erw [show Nat.ble (0 + (j : Int).toNat * 7 + 1 + 1) (setAll L (0 + (j : Int).toNat * 7) [CV.ref 2 0, .v nilV, .v (.bool false), .v (.bool false), .ref 2 0, .v nilV, .v (intV 0)]).length = true from Nat.ble_eq_true_of_le (by rw [hl1]; omega)]
    conv => whnf
    erw [show Nat.ble (setAll L (0 + (j : Int).toNat * 7) [CV.ref 2 0, .v nilV, .v (.bool false), .v (.bool false), .ref 2 0, .v nilV, .v (intV 0)]).length 8 = false from by rw [hl1]; exact ble_no (by omega)]
    conv => whnf
    refine ⟨⟨⟨by omega, by omega⟩, ?_⟩, trivial⟩
    conv => whnf
    refine ⟨?_, trivial⟩
    conv => whnf
    refine ⟨?_, trivial⟩
    conv => whnf
    have hl2 : (setAll (setAll L (0 + (j : Int).toNat * 7) [CV.ref 2 0, .v nilV, .v (.bool false), .v (.bool false), .ref 2 0, .v nilV, .v (intV 0)]) (0 + (j : Int).toNat * 7 + 1) [CV.ref 2 0]).length = 7 * p := by rw [setAll_length, hl1]
    erw [show Nat.ble (0 + (j : Int).toNat * 7 + 5 + 1) (setAll (setAll L (0 + (j : Int).toNat * 7) [CV.ref 2 0, .v nilV, .v (.bool false), .v (.bool false), .ref 2 0, .v nilV, .v (intV 0)]) (0 + (j : Int).toNat * 7 + 1) [CV.ref 2 0]).length = true from Nat.ble_eq_true_of_le (by rw [hl2]; omega)]
    conv => whnf
    erw [show Nat.ble (setAll (setAll L (0 + (j : Int).toNat * 7) [CV.ref 2 0, .v nilV, .v (.bool false), .v (.bool false), .ref 2 0, .v nilV, .v (intV 0)]) (0 + (j : Int).toNat * 7 + 1) [CV.ref 2 0]).length 8 = false from by rw [hl2]; exact ble_no (by omega)]
    conv => whnf
    refine ⟨((j + 1 : Nat) : Int), by rw [show (j : Int) + 1 = ((j + 1 : Nat) : Int) by omega]; exact wr64 (by omega), ?_⟩
    conv => whnf
    exact ⟨⟨j + 1, by omega⟩, ent_same rfl (aI rfl (aI rfl (aI rfl (aI rfl (aI rfl trivial))))) (aI ((aI rfl (Or.inl (by rw [← hs, show 7 * j = 0 + (j : Int).toNat * 7 by omega]; rfl)))) (aI sM (aI sM trivial))), by show p - (j + 1) < p - j; omega⟩
   ·conv => whnf
    refine ⟨?_, trivial⟩
    conv => whnf
    refine ⟨⟨⟨by omega, by omega⟩, ?_⟩, trivial⟩
    conv => whnf
    refine ⟨?_, trivial⟩
    conv => whnf
    refine ⟨?_, trivial⟩
    conv => whnf
    erw [show Nat.ble (0 + (j : Int).toNat * 7 + 1 + 1) (setAll L (0 + (j : Int).toNat * 7) [CV.ref 2 0, .v nilV, .v (.bool false), .v (.bool false), .ref 2 0, .v nilV, .v (intV 0)]).length = true from Nat.ble_eq_true_of_le (by rw [hl1]; omega)]
    conv => whnf
    erw [show Nat.ble (setAll L (0 + (j : Int).toNat * 7) [CV.ref 2 0, .v nilV, .v (.bool false), .v (.bool false), .ref 2 0, .v nilV, .v (intV 0)]).length 8 = false from by rw [hl1]; exact ble_no (by omega)]
    conv => whnf
    refine ⟨⟨⟨by omega, by omega⟩, ?_⟩, trivial⟩
    conv => whnf
    refine ⟨?_, trivial⟩
    conv => whnf
    refine ⟨?_, trivial⟩
    conv => whnf
    have hl2 : (setAll (setAll L (0 + (j : Int).toNat * 7) [CV.ref 2 0, .v nilV, .v (.bool false), .v (.bool false), .ref 2 0, .v nilV, .v (intV 0)]) (0 + (j : Int).toNat * 7 + 1) [CV.ref 2 0]).length = 7 * p := by rw [setAll_length, hl1]
    erw [show Nat.ble (0 + (j : Int).toNat * 7 + 5 + 1) (setAll (setAll L (0 + (j : Int).toNat * 7) [CV.ref 2 0, .v nilV, .v (.bool false), .v (.bool false), .ref 2 0, .v nilV, .v (intV 0)]) (0 + (j : Int).toNat * 7 + 1) [CV.ref 2 0]).length = true from Nat.ble_eq_true_of_le (by rw [hl2]; omega)]
    conv => whnf
    erw [show Nat.ble (setAll (setAll L (0 + (j : Int).toNat * 7) [CV.ref 2 0, .v nilV, .v (.bool false), .v (.bool false), .ref 2 0, .v nilV, .v (intV 0)]) (0 + (j : Int).toNat * 7 + 1) [CV.ref 2 0]).length 8 = false from by rw [hl2]; exact ble_no (by omega)]
    conv => whnf
    refine ⟨((j + 1 : Nat) : Int), by rw [show (j : Int) + 1 = ((j + 1 : Nat) : Int) by omega]; exact wr64 (by omega), ?_⟩
    conv => whnf
    exact ⟨⟨j + 1, by omega⟩, ent_same rfl (aI rfl (aI rfl (aI rfl (aI rfl (aI rfl trivial))))) (aI ((aI rfl (Or.inl (by rw [← hs, show 7 * j = 0 + (j : Int).toNat * 7 by omega]; rfl)))) (aI sM (aI sM trivial))), by show p - (j + 1) < p - j; omega⟩
  ·have hje : j = p := by simp at hc; omega
   subst hje
   conv => whnf
   refine ⟨_, _, ent_refl, ?_⟩
   conv => whnf
   exact ⟨(), ent_same rfl (aI rfl trivial) (aI sM (aI sM (aI sM trivial)))⟩
 ·refine satq_vcN ?_
  conv => whnf
  refine atq_ret ?_
  conv => whnf
  refine ⟨fun r w' u hR hd => ?_⟩
  obtain ⟨m, hm, rfl⟩ := den_ref hd
  obtain ⟨sb, us, a1, a2, a3⟩ := hR.own 0 _ rfl
  obtain ⟨m', vs, b1, b2, b3⟩ := hR.own 1 _ rfl
  obtain ⟨z, ps, c1, c2, c3⟩ := hR.own 2 _ rfl
  rw [hm] at b1; injection b1 with b1; subst b1
  obtain ⟨v1, l2, rfl, d3, v2, l3, rfl, d4, d5⟩ := b3
  obtain rfl : l3 = [] := d5
  obtain ⟨sb', y1, rfl⟩ := d3
  rw [a1] at y1; injection y1 with y1; subst y1
  obtain rfl : v2 = .bool false := d4
  have hB := hR.toBelow
  have fresh : ∀ {i b : Nat}, r.blk i = some b → w.heap.size ≤ b := fun {i b} hb => by
   rcases Nat.lt_or_ge b w.heap.size with h1 | h1
   ·rcases (hR.new i b hb).2 h1 with h2 | h2 <;> cases h2
   ·exact h1
  have hus : us = slotsL (newSlots p z) := by
   have e1 : newL p p = (List.replicate p newC).flatten := by unfold newL; rw [Nat.sub_self]; simp
   rw [e1] at a3
   refine denL_det (n := 3) (fun c hc => ?_) a3 (newL_den c1 p)
   obtain ⟨L, hL, hcL⟩ := List.mem_flatten.1 hc
   have := List.eq_of_mem_replicate hL
   subst this
   simp only [newC, List.mem_cons, List.not_mem_nil, or_false] at hcL
   rcases hcL with rfl | rfl | rfl | rfl | rfl | rfl | rfl <;> rfl
  have hpage : PageAt w' z zpage := ⟨by rw [c2, denL_vals_inv c3], by simp, fun x hx => by have := List.eq_of_mem_replicate hx; omega⟩
  have hlen : (newSlots p z).length = p := by unfold newSlots; simp
  refine ⟨m, sb, z, rfl, ⟨by rw [hlen]; exact b2, by rw [a2, hus], fresh hm, fresh a1, fun s hs => ?_, fun k s hk => ?_, fun s hs s' hs' ho => ?_⟩, hB⟩
  ·have := List.eq_of_mem_replicate hs
   subst this
   exact ⟨⟨zpage, hpage⟩, fresh c1⟩
  ·have := List.eq_of_mem_replicate (List.mem_of_getElem? hk)
   subst this
   exact ⟨hpage, fresh c1⟩
  ·have := List.eq_of_mem_replicate hs
   subst this
   cases ho
end Go.Proofs.YtnhdcclpjildjaaGreat
namespace Go.Proofs.YtnhdcclpjildjaaGreat
open Go.RowKit

theorem imgTo_succ (M : MemP) (j : Nat) : (fun k => if k = j then M.img j else imgTo M j k) = imgTo M (j + 1) := by
 funext k
 unfold imgTo
 by_cases h : k = j
 ·subst h; rw [if_pos rfl, if_pos (by omega)]
 ·rw [if_neg h]
  by_cases h2 : k < j
  ·rw [if_pos h2, if_pos (by omega)]
  ·rw [if_neg h2, if_neg (by omega)]
theorem img_length {M : MemP} {n p k : Nat} (hM : M.ok n p) (hk : k < p) : (M.img k).length = 256 := by
 have := hM.np
 unfold MemP.img
 rw [List.length_take, List.length_drop, hM.li]; omega
theorem img_byte {M : MemP} {n p : Nat} (hM : M.ok n p) (k : Nat) : ∀ x ∈ M.img k, 0 ≤ x ∧ x < 256 := fun x hx => hM.ib x (List.mem_of_mem_drop (List.mem_of_mem_take hx))
theorem page_byte {M : MemP} {n p : Nat} (hM : M.ok n p) (k : Nat) : ∀ x ∈ M.page k, 0 ≤ x ∧ x < 256 := fun x hx => hM.db x (List.mem_of_mem_drop (List.mem_of_mem_take hx))
theorem rightsAt_range {M : MemP} {n p : Nat} (hM : M.ok n p) (k : Nat) : 0 ≤ M.rightsAt k ∧ M.rightsAt k < 8 := by
 unfold MemP.rightsAt
 cases h : M.rights[k]? with
 | none => simp
 | some x => exact hM.rb x (List.mem_of_getElem? h)
theorem keep_slots {l l' : List Slt} (h : keepS l l') {k : Nat} {s : Slt} (hs : l'[k]? = some s) : ∃ y, l[k]? = some y ∧ s.r = y.r ∧ s.oc = y.oc := by
 have := h.2 k
 rw [hs] at this
 cases hy : l[k]? with
 | none => rw [hy] at this; cases this
 | some y =>
  rw [hy] at this
  simp at this
  exact ⟨y, rfl, this.1, this.2⟩
section
variable {w : World} {g n p : Nat} {gs : List Nat} {M : MemP}
theorem mem_image_at (hU : ObjsAt w (g :: gs) (memS 0 n p M)) : ∃ g2, CellsAt w Gs.nil g 1 [.slice (some ⟨g2, 0, none⟩) n (n + M.ti.length)] ∧ CellsAt w Gs.nil g2 0 (M.image.map byteV) := by
 obtain ⟨g0, g1, g2, g3, g4, g5, hg⟩ := six_blocks hU
 injection hg with hg0 hgs
 subst hgs; subst hg0
 obtain ⟨b, us, e1, e2, e3⟩ := hU.own 0 _ rfl
 obtain rfl : g = b := by injection e1
 obtain ⟨u1, l1, rfl, d1, u2, l2, rfl, d2, d3⟩ := e3
 obtain ⟨b2, f1, rfl⟩ := d2
 obtain ⟨c, vs, h1, h2, h3⟩ := hU.own 2 _ rfl
 obtain rfl : b2 = c := by rw [show (envOf [g, g1, g2, g3, g4, g5]).blk 2 = some b2 from f1] at h1; injection h1
 obtain rfl := denL_vals_inv h3
 exact ⟨b2, cells_one (heap_lt e2) (by simp) (by simp [World.cell?, e2]), ⟨heap_lt h2, by simp, fun j u hj => by
  have hi : j < (M.image.map byteV).length := by
   rcases Nat.lt_or_ge j (M.image.map byteV).length with h1 | h1
   ·exact h1
   ·rw [List.getElem?_eq_none h1] at hj; cases hj
  simp [World.cell?, h2]
  show (M.image.map byteV ++ M.ti)[j]? = some u
  rw [List.getElem?_append_left hi]; exact hj⟩⟩
end
end Go.Proofs.YtnhdcclpjildjaaGreat
