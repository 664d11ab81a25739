/- Walks: the program's memory: set. -/
import Derived.Test.YtnhdcclpjildjaaGreatMStopsD
namespace Go.Proofs.YtnhdcclpjildjaaGreat
open Go.RowKit

theorem slotsL_set : ∀ {l : List Slt} {k : Nat} {s : Slt} (d' : Nat), l[k]? = some s → slotsL (l.set k { s with d := d', od := true }) = ((slotsL l).set (7 * k) (ptrV d')).set (7 * k + 2) (.bool true)
 | [], k, s, d', h => by simp at h
 | x :: l, 0, s, d', h => by
  simp at h; subst h
  rfl
 | x :: l, k + 1, s, d', h => by
  have ih := slotsL_set (l := l) (k := k) d' (by simpa using h)
  show slotL x ++ slotsL (l.set k _) = ((slotL x ++ slotsL l).set (7 * (k + 1)) _).set (7 * (k + 1) + 2) _
  rw [ih, show 7 * (k + 1) = (slotL x).length + 7 * k by show _ = 7 + 7 * k; omega, List.set_append_right _ _ (by omega), show (slotL x).length + 7 * k + 2 = (slotL x).length + (7 * k + 2) by omega, List.set_append_right _ _ (by omega)]
  simp
theorem cells_type {w : World} {b : Nat} {us vs : List Value} {t t' : TypeId} (h : w.heap[b]? = some (.cells us.toArray t (0, 0))) (k : w.heap[b]? = some (.cells vs.toArray t' (0, 0))) : t = t' := by
 rw [h] at k; injection k with k; injection k
section
variable {w w' : World} {B m sb : Nat} {l : List Slt} {img : Nat → List Int}
theorem wr_mem (h : MemAt2 w B m sb l img) {k : Nat} {s : Slt} (hk : l[k]? = some s) {pg : List Int} (hp : PageAt w s.d pg) {d' : Nat} (hw : WrOk w w' sb (7 * k) s.d s.od (slotsL l) pg d') :
  ∃ l' s', MemAt2 w' B m sb l' img ∧ keepS l l' ∧ l'[k]? = some s' ∧ s'.d = d' ∧ s'.od = true ∧ PageAt w' d' pg ∧ Below B w w' ∧ FrameT w w' := by
 have hsz : B ≤ w.heap.size := Nat.le_of_lt (Nat.lt_of_le_of_lt h.Bm (heap_lt h.hm))
 rcases hw with ⟨ho, rfl, hB⟩ | ⟨ho, hd1, hd2, hs, hg⟩
 ·exact ⟨l, s, h.later hB, keepS.refl l, hk, rfl, ho, hp.later (hB.block _ (heap_lt hp.at_)), hB.mono hsz, FrameT.of hB⟩
 have hkl : k < l.length := by
  rcases Nat.lt_or_ge k l.length with h1 | h1
  ·exact h1
  ·rw [List.getElem?_eq_none h1] at hk; cases hk
 have keep : ∀ {b : Nat} {o : Obj}, w.heap[b]? = some o → b ≠ sb → w'.heap[b]? = w.heap[b]? := fun hb hn => hg.block _ (heap_lt hb) (by simpa using hn)
 have keepP : ∀ {b : Nat} {us : List Int}, PageAt w b us → PageAt w' b us := fun hu => hu.later (keep hu.at_ fun e => by subst e; have := cells_type hu.at_ h.hs; cases this)
 have hpn : PageAt w' d' pg := ⟨hd2, hp.len, hp.byte⟩
 refine ⟨l.set k { s with d := d', od := true }, { s with d := d', od := true }, ⟨?_, ?_, h.Bm, h.Bs, ?_, ?_, ?_⟩, ⟨by simp, fun j => ?_⟩, by rw [List.getElem?_set_self hkl], rfl, rfl, hpn, ?_, FrameT.grown hg h.hs (.inl rfl)⟩
 ·rw [List.length_set, keep h.hm fun e => by subst e; have := cells_type h.hm h.hs; cases this]; exact h.hm
 ·rw [slotsL_set d' hk]; exact hs
 ·intro x hx
  rcases List.mem_or_eq_of_mem_set hx with hx | rfl
  ·obtain ⟨⟨us, hu⟩, hb⟩ := h.dp x hx; exact ⟨⟨us, keepP hu⟩, hb⟩
  ·exact ⟨⟨pg, hpn⟩, Nat.le_trans hsz hd1⟩
 ·intro j x hx
  by_cases hj : j = k
  ·subst hj
   rw [List.getElem?_set_self hkl] at hx
   injection hx with hx; subst hx
   obtain ⟨hu, hb⟩ := h.cp j s hk
   exact ⟨keepP hu, hb⟩
  ·rw [List.getElem?_set_ne (fun e => hj e.symm)] at hx
   obtain ⟨hu, hb⟩ := h.cp j x hx
   exact ⟨keepP hu, hb⟩
 ·have hc : ∀ x ∈ l.set k { s with d := d', od := true }, ∃ y ∈ l, x.c = y.c ∧ (x.od = true → x = y ∨ x.d = d') ∧ x.c < w.heap.size := by
   intro x hx
   rcases List.mem_or_eq_of_mem_set hx with hx | rfl
   ·obtain ⟨j, hj⟩ := List.getElem?_of_mem hx
    exact ⟨x, hx, rfl, fun _ => .inl rfl, heap_lt (h.cp j x hj).1.at_⟩
   ·exact ⟨s, List.mem_of_getElem? hk, rfl, fun _ => .inr rfl, heap_lt (h.cp k s hk).1.at_⟩
  intro x hx y hy hxo
  obtain ⟨x', hx', _, hx2, _⟩ := hc x hx
  obtain ⟨y', hy', hy1, _, hy2⟩ := hc y hy
  rcases hx2 hxo with rfl | hd
  ·rw [hy1]; exact h.sep x hx' y' hy' hxo
  ·omega
 ·rw [List.getElem?_set]
  split
  ·rename_i e; subst e
   rw [hk]; rfl
  ·rfl
 ·exact ⟨hg.os, hg.tape, hg.output, hg.size, fun b hb => hg.block b (Nat.lt_of_lt_of_le hb hsz) (by simp; have := h.Bs; omega)⟩
theorem put_mem (h : MemAt2 w B m sb l img) {k : Nat} {s : Slt} (hk : l[k]? = some s) (ho : s.od = true) {pg : List Int} (hp : PageAt w' s.d pg) (hg : w.grownBy w' (some s.d)) : MemAt2 w' B m sb l img ∧ Below B w w' ∧ FrameT w w' := by
 have hsz : B ≤ w.heap.size := Nat.le_of_lt (Nat.lt_of_le_of_lt h.Bm (heap_lt h.hm))
 obtain ⟨⟨us, hu⟩, hb⟩ := h.dp s (List.mem_of_getElem? hk)
 have keep : ∀ {b : Nat} {o : Obj}, w.heap[b]? = some o → b ≠ s.d → w'.heap[b]? = w.heap[b]? := fun hb hn => hg.block _ (heap_lt hb) (by simpa using hn)
 refine ⟨⟨?_, ?_, h.Bm, h.Bs, fun x hx => ?_, fun j x hx => ?_, h.sep⟩, ⟨hg.os, hg.tape, hg.output, hg.size, fun b hb' => hg.block b (Nat.lt_of_lt_of_le hb' hsz) (by simp; omega)⟩, FrameT.grown hg hu.at_ (.inr rfl)⟩
 ·rw [keep h.hm fun e => by have h1 := h.hm; rw [e] at h1; cases cells_type h1 hu.at_]; exact h.hm
 ·rw [keep h.hs fun e => by have h1 := h.hs; rw [e] at h1; cases cells_type h1 hu.at_]; exact h.hs
 ·obtain ⟨⟨us', hu'⟩, hb'⟩ := h.dp x hx
  by_cases e : x.d = s.d
  ·exact ⟨⟨pg, by rw [e]; exact hp⟩, hb'⟩
  ·exact ⟨⟨us', hu'.later (keep hu'.at_ e)⟩, hb'⟩
 ·obtain ⟨hu', hb'⟩ := h.cp j x hx
  exact ⟨hu'.later (keep hu'.at_ fun e => h.sep s (List.mem_of_getElem? hk) x (List.mem_of_getElem? hx) ho e.symm), hb'⟩
set_option maxRecDepth 100000 in
set_option maxHeartbeats 1000000 in
theorem set_mem {w : World} {B m sb : Nat} {l : List Slt} {img : Nat → List Int} (h : MemAt2 w B m sb l img) (a b : Int) (ha : word a) (hb : 0 ≤ b ∧ b < 256) (h2 : 2 ≤ l.length) :
  Calls Tryz.prog 95 #[ptrV m, .int .u32 a, .int .u8 b] w fun e w' => e = .returned (.tuple #[]) ∧ ∃ l', MemAt2 w' B m sb l' img ∧ keepS l l' ∧ Below B w w' ∧ FrameT w w' := by
 have hw : 0 ≤ a ∧ a < 4294967296 := ha
 have hsz : B ≤ w.heap.size := Nat.le_of_lt (Nat.lt_of_le_of_lt h.Bm (heap_lt h.hm))
 refine calls_satq [ptrV m, .int .u32 a, .int .u8 b] Tryz.func95 Tryz.ntmps95 rfl (by simp) ?_
 refine satq_seqN ?_
 conv => whnf
 refine call_con rfl (by kernel_rfl) (fun r w' hR => at_mem a (by rw [hR.toBelow.block _ (heap_lt h.hm)]; exact h.hm) ha) ?_
 by_cases hlt : a / 256 < (l.length : Int)
 ·obtain ⟨k, hk⟩ : ∃ k : Nat, (a / 256).toNat = k := ⟨_, rfl⟩
  have hkl : k < l.length := by omega
  obtain ⟨s, hs⟩ : ∃ s, l[k]? = some s := ⟨_, List.getElem?_eq_getElem hkl⟩
  obtain ⟨⟨pg, hp⟩, hBd⟩ := h.dp s (List.mem_of_getElem? hs)
  have hat : atV sb l.length a = .pointer (some ⟨sb, 7 * k, none⟩) := by unfold atV; rw [if_pos hlt, hk]; congr 3; omega
  have hoff : 0 ≤ a % 256 ∧ a % 256 < 256 := by omega
  obtain ⟨x, hx⟩ : ∃ x, pg[(a % 256).toNat]? = some x := ⟨_, List.getElem?_eq_getElem (by rw [hp.len]; omega)⟩
  rw [hat]
  conv => whnf
  refine satq_seqN ?_
  conv => whnf
  refine q_nil_v _ rfl rfl rfl rfl ?_
  conv => whnf
  (repeat ((first | apply k1 | apply k2 | apply k3 | apply k4 | refine k5 (by decide) ?_ | refine k6 (by decide) ?_); conv => whnf))
  refine ⟨_, block_cells h.hs (off := 7 * k + 0) (slotsL_get hs rfl), ?_⟩
  conv => whnf
  (repeat ((first | apply k1 | apply k2 | apply k3 | apply k4 | refine k5 (by decide) ?_ | refine k6 (by decide) ?_); conv => whnf))
  refine ⟨by decide, a % 256, Int.tmod_eq_emod_of_nonneg hw.1, ?_⟩
  conv => whnf
  (repeat ((first | apply k1 | apply k2 | apply k3 | apply k4 | refine k5 (by decide) ?_ | refine k6 (by decide) ?_); conv => whnf))
  refine q_index_ptr (size := 1) s.d 0 256 (a % 256) rfl rfl rfl rfl rfl rfl hoff.1 hoff.2 ?_
  conv => whnf
  (repeat ((first | apply k1 | apply k2 | apply k3 | apply k4 | refine k5 (by decide) ?_ | refine k6 (by decide) ?_); conv => whnf))
  refine ⟨_, block_cells hp.at_ (off := 0 + (a % 256).toNat * 1) (x := byteV x) (by rw [Nat.zero_add, Nat.mul_one, List.getElem?_map, hx]; rfl), ?_⟩
  conv => whnf
  (repeat ((first | apply k1 | apply k2 | apply k3 | apply k4 | refine k5 (by decide) ?_ | refine k6 (by decide) ?_); conv => whnf))
  refine ⟨fun hc => ?_, fun hc => ?_⟩
  ·conv => whnf
   refine atq_ret ?_
   conv => whnf
   exact fin_val rfl fun w' hB => ⟨rfl, l, h.later hB, keepS.refl l, hB.mono hsz, FrameT.of hB⟩
  conv => whnf
  refine satq_jump_own 1 rfl rfl rfl ?_
  conv => whnf
  refine jmp_con (fun u w' => ∃ d' l' s', u = ptrV d' ∧ MemAt2 w' B m sb l' img ∧ keepS l l' ∧ l'[k]? = some s' ∧ s'.d = d' ∧ s'.od = true ∧ PageAt w' d' pg ∧ Below B w w' ∧ FrameT w w') rfl (by kernel_rfl) (fun r w1 hR => ?_) (fun u w' hj => ?_)
  ·have hB1 := hR.toBelow
   have h1 := h.later hB1
   have hp1 := hp.later (hB1.block _ (heap_lt hp.at_))
   refine (writable_walk w1 sb (7 * k) s.d s.od (slotsL l) pg h1.hs (by have := slotsL_get (j := 0) hs rfl; exact this) (slotsL_get (j := 2) hs rfl) hp1 (by rw [slotsL_length]; omega)).mono fun e w' ⟨d', he, hwr⟩ => ?_
   obtain ⟨l', s', q1, q2, q3, q4, q5, q6, q7, q8⟩ := wr_mem h1 hs hp1 hwr
   exact ⟨ptrV d', he, d', l', s', rfl, q1, q2, q3, q4, q5, q6, (hB1.mono hsz).trans q7, (FrameT.of hB1).trans q8⟩
  ·obtain ⟨d', l', s', rfl, q1, q2, q3, q4, q5, q6, q7, q8⟩ := hj
   have hlen : (List.map CV.v (pg.map byteV)).length = 256 := by rw [List.length_map, List.length_map, hp.len]
   refine ⟨d', _, pg.map byteV, rfl, q6.at_, ?_⟩
   conv => whnf
   refine ⟨by decide, a % 256, Int.tmod_eq_emod_of_nonneg hw.1, ?_⟩
   conv => whnf
   (refine ⟨⟨by omega, by omega⟩, ?_⟩; (conv=>whnf))
   rw [show Nat.ble (0 + (a % 256).toNat * tsz Tryz.prog 5 + [CV.v (Value.int IntKind.u8 b)].length) (List.map CV.v (pg.map byteV)).length = true from Nat.ble_eq_true_of_le (by rw [hlen]; show 0 + _ * 1 + 1 ≤ 256; omega)]
   conv => whnf
   rw [show Nat.ble (List.map CV.v (pg.map byteV)).length 8 = false from by rw [hlen]; rfl]
   conv => whnf
   refine atq_end ?_
   conv => whnf
   have hset : setAll (List.map CV.v (pg.map byteV)) (0 + (a % 256).toNat * tsz Tryz.prog 5) [CV.v (Value.int IntKind.u8 b)] = List.map CV.v ((pg.set (a % 256).toNat b).map byteV) := by
    rw [set_vals]
    show List.map CV.v ((pg.map byteV).set (0 + (a % 256).toNat * 1) (byteV b)) = _
    rw [Nat.zero_add, Nat.mul_one]; simp only [List.map_set]
   refine fin_own (us := (pg.set (a % 256).toNat b).map byteV) rfl (by rw [hset]; rfl) fun w2 g1 g2 => by
    subst q4
    obtain ⟨z1, z2, z3⟩ := put_mem q1 q3 q5 (pg := pg.set (a % 256).toNat b) ⟨g1, by rw [List.length_set]; exact q6.len, fun y hy => (List.mem_or_eq_of_mem_set hy).elim (q6.byte y) fun e => e ▸ hb⟩ g2
    exact ⟨rfl, l', z1, q2, q7.trans z2, q8.trans z3⟩
 ·have hat : atV sb l.length a = .pointer none := by unfold atV; rw [if_neg hlt]
  rw [hat]
  conv => whnf
  refine satq_seqN ?_
  conv => whnf
  refine q_nil_v _ rfl rfl rfl rfl ?_
  conv => whnf
  (repeat ((first | apply k1 | apply k2 | apply k3 | apply k4 | refine k5 (by decide) ?_ | refine k6 (by decide) ?_); conv => whnf))
  refine atq_ret ?_
  conv => whnf
  exact fin_val rfl fun w' hB => ⟨rfl, l, h.later hB, keepS.refl l, hB.mono hsz, FrameT.of hB⟩
end
end Go.Proofs.YtnhdcclpjildjaaGreat
namespace Go.Proofs.YtnhdcclpjildjaaGreat
open Go.RowKit

section
variable {B m sb : Nat} {img : Nat → List Int}
set_option maxRecDepth 100000 in
theorem poke1_walk {w : World} {l : List Slt} (h : MemAt2 w B m sb l img) (h2 : 2 ≤ l.length) {pm pa : Nat} {a : Int} (hx : Boxes w pm pa m a) (_ha : word a) (i : Nat) (b : Int) (hi : i < 4294967296) (hb : 0 ≤ b ∧ b < 256) :
  Calls Tryz.prog 94 #[intV (i : Int), .int .u8 b, ptrV pm, ptrV pa] w fun e w' => e = .returned (.tuple #[]) ∧ MemTo w w' B m sb l img := by
 refine calls_satq [intV (i : Int), .int .u8 b, ptrV pm, ptrV pa] Tryz.func94 Tryz.ntmps94 rfl (by simp) ?_
 refine satq_jump 6 rfl rfl rfl ?_
 conv => whnf
 refine ⟨_, block_cells (us := [ptrV m]) hx.bm rfl, ?_⟩
 conv => whnf
 refine ⟨_, block_cells (us := [.int .u32 a]) hx.ba rfl, ?_⟩
 conv => whnf
 refine ⟨(i : Int), by rw [wr32]; omega, ?_⟩
 conv => whnf
 refine ⟨(a + i) % 4294967296, wr32 _, ?_⟩
 conv => whnf
 refine jmp_con (fun u w' => u = .tuple #[] ∧ MemTo w w' B m sb l img) rfl (by kernel_rfl) (fun r w1 hR => ?_) (fun u w' hj => ?_)
 ·have h1 := h.later hR.toBelow
  have hsz : B ≤ w.heap.size := Nat.le_of_lt (Nat.lt_of_le_of_lt h.Bm (heap_lt h.hm))
  exact (set_mem h1 ((a + i) % 4294967296) b (by unfold word; omega) hb h2).mono fun e w' ⟨he, hq⟩ => ⟨_, he, rfl, MemTo.trans (keepS.refl l) (hR.toBelow.mono hsz) (FrameT.of hR.toBelow) hq⟩
 ·obtain ⟨rfl, hq⟩ := hj
  conv => whnf
  refine atq_end ?_
  conv => whnf
  exact fin_val rfl fun w2 hB => ⟨rfl, hq.later hB⟩
set_option maxRecDepth 100000 in
theorem each_walk {w : World} {l : List Slt} (h : MemAt2 w B m sb l img) (h2 : 2 ≤ l.length) {pm pa : Nat} {a : Int} (hx : Boxes w pm pa m a) (ha : word a) (xs : List Int) (hxs : ∀ x ∈ xs, 0 ≤ x ∧ x < 256) (hlen : xs.length ≤ 1000000) :
  Calls Tryz.prog 93 #[strV xs, .func (.func 94) #[] #[ptrV pm, ptrV pa]] w fun e w' => e = .returned (.tuple #[]) ∧ MemTo w w' B m sb l img := by
 refine calls_satq [strV xs, .func (.func 94) #[] #[ptrV pm, ptrV pa]] Tryz.func93 Tryz.ntmps93 rfl (by simp) ?_
 refine satq_seqN ?_
 conv => whnf
 refine q_len_str xs rfl rfl rfl ?_
 conv => whnf
 refine satq_block ?_
 refine satq_loopX (fun j : { j : Nat // j ≤ xs.length } => [(0, one (strV xs)), (1, one (.func (.func 94) #[] #[ptrV pm, ptrV pa])), (6, one (intV (xs.length : Int))), (7, one (intV (j.1 : Int)))]) (fun _ w' => MemTo w w' B m sb l img) (fun j => xs.length - j.1) ⟨0, by omega⟩ (aI rfl (aI rfl (aI rfl (aI rfl trivial)))) (fun r w' hR => MemTo.start h hR.toBelow) (fun j w' hJ => ?_)
 obtain ⟨j, hj⟩ := j
 obtain ⟨l', k1, k2, k3, k4⟩ := hJ
 dsimp only
 refine satq_seqN ?_
 conv => whnf
 refine satq_seqN ?_
 conv => whnf
 refine ⟨fun hc => ?_, fun hc => ?_⟩
 ·have hlt : j < xs.length := by simpa using hc
  obtain ⟨b, hb⟩ : ∃ b, xs[j]? = some b := ⟨_, List.getElem?_eq_getElem hlt⟩
  have hbb := hxs b (List.mem_of_getElem? hb)
  conv => whnf
  refine satq_in (satq_block ?_)
  refine satq_seqN ?_
  conv => whnf
  refine satq_jump 5 rfl rfl rfl ?_
  conv => whnf
  refine q_index_str xs .i64 j b rfl rfl rfl rfl hb hbb ?_
  conv => whnf
  refine jmp_con (fun u w2 => u = .tuple #[] ∧ MemTo w w2 B m sb l img) rfl (by kernel_rfl) (fun r w1 hR => ?_) (fun u w2 hq => ?_)
  ·have hB1 := hR.toBelow
   have hsz : B ≤ w'.heap.size := Nat.le_of_lt (Nat.lt_of_le_of_lt k1.Bm (heap_lt k1.hm))
   exact (poke1_walk (k1.later hB1) (by rw [k2.1]; exact h2) ((hx.keep k4).keep (FrameT.of hB1)) ha j b (by omega) hbb).mono fun e w3 ⟨he, hq⟩ => ⟨_, he, rfl, MemTo.trans k2 (k3.trans (hB1.mono hsz)) (k4.trans (FrameT.of hB1)) hq⟩
  ·obtain ⟨rfl, hq⟩ := hq
   conv => whnf
   refine atq_then ?_
   refine satq_vcN ?_
   conv => whnf
   refine ⟨((j + 1 : Nat) : Int), by rw [show (j : Int) + 1 = ((j + 1 : Nat) : Int) by omega]; exact wr64 (by omega), ?_⟩
   conv => whnf
   exact atq_nextW ⟨j + 1, by omega⟩ (aI rfl (aI rfl (aI rfl (aI rfl trivial)))) (fun r w3 hR => hq.later hR.toBelow) (by show xs.length - (j + 1) < xs.length - j; omega)
 ·conv => whnf
  refine atq_outW (atq_exit (atq_end ?_))
  conv => whnf
  exact fin_val rfl fun w2 hB => ⟨rfl, MemTo.later ⟨l', k1, k2, k3, k4⟩ hB⟩
end
end Go.Proofs.YtnhdcclpjildjaaGreat
namespace Go.Proofs.YtnhdcclpjildjaaGreat
open Go.RowKit

section
variable {B m sb : Nat} {img : Nat → List Int}
set_option maxRecDepth 100000 in
theorem pokeM_walk {w : World} {l : List Slt} (h : MemAt2 w B m sb l img) (h2 : 2 ≤ l.length) {a : Int} (ha : word a) (xs : List Int) (hxs : ∀ x ∈ xs, 0 ≤ x ∧ x < 256) (hlen : xs.length ≤ 1000000) :
  Calls Tryz.prog 67 #[ptrV m, .int .u32 a, strV xs] w fun e w' => e = .returned (.tuple #[]) ∧ MemTo w w' B m sb l img := by
 have hsz : B ≤ w.heap.size := Nat.le_of_lt (Nat.lt_of_le_of_lt h.Bm (heap_lt h.hm))
 refine calls_satq [ptrV m, .int .u32 a, strV xs] Tryz.func67 Tryz.ntmps67 rfl (by simp) ?_
 refine satq_seqN ?_
 conv => whnf
 refine satq_restart fun r w1 hR => ?_
 obtain ⟨pm, us1, e1, f1, k1⟩ := hR.own 0 _ rfl
 obtain ⟨pa, us2, e2, f2, k2⟩ := hR.own 1 _ rfl
 obtain rfl := denL_vals_inv (us := [ptrV m]) k1
 obtain rfl := denL_vals_inv (us := [.int .u32 a]) k2
 refine ⟨slotFr [(2, strV xs), (3, ptrV pm), (4, ptrV pa)], fun a' hf => slots_den ⟨slot_val hf rfl, slot_ref hf 3 rfl e1, slot_ref hf 4 rfl e2, trivial⟩, ?_⟩
 have hB1 := hR.toBelow
 have h1 := h.later hB1
 have hx : Boxes w1 pm pa m a := ⟨f1, f2⟩
 clear hR
 refine satq_jump 2 rfl rfl rfl ?_
 conv => whnf
 refine q_makeFunc2 rfl rfl rfl ?_
 conv => whnf
 refine jmp_con (fun u w2 => u = .tuple #[] ∧ MemTo w w2 B m sb l img) rfl (by kernel_rfl) (fun r w2 hR => ?_) (fun u w2 hq => ?_)
 ·have hB2 := hR.toBelow
  exact (each_walk (h1.later hB2) h2 (hx.keep (FrameT.of hB2)) ha xs hxs hlen).mono fun e w3 ⟨he, hq⟩ => ⟨_, he, rfl, MemTo.trans (keepS.refl l) ((hB1.mono hsz).trans (hB2.mono (Nat.le_trans hsz hB1.size))) ((FrameT.of hB1).trans (FrameT.of hB2)) hq⟩
 ·obtain ⟨rfl, hq⟩ := hq
  conv => whnf
  refine atq_end ?_
  conv => whnf
  exact fin_val rfl fun w3 hB => ⟨rfl, hq.later hB⟩
def setR (l : List Slt) (q : Nat) (x : Int) : List Slt := l.modify q fun s => { s with r := x }
theorem slotsL_setR : ∀ {l : List Slt} {q : Nat} (x : Int), q < l.length → slotsL (setR l q x) = (slotsL l).set (7 * q + 6) (intV x)
 | [], q, x, h => by simp at h
 | s :: l, 0, x, h => rfl
 | s :: l, q + 1, x, h => by
  have ih := slotsL_setR (l := l) (q := q) x (by simpa using h)
  show slotL s ++ slotsL (setR l q x) = (slotL s ++ slotsL l).set (7 * (q + 1) + 6) _
  rw [ih, show 7 * (q + 1) + 6 = (slotL s).length + (7 * q + 6) by show _ = 7 + _; omega, List.set_append_right _ _ (by omega)]
  simp
theorem setR_get (l : List Slt) (q k : Nat) (x : Int) : (setR l q x)[k]? = if q = k then (l[k]?).map (fun s => { s with r := x }) else l[k]? := by
 unfold setR; rw [List.getElem?_modify]
 split
 ·rfl
 ·cases l[k]? <;> rfl
abbrev memU (n : Nat) (us : List Value) : List Ow := [.cells 163 [.sl 1 0 n n, .v (.bool false)], .cells 168 (us.map .v)]
theorem memU_ob (n : Nat) (us : List Value) : ObAll 2 (memU n us) := by
 intro o ho
 simp only [memU, List.mem_cons, List.not_mem_nil, or_false] at ho
 rcases ho with rfl | rfl
 ·intro c hc
  simp only [List.mem_cons, List.not_mem_nil, or_false] at hc
  rcases hc with rfl | rfl <;> rfl
 ·exact ob_vals 2 _
theorem mem_ne {w : World} {l : List Slt} (h : MemAt2 w B m sb l img) : m ≠ sb := fun e => by
 have h1 := h.hm; rw [e] at h1; cases cells_type (us := [.slice (some ⟨sb, 0, none⟩) l.length l.length, .bool false]) h1 h.hs
theorem mem_objs {w : World} {l : List Slt} (h : MemAt2 w B m sb l img) : ObjsAt w [m, sb] (memU l.length (slotsL l)) := by
 have hne := mem_ne h
 refine ⟨rfl, fun i j b hi hj => ?_, fun g hg => ?_, fun i o ho => ?_⟩
 ·match i, j with
  | 0, 0 => rfl
  | 1, 1 => rfl
  | 0, 1 => simp at hi hj; subst hi; exact absurd hj.symm hne
  | 1, 0 => simp at hi hj; subst hi; exact absurd hj hne
  | i + 2, _ => simp at hi
  | 0, j + 2 => simp at hj
  | 1, j + 2 => simp at hj
 ·simp at hg
  rcases hg with rfl | rfl
  ·exact heap_lt h.hm
  ·exact heap_lt h.hs
 ·match i with
  | 0 =>
   simp at ho; subst ho
   exact ⟨m, _, rfl, h.hm, ⟨_, _, rfl, ⟨sb, rfl, rfl⟩, _, _, rfl, rfl, rfl⟩⟩
  | 1 =>
   simp at ho; subst ho
   exact ⟨sb, _, rfl, h.hs, denL_vals _⟩
  | i + 2 => simp at ho
theorem objs_mem {w : World} {n : Nat} {us : List Value} (h : ObjsAt w [m, sb] (memU n us)) : w.heap[m]? = some (.cells #[.slice (some ⟨sb, 0, none⟩) n n, .bool false] 163 (0, 0)) ∧ w.heap[sb]? = some (.cells us.toArray 168 (0, 0)) := by
 constructor
 ·obtain ⟨b, vs, e1, e2, e3⟩ := h.own 0 _ rfl
  obtain rfl : m = b := by injection e1
  have : vs = [.slice (some ⟨sb, 0, none⟩) n n, .bool false] := denL_det (n := 2) (fun c hc => by
   simp only [List.mem_cons, List.not_mem_nil, or_false] at hc
   rcases hc with rfl | rfl <;> rfl) e3 ⟨_, _, rfl, ⟨sb, rfl, rfl⟩, _, _, rfl, rfl, rfl⟩
  rw [e2, this]
 ·obtain ⟨b, vs, e1, e2, e3⟩ := h.own 1 _ rfl
  obtain rfl : sb = b := by injection e1
  rw [e2, denL_vals_inv e3]
theorem keep_pages {w w' : World} {l : List Slt} (h : MemAt2 w B m sb l img) (hg : GrownBys w w' [m, sb]) {b : Nat} {us : List Int} (hp : PageAt w b us) : PageAt w' b us := hp.later (hg.block b (heap_lt hp.at_) (by
 simp only [List.mem_cons, List.not_mem_nil, or_false, not_or]
 exact ⟨fun e => (by have h1 := h.hm; rw [← e] at h1; cases cells_type (us := [.slice (some ⟨sb, 0, none⟩) l.length l.length, .bool false]) h1 hp.at_), fun e => (by have h1 := h.hs; rw [← e] at h1; cases cells_type h1 hp.at_)⟩))
theorem call_pagesU {w0 : World} {gs : Gs} {S : List Ow} {K : AV → List Ow → Prop} {n : Nat} {us : List Value} {T : List Ow} (l : List Slt) (hl : l.length = n) (hS : S = memU n us ++ T) (hK : K (AV.of (intV (n : Int))) S) : CallS Tryz.prog w0 gs 96 [.p (.c (.ref 0 0))] S K := by
 refine callS_val (intV (n : Int)) (by kernel_rfl) (fun r w1 vs hR hd => ?_) hK
 obtain ⟨u1, l1, rfl, d1, d2⟩ := hd
 obtain rfl : l1 = [] := d2
 obtain ⟨b, hb, rfl⟩ := den_ref d1
 obtain ⟨b', vs, e1, e2, e3⟩ := hR.own 0 (.cells 163 [.sl 1 0 n n, .v (.bool false)]) (by rw [hS]; rfl)
 rw [hb] at e1; injection e1 with e1; subst e1
 obtain ⟨v1, l2, rfl, d3, v2, l3, rfl, d4, d5⟩ := e3
 obtain rfl : l3 = [] := d5
 obtain ⟨sb, _, rfl⟩ := d3
 obtain rfl : v2 = .bool false := d4
 subst hl
 exact pages_mem (l := l) e2
set_option maxRecDepth 100000 in
theorem protectM_walk {w : World} {l : List Slt} (h : MemAt2 w B m sb l img) (q : Nat) (hq : q < l.length) (h2 : 2 ≤ l.length) (x : Int) (hx : 0 ≤ x ∧ x < 8) :
  Calls Tryz.prog 70 #[ptrV m, intV (q : Int), intV x] w fun e w' => e = .returned (.tuple #[]) ∧ MemAt2 w' B m sb (setR l q x) img ∧ Below B w w' := by
 have hsz : B ≤ w.heap.size := Nat.le_of_lt (Nat.lt_of_le_of_lt h.Bm (heap_lt h.hm))
 have hsl := slotsL_length l
 have hml : (List.map CV.v (slotsL l)).length = 7 * l.length := by rw [List.length_map, hsl]
 refine calls_objs_satq [.p (.c (.ref 0 0)), one (intV (q : Int)), one (intV x)] [ptrV m, intV (q : Int), intV x] Tryz.func70 Tryz.ntmps70 rfl (by simp) (mem_objs h) ⟨_, _, rfl, den_mk_ref rfl, avdenL_of [intV (q : Int), intV x]⟩ ?_
 refine satq_seqN ?_
 conv => whnf
 refine ⟨fun _ => ?_, fun hc => absurd hc (by simp)⟩
 conv => whnf
 (repeat ((first | apply k1 | apply k2 | apply k3 | apply k4 | refine k5 (by decide) ?_ | refine k6 (by decide) ?_); conv => whnf))
 refine call_pagesU l rfl rfl (T := []) ?_
 conv => whnf
 (repeat ((first | apply k1 | apply k2 | apply k3 | apply k4 | refine k5 (by decide) ?_ | refine k6 (by decide) ?_); conv => whnf))
 refine satq_vcN ?_
 conv => whnf
 refine ⟨fun _ => ?_, fun hc => absurd hc (by simp; omega)⟩
 conv => whnf
 refine ⟨x, bits_and7 hx, ?_⟩
 conv => whnf
 (refine ⟨⟨by omega, by omega⟩, ?_⟩; (conv=>whnf))
 erw [show Nat.ble (0 + (q : Int).toNat * 7 + 6 + 1) (List.map CV.v (slotsL l)).length = true from Nat.ble_eq_true_of_le (by rw [hml]; omega)]
 conv => whnf
 erw [show Nat.ble (List.map CV.v (slotsL l)).length 8 = false from by rw [hml]; exact ble_no (by omega)]
 conv => whnf
 refine atq_end ?_
 conv => whnf
 have hset : setAll (List.map CV.v (slotsL l)) (0 + (q : Int).toNat * 7 + 6) [CV.v (intV x)] = List.map CV.v (slotsL (setR l q x)) := by
  rw [set_vals, slotsL_setR x hq, show 0 + (q : Int).toNat * 7 + 6 = 7 * q + 6 by omega]
 have hlen : (setR l q x).length = l.length := by unfold setR; simp
 refine fin_objs (U := memU l.length (slotsL (setR l q x))) rfl rfl (fun i o ho => ?_) (memU_ob _ _) fun w' g1 g2 => ⟨rfl, ?_, ?_⟩
 ·exact (congrArg (fun z => ([.cells 163 [.sl 1 0 l.length l.length, .v (.bool false)], .cells 168 z] : List Ow)[i]?) hset).trans ho
 ·obtain ⟨k1, k2⟩ := objs_mem g1
  refine ⟨by rw [hlen]; exact k1, k2, h.Bm, h.Bs, fun s hs => ?_, fun j s hs => ?_, fun s hs s' hs' => ?_⟩
  ·obtain ⟨j, hj⟩ := List.getElem?_of_mem hs
   rw [setR_get] at hj
   have : ∃ y ∈ l, y.d = s.d := by
    split at hj
    ·cases hy : l[j]? with
     | none => rw [hy] at hj; cases hj
     | some y => rw [hy] at hj; simp at hj; subst hj; exact ⟨y, List.mem_of_getElem? hy, rfl⟩
    ·exact ⟨s, List.mem_of_getElem? hj, rfl⟩
   obtain ⟨y, hy, e⟩ := this
   obtain ⟨⟨us, hu⟩, hb⟩ := h.dp y hy
   rw [← e]
   exact ⟨⟨us, keep_pages h g2 hu⟩, hb⟩
  ·have : ∃ y, l[j]? = some y ∧ y.c = s.c := by
    rw [setR_get] at hs
    split at hs
    ·cases hy : l[j]? with
     | none => rw [hy] at hs; cases hs
     | some y => rw [hy] at hs; simp at hs; subst hs; exact ⟨y, rfl, rfl⟩
    ·exact ⟨s, hs, rfl⟩
   obtain ⟨y, hy, e⟩ := this
   obtain ⟨hu, hb⟩ := h.cp j y hy
   rw [← e]
   exact ⟨keep_pages h g2 hu, hb⟩
  ·have key : ∀ s ∈ setR l q x, ∃ y ∈ l, y.d = s.d ∧ y.c = s.c ∧ y.od = s.od := fun s hs => by
    obtain ⟨j, hj⟩ := List.getElem?_of_mem hs
    rw [setR_get] at hj
    split at hj
    ·cases hy : l[j]? with
     | none => rw [hy] at hj; cases hj
     | some y => rw [hy] at hj; simp at hj; subst hj; exact ⟨y, List.mem_of_getElem? hy, rfl, rfl, rfl⟩
    ·exact ⟨s, List.mem_of_getElem? hj, rfl, rfl, rfl⟩
   obtain ⟨y, hy, e1, _, e2⟩ := key s hs
   obtain ⟨y', hy', _, e3, _⟩ := key s' hs'
   rw [← e1, ← e3, ← e2]
   exact h.sep y hy y' hy'
 ·exact ⟨g2.os, g2.tape, g2.output, g2.size, fun b hb => g2.block b (Nat.lt_of_lt_of_le hb hsz) (by have h1 := h.Bm; have h2 := h.Bs; simp; omega)⟩
end
end Go.Proofs.YtnhdcclpjildjaaGreat
namespace Go.Proofs.YtnhdcclpjildjaaGreat
open Go.RowKit

def setC (l : List Slt) (q : Nat) (c' : Nat) : List Slt := l.modify q fun s => { s with c := c', oc := true }
theorem setC_get (l : List Slt) (q k : Nat) (c' : Nat) : (setC l q c')[k]? = if q = k then (l[k]?).map (fun s => { s with c := c', oc := true }) else l[k]? := by
 unfold setC; rw [List.getElem?_modify]
 split
 ·rfl
 ·cases l[k]? <;> rfl
theorem setC_length (l : List Slt) (q c' : Nat) : (setC l q c').length = l.length := by unfold setC; simp
theorem slotsL_setC : ∀ {l : List Slt} {q : Nat} (c' : Nat), q < l.length → slotsL (setC l q c') = ((slotsL l).set (7 * q + 1) (ptrV c')).set (7 * q + 3) (.bool true)
 | [], q, x, h => by simp at h
 | s :: l, 0, x, h => rfl
 | s :: l, q + 1, x, h => by
  have ih := slotsL_setC (l := l) (q := q) x (by simpa using h)
  show slotL s ++ slotsL (setC l q x) = ((slotL s ++ slotsL l).set (7 * (q + 1) + 1) _).set (7 * (q + 1) + 3) _
  rw [ih, show 7 * (q + 1) + 1 = (slotL s).length + (7 * q + 1) by show _ = 7 + _; omega, List.set_append_right _ _ (by omega), show 7 * (q + 1) + 3 = (slotL s).length + (7 * q + 3) by show _ = 7 + _; omega, List.set_append_right _ _ (by omega)]
  simp
section
variable {B m sb : Nat} {img : Nat → List Int}
theorem setC_mem {w w' : World} {l : List Slt} (h : MemAt2 w B m sb l img) {q : Nat} (_hq : q < l.length) {xs : List Int} {c' : Nat} (hc : w.heap.size ≤ c') (hp : PageAt w' c' xs) (hg : GrownBys w w' [m, sb]) (hm : w'.heap[m]? = some (.cells #[.slice (some ⟨sb, 0, none⟩) l.length l.length, .bool false] 163 (0, 0))) (hs : w'.heap[sb]? = some (.cells (slotsL (setC l q c')).toArray 168 (0, 0))) :
  MemAt2 w' B m sb (setC l q c') (fun k => if k = q then xs else img k) ∧ Below B w w' := by
 have hsz : B ≤ w.heap.size := Nat.le_of_lt (Nat.lt_of_le_of_lt h.Bm (heap_lt h.hm))
 have key : ∀ {k : Nat} {s : Slt}, (setC l q c')[k]? = some s → ∃ y, l[k]? = some y ∧ y.d = s.d ∧ y.od = s.od ∧ (k = q → s.c = c') ∧ (k ≠ q → s.c = y.c) := by
  intro k s hk
  rw [setC_get] at hk
  split at hk
  ·rename_i e
   cases hy : l[k]? with
   | none => rw [hy] at hk; cases hk
   | some y => rw [hy] at hk; simp at hk; subst hk; exact ⟨y, rfl, rfl, rfl, fun _ => rfl, fun n => absurd e.symm n⟩
  ·rename_i e
   exact ⟨s, hk, rfl, rfl, fun n => absurd n.symm e, fun _ => rfl⟩
 refine ⟨⟨by rw [setC_length]; exact hm, hs, h.Bm, h.Bs, fun s hs' => ?_, fun k s hk => ?_, fun s hs' s2 hs2 ho => ?_⟩, ⟨hg.os, hg.tape, hg.output, hg.size, fun b hb => hg.block b (Nat.lt_of_lt_of_le hb hsz) (by have h1 := h.Bm; have h2 := h.Bs; simp; omega)⟩⟩
 ·obtain ⟨k, hk⟩ := List.getElem?_of_mem hs'
  obtain ⟨y, hy, e, _⟩ := key hk
  obtain ⟨⟨us, hu⟩, hb⟩ := h.dp y (List.mem_of_getElem? hy)
  rw [← e]
  exact ⟨⟨us, keep_pages h hg hu⟩, hb⟩
 ·obtain ⟨y, hy, _, _, e1, e2⟩ := key hk
  by_cases e : k = q
  ·rw [e1 e, if_pos e]; exact ⟨hp, Nat.le_trans hsz hc⟩
  ·rw [e2 e, if_neg e]
   obtain ⟨hu, hb⟩ := h.cp k y hy
   exact ⟨keep_pages h hg hu, hb⟩
 ·obtain ⟨k, hk⟩ := List.getElem?_of_mem hs'
  obtain ⟨k2, hk2⟩ := List.getElem?_of_mem hs2
  obtain ⟨y, hy, e, eo, _⟩ := key hk
  obtain ⟨y2, hy2, _, _, e1, e2⟩ := key hk2
  obtain ⟨⟨us, hu⟩, _⟩ := h.dp y (List.mem_of_getElem? hy)
  have hlt := heap_lt hu.at_
  by_cases e3 : k2 = q
  ·rw [e1 e3, ← e]; omega
  ·rw [e2 e3, ← e]; exact h.sep y (List.mem_of_getElem? hy) y2 (List.mem_of_getElem? hy2) (eo.trans ho)
set_option maxRecDepth 100000 in
set_option maxHeartbeats 1000000 in
theorem setCodeM_walk {w : World} {l : List Slt} (h : MemAt2 w B m sb l img) (q : Nat) {s : Slt} (hsq : l[q]? = some s) (hoc : s.oc = false) (h2 : 2 ≤ l.length) (xs : List Int) (hxs : ∀ x ∈ xs, 0 ≤ x ∧ x < 256) (hlen : xs.length = 256) :
  Calls Tryz.prog 69 #[ptrV m, intV (q : Int), strV xs] w fun e w' => e = .returned (.tuple #[]) ∧ ∃ c', MemAt2 w' B m sb (setC l q c') (fun k => if k = q then xs else img k) ∧ Below B w w' := by
 have hq : q < l.length := by
  rcases Nat.lt_or_ge q l.length with h1 | h1
  ·exact h1
  ·rw [List.getElem?_eq_none h1] at hsq; cases hsq
 have hsl := slotsL_length l
 obtain ⟨hpc, hBc⟩ := h.cp q s hsq
 have hml : (List.map CV.v (slotsL l)).length = 7 * l.length := by rw [List.length_map, hsl]
 have hpl : (List.map CV.v ((img q).map byteV)).length = 256 := by rw [List.length_map, List.length_map, hpc.len]
 have hcc : CellsAt w ⟨[m, sb], []⟩ s.c 0 ((img q).map byteV) := by
  refine ⟨heap_lt hpc.at_, ?_, fun j u hj => by simp [World.cell?, hpc.at_, hj]⟩
  rintro (h1 | h1)
  ·simp at h1
   rcases h1 with e | e
   ·have h3 := h.hm; rw [← e] at h3; cases cells_type (us := [.slice (some ⟨sb, 0, none⟩) l.length l.length, .bool false]) h3 hpc.at_
   ·have h3 := h.hs; rw [← e] at h3; cases cells_type h3 hpc.at_
  ·cases h1
 have g1 : (List.map CV.v (slotsL l))[0 + (q : Int).toNat * 7 + 1]? = some (.v (ptrV s.c)) := by
  rw [List.getElem?_map, show 0 + (q : Int).toNat * 7 + 1 = 7 * q + 1 by omega, slotsL_get (j := 1) hsq rfl]; rfl
 have g3 : (List.map CV.v (slotsL l))[0 + (q : Int).toNat * 7 + 3]? = some (.v (.bool false)) := by
  rw [List.getElem?_map, show 0 + (q : Int).toNat * 7 + 3 = 7 * q + 3 by omega, slotsL_get (j := 3) hsq rfl, hoc]; rfl
 refine calls_objs_satq [.p (.c (.ref 0 0)), one (intV (q : Int)), one (strV xs)] [ptrV m, intV (q : Int), strV xs] Tryz.func69 Tryz.ntmps69 rfl (by simp) (mem_objs h) ⟨_, _, rfl, den_mk_ref rfl, avdenL_of [intV (q : Int), strV xs]⟩ ?_
 refine satq_seqN ?_
 conv => whnf
 refine ⟨fun _ => ?_, fun hc => absurd hc (by simp)⟩
 conv => whnf
 (repeat ((first | apply k1 | apply k2 | apply k3 | apply k4 | refine k5 (by decide) ?_ | refine k6 (by decide) ?_); conv => whnf))
 refine call_pagesU l rfl rfl (T := []) ?_
 conv => whnf
 (repeat ((first | apply k1 | apply k2 | apply k3 | apply k4 | refine k5 (by decide) ?_ | refine k6 (by decide) ?_); conv => whnf))
 refine ⟨fun _ => ?_, fun hc => absurd hc (by simp; omega)⟩
 conv => whnf
 (repeat ((first | apply k1 | apply k2 | apply k3 | apply k4 | refine k5 (by decide) ?_ | refine k6 (by decide) ?_); conv => whnf))
 refine satq_seqN ?_
 conv => whnf
 (refine ⟨⟨by omega, by omega⟩, ?_⟩; (conv=>whnf))
 refine satq_seqN ?_
 conv => whnf
 erw [g1]
 conv => whnf
 refine q_nil_v _ rfl rfl rfl rfl ?_
 conv => whnf
 (repeat ((first | apply k1 | apply k2 | apply k3 | apply k4 | refine k5 (by decide) ?_ | refine k6 (by decide) ?_); conv => whnf))
 refine satq_cut (α := Unit) (fun _ => [(2, one (strV xs)), (6, .p (.c (.ref 1 (0 + (q : Int).toNat * 7))))]) (fun _ => [.cells 163 [.sl 1 0 l.length l.length, .v (.bool false)], .cells 168 ((((slotsL l).map CV.v).set (0 + (q : Int).toNat * 7 + 1) (.ref 2 0)).set (0 + (q : Int).toNat * 7 + 3) (.v (.bool true))), .cells 166 (((img q).map byteV).map .v)]) ?_ fun _ => ?_
 ·conv => whnf
  erw [g3]
  conv => whnf
  (repeat ((first | apply k1 | apply k2 | apply k3 | apply k4 | refine k5 (by decide) ?_ | refine k6 (by decide) ?_); conv => whnf))
  conv => whnf
  erw [g1]
  conv => whnf
  refine ⟨_, hcc, by rw [List.length_map, hpc.len]; rfl, ?_⟩
  conv => whnf
  rw [show Nat.beq (List.map CV.v (List.map byteV (img q))).length (Tryz.prog.types[166].size) = true from by rw [hpl]; rfl, byteV_flat]
  conv => whnf
  rw [hpl]
  conv => whnf
  erw [show Nat.ble (0 + (q : Int).toNat * 7 + 1 + 1) (List.map CV.v (slotsL l)).length = true from Nat.ble_eq_true_of_le (by rw [hml]; omega)]
  conv => whnf
  erw [show Nat.ble (List.map CV.v (slotsL l)).length 8 = false from by rw [hml]; exact ble_no (by omega)]
  conv => whnf
  have hul2 : (setAll (List.map CV.v (slotsL l)) (0 + (q : Int).toNat * 7 + 1) [CV.ref 2 0]).length = 7 * l.length := by rw [setAll_length, hml]
  erw [show Nat.ble (0 + (q : Int).toNat * 7 + 3 + 1) (setAll (List.map CV.v (slotsL l)) (0 + (q : Int).toNat * 7 + 1) [CV.ref 2 0]).length = true from Nat.ble_eq_true_of_le (by rw [hul2]; omega)]
  conv => whnf
  erw [show Nat.ble (setAll (List.map CV.v (slotsL l)) (0 + (q : Int).toNat * 7 + 1) [CV.ref 2 0]).length 8 = false from by rw [hul2]; exact ble_no (by omega)]
  conv => whnf
  exact ⟨(), ent_same rfl (aI rfl (aI rfl trivial)) (aI sM (aI sM (aI ((aI rfl (Or.inl (setAll_same (by rw [hpl]; kernel_rfl))))) trivial)))⟩
 ·have hL : ((((slotsL l).map CV.v).set (0 + (q : Int).toNat * 7 + 1) (.ref 2 0)).set (0 + (q : Int).toNat * 7 + 3) (.v (.bool true)))[0 + (q : Int).toNat * 7 + 1]? = some (CV.ref 2 0) := by
   rw [List.getElem?_set_ne (by omega), List.getElem?_set_self (by rw [hml]; omega)]
  refine satq_vcN ?_
  conv => whnf
  erw [hL]
  conv => whnf
  refine opS_q (q_slice_arr 2 0 256 rfl rfl rfl rfl rfl ?_) rfl
  conv => whnf
  refine op_copy_str xs 2 256 256 rfl rfl rfl rfl rfl rfl rfl hxs (by omega) (by rw [hpl]; omega) rfl ?_
  rw [setAll_same (show (List.map CV.v ((img q).map byteV)).length = (List.map CV.v (xs.map (Value.int .u8))).length by rw [hpl, List.length_map, List.length_map, hlen])]
  conv => whnf
  refine atq_end ?_
  conv => whnf
  refine ⟨fun r w' u hR hd => ?_⟩
  obtain rfl : u = .tuple #[] := by obtain ⟨us, rfl, rfl⟩ := hd; rfl
  obtain ⟨c', vs2, e1, e2, e3⟩ := hR.own 2 _ rfl
  have f0 := hR.first 0 m rfl
  have f1 := hR.first 1 sb rfl
  refine ⟨rfl, c', ?_⟩
  have hc' : w.heap.size ≤ c' := by
   rcases Nat.lt_or_ge c' w.heap.size with h2 | h2
   ·rcases (hR.new 2 c' e1).2 h2 with h3 | h3
    ·simp at h3
     rcases h3 with h3 | h3
     ·subst h3; have := hR.inj 0 2 c' f0 e1; omega
     ·subst h3; have := hR.inj 1 2 c' f1 e1; omega
    ·cases h3
   ·exact h2
  have k0 : w'.heap[m]? = some (.cells #[.slice (some ⟨sb, 0, none⟩) l.length l.length, .bool false] 163 (0, 0)) := by
   obtain ⟨b, vs, z1, z2, z3⟩ := hR.own 0 _ rfl
   rw [f0] at z1; injection z1 with z1; subst z1
   obtain ⟨v1, l2, rfl, d3, v2, l3, rfl, d4, d5⟩ := z3
   obtain rfl : l3 = [] := d5
   obtain ⟨sb', y1, rfl⟩ := d3
   rw [f1] at y1; injection y1 with y1; subst y1
   obtain rfl : v2 = .bool false := d4
   exact z2
  have k1 : w'.heap[sb]? = some (.cells (slotsL (setC l q c')).toArray 168 (0, 0)) := by
   obtain ⟨b, vs, z1, z2, z3⟩ := hR.own 1 _ rfl
   rw [f1] at z1; injection z1 with z1; subst z1
   have e4 : denL r ((((slotsL l).map CV.v).set (0 + (q : Int).toNat * 7 + 1) (.ref 2 0)).set (0 + (q : Int).toNat * 7 + 3) (.v (.bool true))) (((slotsL l).set (0 + (q : Int).toNat * 7 + 1) (ptrV c')).set (0 + (q : Int).toNat * 7 + 3) (.bool true)) :=
    denL_set _ (denL_set _ (denL_vals _) (by simp only [CV.den]; exact ⟨c', e1, rfl⟩)) (by simp only [CV.den])
   have e5 := denL_det (n := 3) (fun c hc => by
    rcases List.mem_or_eq_of_mem_set hc with h5 | h5
    ·rcases List.mem_or_eq_of_mem_set h5 with h6 | h6
     ·obtain ⟨v, _, rfl⟩ := List.mem_map.1 h6; rfl
     ·rw [h6]; rfl
    ·rw [h5]; rfl) z3 e4
   rw [z2, e5, slotsL_setC c' hq, show 0 + (q : Int).toNat * 7 + 1 = 7 * q + 1 by omega, show 0 + (q : Int).toNat * 7 + 3 = 7 * q + 3 by omega]
  have k2 : PageAt w' c' xs := ⟨by rw [e2, denL_vals_inv e3], hlen, hxs⟩
  exact setC_mem h hq hc' k2 hR.growns k0 k1
end
end Go.Proofs.YtnhdcclpjildjaaGreat
namespace Go.Proofs.YtnhdcclpjildjaaGreat
open Go.RowKit

section
variable {B m sb : Nat} {img : Nat → List Int}
set_option maxRecDepth 100000 in
theorem image_walk {w : World} {l : List Slt} (h : MemAt2 w B m sb l img) {k : Nat} {s : Slt} (hk : l[k]? = some s) :
  Calls Tryz.prog 164 #[.pointer (some ⟨sb, 7 * k, none⟩)] w fun e w' => e = .returned (ptrV s.c) ∧ Below w.heap.size w w' := by
 refine calls_valN [.pointer (some ⟨sb, 7 * k, none⟩)] Tryz.func164 Tryz.ntmps164 rfl (by simp) ?_
 conv => whnf
 refine ⟨_, block_cells h.hs (off := 7 * k + 1) (slotsL_get (j := 1) hk rfl), ?_⟩
 conv => whnf
 refine q_nil_v _ rfl rfl rfl rfl ?_
 conv => whnf
 (repeat ((first | apply k1 | apply k2 | apply k3 | apply k4 | refine k5 (by decide) ?_ | refine k6 (by decide) ?_); conv => whnf))
 conv => whnf
 refine ⟨_, block_cells h.hs (off := 7 * k + 1) (slotsL_get (j := 1) hk rfl), ?_⟩
 conv => whnf
 exact fin_val rfl fun w' hB => ⟨rfl, hB⟩
def fetchL (l : List Slt) (img : Nat → List Int) (a : Int) : Option Int := match l[(a / 256).toNat]? with
 | none => none
 | some s => if s.r / 4 % 2 = 1 then some (((img (a / 256).toNat)[(a % 256).toNat]?).getD 0) else none
abbrev fetV (x : Option Int) : Value := .tuple #[.int .u8 (x.getD 0), .bool x.isSome]
theorem and_four_b {r : Int} (h : 0 ≤ r ∧ r < 8) : (bits .and .i64 r 4 == 0) = !decide (r / 4 % 2 = 1) := by
 rcases (by omega : r = 0 ∨ r = 1 ∨ r = 2 ∨ r = 3 ∨ r = 4 ∨ r = 5 ∨ r = 6 ∨ r = 7) with rfl | rfl | rfl | rfl | rfl | rfl | rfl | rfl <;> rfl
set_option maxRecDepth 100000 in
theorem fetchM_walk {w : World} {l : List Slt} (h : MemAt2 w B m sb l img) (a : Int) (ha : word a) (hr : ∀ s ∈ l, 0 ≤ s.r ∧ s.r < 8) :
  Calls Tryz.prog 163 #[ptrV m, .int .u32 a] w fun e w' => e = .returned (fetV (fetchL l img a)) ∧ Below w.heap.size w w' := by
 have hw : 0 ≤ a ∧ a < 4294967296 := ha
 refine calls_satq [ptrV m, .int .u32 a] Tryz.func163 Tryz.ntmps163 rfl (by simp) ?_
 refine satq_seqN ?_
 conv => whnf
 refine satq_seqN ?_
 conv => whnf
 refine call_con rfl (by kernel_rfl) (fun r w' hR => at_mem a (by rw [hR.toBelow.block _ (heap_lt h.hm)]; exact h.hm) ha) ?_
 by_cases hlt : a / 256 < (l.length : Int)
 ·obtain ⟨k, hk⟩ : ∃ k : Nat, (a / 256).toNat = k := ⟨_, rfl⟩
  have hkl : k < l.length := by omega
  obtain ⟨s, hs⟩ : ∃ s, l[k]? = some s := ⟨_, List.getElem?_eq_getElem hkl⟩
  obtain ⟨hp, _⟩ := h.cp k s hs
  have hat : atV sb l.length a = .pointer (some ⟨sb, 7 * k, none⟩) := by unfold atV; rw [if_pos hlt, hk]; congr 3; omega
  have hoff : 0 ≤ a % 256 ∧ a % 256 < 256 := by omega
  obtain ⟨x, hx⟩ : ∃ x, (img k)[(a % 256).toNat]? = some x := ⟨_, List.getElem?_eq_getElem (by rw [hp.len]; omega)⟩
  have hfl : fetchL l img a = if s.r / 4 % 2 = 1 then some x else none := by unfold fetchL; rw [hk, hs]; dsimp only; rw [hx]; rfl
  rw [hat, hfl]
  conv => whnf
  refine satq_seqN ?_
  conv => whnf
  refine q_nil_v _ rfl rfl rfl rfl ?_
  conv => whnf
  (repeat ((first | apply k1 | apply k2 | apply k3 | apply k4 | refine k5 (by decide) ?_ | refine k6 (by decide) ?_); conv => whnf))
  refine ⟨_, block_cells h.hs (off := 7 * k + 6) (slotsL_get (j := 6) hs rfl), ?_⟩
  conv => whnf
  (repeat ((first | apply k1 | apply k2 | apply k3 | apply k4 | refine k5 (by decide) ?_ | refine k6 (by decide) ?_); conv => whnf))
  refine ⟨_, rfl, ?_⟩
  conv => whnf
  (repeat ((first | apply k1 | apply k2 | apply k3 | apply k4 | refine k5 (by decide) ?_ | refine k6 (by decide) ?_); conv => whnf))
  rw [and_four_b (hr s (List.mem_of_getElem? hs))]
  by_cases h4 : s.r / 4 % 2 = 1
  ·rw [if_pos h4, decide_eq_true h4]
   (repeat ((first | apply k1 | apply k2 | apply k3 | apply k4 | refine k5 (by decide) ?_ | refine k6 (by decide) ?_); conv => whnf))
   conv => whnf
   refine satq_vcN ?_
   conv => whnf
   refine call_con rfl (by kernel_rfl) (fun r w' hR => image_walk (h.later hR.toBelow) hs) ?_
   conv => whnf
   refine ⟨by decide, a % 256, Int.tmod_eq_emod_of_nonneg hw.1, ?_⟩
   conv => whnf
   refine q_index_ptr (size := 1) s.c 0 256 (a % 256) rfl rfl rfl rfl rfl rfl hoff.1 hoff.2 ?_
   conv => whnf
   refine ⟨_, block_cells hp.at_ (off := 0 + (a % 256).toNat * 1) (x := byteV x) (by rw [Nat.zero_add, Nat.mul_one, List.getElem?_map, hx]; rfl), ?_⟩
   conv => whnf
   refine atq_ret ?_
   conv => whnf
   exact fin_val rfl fun w' hB => ⟨rfl, hB⟩
  ·rw [if_neg h4, decide_eq_false h4]
   (repeat ((first | apply k1 | apply k2 | apply k3 | apply k4 | refine k5 (by decide) ?_ | refine k6 (by decide) ?_); conv => whnf))
   conv => whnf
   refine atq_ret ?_
   conv => whnf
   exact fin_val rfl fun w' hB => ⟨rfl, hB⟩
 ·have hat : atV sb l.length a = .pointer none := by unfold atV; rw [if_neg hlt]
  have hfl : fetchL l img a = none := by unfold fetchL; rw [List.getElem?_eq_none (by omega)]
  rw [hat, hfl]
  conv => whnf
  refine satq_seqN ?_
  conv => whnf
  refine q_nil_v _ rfl rfl rfl rfl ?_
  conv => whnf
  (repeat ((first | apply k1 | apply k2 | apply k3 | apply k4 | refine k5 (by decide) ?_ | refine k6 (by decide) ?_); conv => whnf))
  refine atq_ret ?_
  conv => whnf
  exact fin_val rfl fun w' hB => ⟨rfl, hB⟩
end
end Go.Proofs.YtnhdcclpjildjaaGreat
namespace Go.Proofs.YtnhdcclpjildjaaGreat
open Go.RowKit

set_option maxRecDepth 100000 in
set_option maxHeartbeats 4000000 in
theorem read_walk (w : World) (F : Int → Option Int) (hF : ∀ a b, F a = some b → 0 ≤ b ∧ b < 256) (m : Nat) (t : TypeId) (hm : ∀ w, (method (Tryz.prog.types.size + Made.depth) t (ptrV m) "Fetch").run Tryz.prog w = .ok (163, ptrV m) w) (a : Int) (ha : word a)
  (hcall : ∀ w' x, Below w.heap.size w w' → word x → Calls Tryz.prog 163 #[ptrV m, .int .u32 x] w' fun e w2 => e = .returned (fetV (F x)) ∧ Below w'.heap.size w' w2) :
  Calls Tryz.prog 72 #[.int .u32 a, .iface t (ptrV m)] w fun e w' => e = .returned (.tuple #[qiV ((readQ F a).getD QI.zero), .bool (readQ F a).isSome]) ∧ Below w.heap.size w w' := by
 refine calls_satq [.int .u32 a, .iface t (ptrV m)] Tryz.func72 Tryz.ntmps72 rfl (by simp) ?_
 refine satq_seqN ?_
 conv => whnf
 refine satq_seqN ?_
 conv => whnf
 refine ⟨by decide, a % 4, Int.tmod_eq_emod_of_nonneg ha.1, ?_⟩
 conv => whnf
 refine ⟨fun hc => ?_, fun hc => ?_⟩
 ·have h4 : ¬ a % 4 = 0 := by simpa using hc
  have hr : readQ F a = none := by unfold readQ; rw [if_neg h4]
  conv => whnf
  refine atq_ret ?_
  conv => whnf
  rw [hr]
  exact fin_val rfl fun w2 hB => ⟨rfl, hB⟩
 have h4 : a % 4 = 0 := by simpa using hc
 have hr : readQ F a = (readN F a 4).bind decQ := by unfold readQ; rw [if_pos h4]
 rw [hr]
 clear hc
 conv => whnf
 refine satq_seqN ?_
 conv => whnf
 refine satq_mid (α := { x : Int // readN F a 4 = some x }) (fun x => [(4, .p (.c (.ref 0 0))), (5, one (.bool false)), (6, one (.int .u32 x.1))]) (fun _ => [.cells qiT ((qiL QI.zero).map .v)]) ?_ fun x => ?_
 ·refine satq_seqN ?_
  conv => whnf
  refine satq_block ?_
  refine satq_loop (α := RdS F a) (fun x => [(0, one (.int .u32 a)), (1, one (.iface t (ptrV m))), (4, .p (.c (.ref 0 0))), (5, one (.bool false)), (6, one (.int .u32 x.k)), (16, one (.int .u32 (x.j : Int)))]) (fun _ => [.cells qiT ((qiL QI.zero).map .v)]) (fun x => 4 - x.j) ⟨0, 0, by omega, rfl⟩
   (ent_same rfl (aI rfl (aI rfl (aI rfl (aI rfl (aI rfl (aI rfl trivial)))))) (aI sM trivial)) fun x => ?_
  obtain ⟨j, k, hj, hk⟩ := x
  dsimp only
  have hkb := readN_lt hF hk
  refine satq_seqN ?_
  conv => whnf
  refine satq_seqN ?_
  conv => whnf
  refine ⟨fun hc => ?_, fun hc => ?_⟩
  ·have hlt : j < 4 := by simp at hc; omega
   conv => whnf
   refine satq_in (satq_block ?_)
   refine satq_seqN ?_
   conv => whnf
   refine satq_seqN ?_
   conv => whnf
   refine ⟨a + j, by rw [wr32]; unfold word at ha; omega, ?_⟩
   conv => whnf
   have hwx : word (a + j) := by unfold word at ha ⊢; omega
   refine op_invoke rfl rfl rfl hm ?_
   refine call_con rfl (by kernel_rfl) (fun r w' hR => hcall w' (a + j) hR.toBelow hwx) ?_
   have hfb := hF (a + j)
   have hno := readN_none (F := F) (a := a) (i := j) (j := 4)
   have hnx : readN F a (j + 1) = match readN F a j, F (a + j) with
    | some k, some b => some (k + b * 256 ^ j)
    | _, _ => none := rfl
   rw [hk] at hnx
   generalize F (a + j) = fb at hfb hno hnx ⊢
   cases fb with
   | none =>
    rw [hno rfl hlt]
    conv => whnf
    refine satq_seqN ?_
    conv => whnf
    refine ⟨fun _ => ?_, fun hc => absurd hc (by decide)⟩
    conv => whnf
    refine atq_up (atq_ret ?_) fun a w hq => hq
    conv => whnf
    exact fin_val rfl fun w2 hB => ⟨rfl, hB⟩
   | some b =>
    have hbb := hfb b rfl
    conv => whnf
    refine satq_seqN ?_
    conv => whnf
    refine ⟨fun hc => absurd hc (by simp), fun _ => ?_⟩
    conv => whnf
    refine satq_vcN ?_
    conv => whnf
    have hj4 : j = 0 ∨ j = 1 ∨ j = 2 ∨ j = 3 := by omega
    refine ⟨b, by rw [wr32]; show b % 4294967296 = b; omega, ?_⟩
    conv => whnf
    refine ⟨8 * (j : Int), by rw [wr32]; omega, ?_⟩
    conv => whnf
    refine ⟨by omega, b * 256 ^ j, ?_, ?_⟩
    ·rw [wr32]
     rcases hj4 with rfl | rfl | rfl | rfl
     ·show b * 2 ^ 0 % 4294967296 = b * 256 ^ 0; omega
     ·show b * 2 ^ 8 % 4294967296 = b * 256 ^ 1; omega
     ·show b * 2 ^ 16 % 4294967296 = b * 256 ^ 2; omega
     ·show b * 2 ^ 24 % 4294967296 = b * 256 ^ 3; omega
    conv => whnf
    have hor : orI k (b * 256 ^ j) = k + b * 256 ^ j := by
     unfold orI
     rw [Nat.or_comm]
     have := orI_add (a := b * 256 ^ j) (b := k) (8 * j) (Int.mul_nonneg hbb.1 (Int.le_of_lt (Int.pow_pos (by decide)))) (by rw [show (2 : Int) ^ (8 * j) = 256 ^ j by rw [Int.pow_mul]; rfl]; exact Int.mul_emod_left _ _) (by rw [show (2 : Int) ^ (8 * j) = 256 ^ j by rw [Int.pow_mul]; rfl]; exact hkb)
     unfold orI at this
     rw [this]; omega
    have hww : word k ∧ word (b * 256 ^ j) := by
     rcases hj4 with rfl | rfl | rfl | rfl <;> (unfold word; simp at hkb ⊢; omega)
    refine ⟨k + b * 256 ^ j, (u32_or hww.1 hww.2).trans hor, ?_⟩
    conv => whnf
    refine atq_block (atq_on ?_)
    refine satq_vcN ?_
    conv => whnf
    refine ⟨(j : Int) + 1, by rw [wr32]; omega, ?_⟩
    conv => whnf
    exact atq_next ⟨j + 1, k + b * 256 ^ j, by omega, hnx⟩ (ent_same rfl (aI rfl (aI rfl (aI rfl (aI rfl (aI rfl (aI rfl trivial)))))) (aI sM trivial)) (by show 4 - (j + 1) < 4 - j; omega)
  ·have he : j = 4 := by simp at hc; omega
   subst he
   conv => whnf
   exact atq_out (atq_exit (atq_mid ⟨k, hk⟩ (ent_same rfl (aI rfl (aI rfl (aI rfl trivial))) (aI sM trivial))))
 obtain ⟨x, hx⟩ := x
 dsimp only
 rw [hx]
 have hxw : word x := by have := readN_lt hF hx; unfold word; omega
 refine satq_seqN ?_
 conv => whnf
 refine call_con rfl (by kernel_rfl) (fun r w' hR => decode_walk x w' hxw) ?_
 obtain ⟨y, hy⟩ : ∃ y, decQ x = y := ⟨_, rfl⟩
 have hb : (some x).bind decQ = y := hy
 rw [hb, hy]
 conv => whnf
 refine satq_seqN ?_
 conv => whnf
 refine satq_vcN ?_
 conv => whnf
 refine atq_ret ?_
 conv => whnf
 exact fin_val rfl fun w2 hB => ⟨by cases y <;> rfl, hB⟩
end Go.Proofs.YtnhdcclpjildjaaGreat
