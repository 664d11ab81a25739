/- Walks: the reference's memory: Poke at an address. Walks: the reference's memory: SetCode, Sync, Fetch, Pages, RightsOf, Page. Walks: the reference's memory: Sync, Pages, RightsOf, Page, Fetch. Walks: the program's memory: what is known of it; Pages, at. Two pieces of code with a fact of the world between them. The lifter's block: arithmetic. copy of a string into an own block; closures with two captured boxes; an address within a block of one's own. The lifter's block: branches. The lifter's table of plain operations. -/
import Derived.Test.YtnhdcclpjildjaaGreatL1
import Derived.Test.YtnhdcclpjildjaaGreatL10
import Derived.Test.YtnhdcclpjildjaaGreatL11
import Derived.Test.YtnhdcclpjildjaaGreatL12
import Derived.Test.YtnhdcclpjildjaaGreatL13
import Derived.Test.YtnhdcclpjildjaaGreatL14
import Derived.Test.YtnhdcclpjildjaaGreatL15
import Derived.Test.YtnhdcclpjildjaaGreatL3
import Derived.Test.YtnhdcclpjildjaaGreatL4
import Derived.Test.YtnhdcclpjildjaaGreatL5
import Derived.Test.YtnhdcclpjildjaaGreatL6
import Derived.Test.YtnhdcclpjildjaaGreatL7
import Derived.Test.YtnhdcclpjildjaaGreatL8
import Derived.Test.YtnhdcclpjildjaaGreatL9
import Derived.Test.YtnhdcclpjildjaaGreatMLimitsA
import Derived.Test.YtnhdcclpjildjaaGreatMLimitsB
import Derived.Test.YtnhdcclpjildjaaGreatMLimitsC
namespace Go.Proofs.YtnhdcclpjildjaaGreat
open Go.RowKit

/-- The bytes l from address a on, where they lie within. -/
def MemP.pokeAt (M : MemP) (a : Int) (l : List Int) (j : Nat) : MemP := (l.take j).zipIdx.foldl (fun Q bi => if (a + bi.2) % 4294967296 < Q.data.length then Q.put ((a + bi.2) % 4294967296) bi.1 else Q) M
theorem pokeAt_zero (M : MemP) (a : Int) (l : List Int) : M.pokeAt a l 0 = M := rfl
theorem pokeAt_succ (M : MemP) (a : Int) (l : List Int) {j : Nat} {b : Int} (h : l[j]? = some b) : M.pokeAt a l (j + 1) = if (a + j) % 4294967296 < (M.pokeAt a l j).data.length then (M.pokeAt a l j).put ((a + j) % 4294967296) b else M.pokeAt a l j := by
  have hj : j < l.length := by
    rcases Nat.lt_or_ge j l.length with h1 | h1
    · exact h1
    · rw [List.getElem?_eq_none h1] at h; cases h
  have hl : (l.take j).length = j := by rw [List.length_take]; omega
  unfold MemP.pokeAt
  rw [take_snoc h, List.zipIdx_append, List.foldl_append, hl]
  simp only [List.zipIdx_cons, List.zipIdx_nil, List.foldl_cons, List.foldl_nil, Nat.zero_add]
theorem pokeAt_ok {M : MemP} {n p : Nat} (hM : M.ok n p) (a : Int) {l : List Int} (hb : ∀ x ∈ l, 0 ≤ x ∧ x < 256) : ∀ j, j ≤ l.length → (M.pokeAt a l j).ok n p
  | 0, _ => hM
  | j + 1, h => by
    have e : l[j]? = some l[j] := List.getElem?_eq_getElem h
    rw [pokeAt_succ M a l e]
    have ih := pokeAt_ok hM a hb j (by omega)
    split
    · exact put_ok ih _ (hb _ (List.getElem_mem h))
    · exact ih
set_option maxRecDepth 100000 in
theorem mem_pokeAt (M : MemP) (n p : Nat) (a : Int) (l : List Int) (w : World) (g : Nat) (gs : List Nat) (hU : ObjsAt w (g :: gs) (memS 0 n p M)) (hM : M.ok n p) (_ha : word a) (hbl : ∀ x ∈ l, 0 ≤ x ∧ x < 256) (hlen : l.length ≤ 1000000) (hn8 : 8 < n) :
    Calls Tryz.prog 31 #[.pointer (some ⟨g, 0, none⟩), .int .u32 a, strV l] w fun e w' => e = .returned (.tuple #[]) ∧ ObjsAt w' (g :: gs) (memS 0 n p (M.pokeAt a l l.length)) ∧ GrownBys w w' (g :: gs) := by
  obtain ⟨g0, g1, g2, g3, g4, g5, hg⟩ := six_blocks hU
  injection hg with hg0 hgs
  subst hgs; subst hg0
  have hnp := hM.np
  have hpm := hM.pmax
  refine calls_objs [.p (.c (.ref 0 0)), one (.int .u32 a), one (strV l)] [.pointer (some ⟨g, 0, none⟩), .int .u32 a, strV l] Tryz.func31 Tryz.ntmps31 rfl (by simp) hU ⟨_, _, rfl, den_mk_ref rfl, avdenL_of [.int .u32 a, strV l]⟩ ?_
  conv => whnf
  refine ⟨{ j : Nat // j ≤ l.length }, fun x => [(0, .p (.c (.ref 0 0))), (1, one (.int .u32 a)), (2, one (strV l)), (6, one (.int .i64 (x.1 : Int)))], fun x => memS 0 n p (M.pokeAt a l x.1), fun x => l.length - x.1,
    ⟨⟨0, by omega⟩, ent_same rfl (aI rfl (aI rfl (aI rfl (aI rfl trivial)))) (aI ((aI rfl (Or.inl rfl))) (aI ((aI rfl (Or.inl rfl))) (aI ((aI rfl (Or.inl rfl))) (aI ((aI rfl (Or.inl rfl))) (aI ((aI rfl (Or.inl rfl))) (aI ((aI rfl (Or.inl rfl))) trivial))))))⟩, fun x => ?_⟩
  obtain ⟨j, hj⟩ := x
  dsimp only
  conv => whnf
  refine q_len_str l rfl rfl rfl ?_
  conv => whnf
  refine ⟨fun hc => ?_, fun hc => ?_⟩
  · have hlt : j < l.length := by simpa using hc
    have hQ := pokeAt_ok hM a hbl j hj
    obtain ⟨b, hb⟩ : ∃ b, l[j]? = some b := ⟨_, List.getElem?_eq_getElem (by omega)⟩
    have hbb := hbl b (List.mem_of_getElem? hb)
    have hnext := pokeAt_succ M a l hb
    generalize M.pokeAt a l j = Q at hQ hnext ⊢
    rw [hQ.ld] at hnext
    have hlenQ : n ≤ (List.map CV.v Q.dV).length := tail_le hQ.ld
    have hadr : IntKind.u32.wrap (a + (j : Int)) = (a + j) % 4294967296 := wr32 _
    have hax : 0 ≤ (a + j) % 4294967296 ∧ (a + j) % 4294967296 < 4294967296 := by omega
    conv => whnf
    refine ⟨(j : Int), by rw [wr32]; omega, ?_⟩
    conv => whnf
    refine ⟨_, hadr, ?_⟩
    generalize (a + (j : Int)) % 4294967296 = z at hax hnext hadr ⊢
    conv => whnf
    refine call_memR (pre := []) (suf := [one (.int .u32 z)]) 0 n p Q (.bool (decide (z < (n : Int)))) (fun i hi => by rw [Nat.zero_add]) rfl rfl (by kernel_rfl) (fun w' g gs hk hU => mem_in Q n p z w' g gs hU hQ hax) ?_
    conv => whnf
    refine ⟨fun hc => ?_, fun hc => ?_⟩
    · have hz : z < (n : Int) := by simpa using hc
      rw [if_pos hz] at hnext
      conv => whnf
      refine sat_tail 12 mixed (by kernel_rfl) ?_
      conv => whnf
      refine ⟨(j : Int), by rw [wr32]; omega, ?_⟩
      conv => whnf
      refine ⟨_, hadr, ?_⟩
      conv => whnf
      refine q_index_str l .i64 j b rfl rfl rfl rfl hb hbb ?_
      conv => whnf
      refine ⟨⟨by omega, by omega⟩, ?_⟩
      conv => whnf
      rw [show Nat.ble (0 + z.toNat * tsz Tryz.prog 5 + [CV.v (Value.int IntKind.u8 b)].length) (List.map CV.v Q.dV).length = true from Nat.ble_eq_true_of_le (by refine Nat.le_trans ?_ hlenQ; show 0 + _ * 1 + 1 ≤ n; omega)]
      conv => whnf
      rw [show Nat.ble (List.map CV.v Q.dV).length 8 = false from ble_no (by omega)]
      conv => whnf
      refine ⟨_, wr64 (by omega), ?_⟩
      conv => whnf
      have hset : setAll (List.map CV.v Q.dV) (0 + z.toNat * tsz Tryz.prog 5) [CV.v (Value.int IntKind.u8 b)] = List.map CV.v (M.pokeAt a l (j + 1)).dV := by
        rw [set_vals, hnext]
        show List.map CV.v (Q.dV.set (0 + z.toNat * 1) _) = List.map CV.v ((Q.put z b).dV)
        rw [Nat.zero_add, Nat.mul_one, ← put_dV Q b (by rw [hQ.ld]; omega)]
      have hrest : Q.iV = (M.pokeAt a l (j + 1)).iV ∧ Q.odV = (M.pokeAt a l (j + 1)).odV ∧ Q.oiV = (M.pokeAt a l (j + 1)).oiV ∧ Q.rV = (M.pokeAt a l (j + 1)).rV := by rw [hnext]; exact ⟨rfl, rfl, rfl, rfl⟩
      exact ⟨⟨j + 1, by omega⟩, ent_same rfl (aI rfl (aI rfl (aI rfl (aI rfl trivial)))) (aI ((aI rfl (Or.inl (by rw [hnext]; rfl)))) (aI ((aI rfl (Or.inl hset))) (aI ((aI rfl (Or.inl (by rw [hrest.1])))) (aI ((aI rfl (Or.inl (by rw [hrest.2.1])))) (aI ((aI rfl (Or.inl (by rw [hrest.2.2.1])))) (aI ((aI rfl (Or.inl (by rw [hrest.2.2.2])))) trivial)))))), by show l.length - (j + 1) < l.length - j; omega⟩
    · have hz : ¬ z < (n : Int) := by simpa using hc
      rw [if_neg hz] at hnext
      conv => whnf
      refine ⟨_, wr64 (by omega), ?_⟩
      conv => whnf
      exact ⟨⟨j + 1, by omega⟩, ent_same rfl (aI rfl (aI rfl (aI rfl (aI rfl trivial)))) (aI ((aI rfl (Or.inl (by rw [hnext])))) (aI ((aI rfl (Or.inl (by rw [hnext])))) (aI ((aI rfl (Or.inl (by rw [hnext])))) (aI ((aI rfl (Or.inl (by rw [hnext])))) (aI ((aI rfl (Or.inl (by rw [hnext])))) (aI ((aI rfl (Or.inl (by rw [hnext])))) trivial)))))), by show l.length - (j + 1) < l.length - j; omega⟩
  · have hje : j = l.length := by simp at hc; omega
    rw [hje]
    conv => whnf
    refine ⟨_, _, ent_refl, ?_⟩
    conv => whnf
    exact fin_objs rfl rfl (fun i o h => h) (memS_ob n p (M.pokeAt a l l.length)) fun w' h1 h2 => ⟨rfl, h1, h2⟩
end Go.Proofs.YtnhdcclpjildjaaGreat
namespace Go.Proofs.YtnhdcclpjildjaaGreat
open Go.RowKit

def MemP.codeTo (M : MemP) (q : Nat) (l : List Int) : Nat → MemP
  | 0 => M
  | j + 1 => (M.codeTo q l j).setI (256 * q + j) ((l[j]?).getD 0)
theorem codeTo_ok {M : MemP} {n p : Nat} (hM : M.ok n p) (q : Nat) {l : List Int} (hb : ∀ x ∈ l, 0 ≤ x ∧ x < 256) : ∀ j, (M.codeTo q l j).ok n p
  | 0 => hM
  | j + 1 => setI_ok (codeTo_ok hM q hb j) _ (by
      cases h : l[j]? with
      | none => simp
      | some x => exact hb x (List.mem_of_getElem? h))
set_option maxRecDepth 100000 in
set_option maxHeartbeats 1000000 in
theorem mem_setCode (M : MemP) (n p : Nat) (q : Nat) (l : List Int) (w : World) (g : Nat) (gs : List Nat) (hU : ObjsAt w (g :: gs) (memS 0 n p M)) (hM : M.ok n p) (hq : q < p) (hbl : ∀ x ∈ l, 0 ≤ x ∧ x < 256) (hlen : l.length ≤ 1000000) :
    Calls Tryz.prog 26 #[.pointer (some ⟨g, 0, none⟩), intV (q : Int), strV l] w fun e w' => e = .returned (.tuple #[]) ∧ ObjsAt w' (g :: gs) (memS 0 n p (M.codeTo q l (min l.length 256))) ∧ GrownBys w w' (g :: gs) := by
  obtain ⟨g0, g1, g2, g3, g4, g5, hg⟩ := six_blocks hU
  injection hg with hg0 hgs
  subst hgs; subst hg0
  have hnp := hM.np
  have hpm := hM.pmax
  refine calls_objs [.p (.c (.ref 0 0)), one (intV (q : Int)), one (strV l)] [.pointer (some ⟨g, 0, none⟩), intV (q : Int), strV l] Tryz.func26 Tryz.ntmps26 rfl (by simp) hU ⟨_, _, rfl, den_mk_ref rfl, avdenL_of [intV (q : Int), strV l]⟩ ?_
  conv => whnf
  refine ⟨decide ((q : Int) ≥ (p : Int)), fun _ => ?_, ?_⟩
  · conv => whnf
    exact ⟨rfl, rfl, rfl, rfl, grp_mem _ _ _ _ _ _ _ _ _⟩
  have e1 : cmb false (decide ((q : Int) < 0)) (decide ((q : Int) ≥ (p : Int))) = false := by simp [cmb]; omega
  rw [e1]
  conv => whnf
  refine ⟨false, fun _ => ?_, ?_⟩
  · conv => whnf
    exact ⟨rfl, rfl, rfl, rfl, grp_mem _ _ _ _ _ _ _ _ _⟩
  conv => whnf
  (repeat (first | (refine ⟨fun _ => ?_, (fun h => Bool.noConfusion (show true = false from h))⟩; (conv => whnf)) | (refine ⟨fun _ => ?_, (fun h => Bool.noConfusion (show false = true from h))⟩; (conv => whnf)) | (refine ⟨(fun h => Bool.noConfusion (show false = true from h)), fun _ => ?_⟩; (conv => whnf)) | (refine ⟨(fun h => Bool.noConfusion (show true = false from h)), fun _ => ?_⟩; (conv => whnf)) | (refine ⟨fun _ => ?_, (fun h => absurd h (by decide))⟩; (conv => whnf)) | (refine ⟨(fun h => absurd h (by decide)), fun _ => ?_⟩; (conv => whnf))))
  conv => whnf
  refine ⟨{ j : Nat // j ≤ min l.length 256 }, fun x => [(0, .p (.c (.ref 0 0))), (1, one (intV (q : Int))), (2, one (strV l)), (6, one (.int .i64 (x.1 : Int)))], fun x => memS 0 n p (M.codeTo q l x.1), fun x => 256 - x.1,
    ⟨⟨0, by omega⟩, ent_same rfl (aI rfl (aI rfl (aI rfl (aI rfl trivial)))) (aI ((aI rfl (Or.inl rfl))) (aI ((aI rfl (Or.inl rfl))) (aI ((aI rfl (Or.inl rfl))) (aI ((aI rfl (Or.inl rfl))) (aI ((aI rfl (Or.inl rfl))) (aI ((aI rfl (Or.inl rfl))) trivial))))))⟩, fun x => ?_⟩
  obtain ⟨j, hj⟩ := x
  dsimp only
  conv => whnf
  refine q_len_str l rfl rfl rfl ?_
  conv => whnf
  refine ⟨decide ((j : Int) < 256), fun _ => ?_, ?_⟩
  · conv => whnf
    exact ⟨rfl, rfl, rfl, rfl, grp_mem _ _ _ _ _ _ _ _ _⟩
  conv => whnf
  refine ⟨fun hc => ?_, fun hc => ?_⟩
  · have hlt : j < l.length ∧ j < 256 := by simp [cmb] at hc; omega
    have hQ := codeTo_ok hM q hbl j
    obtain ⟨b, hb⟩ : ∃ b, l[j]? = some b := ⟨_, List.getElem?_eq_getElem (by omega)⟩
    have hbb := hbl b (List.mem_of_getElem? hb)
    have hnext : M.codeTo q l (j + 1) = (M.codeTo q l j).setI (256 * q + j) b := by show (M.codeTo q l j).setI (256 * q + j) ((l[j]?).getD 0) = _; rw [hb]; rfl
    generalize M.codeTo q l j = Q at hQ hnext ⊢
    have hlenQ : n ≤ (List.map CV.v Q.iV).length := tail_le hQ.li
    conv => whnf
    refine sat_tail 12 mixed (by kernel_rfl) ?_
    conv => whnf
    refine ⟨(256 * q : Nat), by rw [show (256 : Int) * (q : Int) = ((256 * q : Nat) : Int) by omega]; exact wr64 (by omega), ?_⟩
    conv => whnf
    refine ⟨(256 * q + j : Nat), by rw [show ((256 * q : Nat) : Int) + (j : Int) = ((256 * q + j : Nat) : Int) by omega]; exact wr64 (by omega), ?_⟩
    conv => whnf
    refine q_index_str l .i64 j b rfl rfl rfl rfl hb hbb ?_
    conv => whnf
    refine ⟨⟨by omega, by omega⟩, ?_⟩
    conv => whnf
    rw [show Nat.ble (0 + ((256 * q + j : Nat) : Int).toNat * tsz Tryz.prog 5 + [CV.v (Value.int IntKind.u8 b)].length) (List.map CV.v Q.iV).length = true from Nat.ble_eq_true_of_le (by refine Nat.le_trans ?_ hlenQ; show 0 + _ * 1 + 1 ≤ n; omega)]
    conv => whnf
    rw [show Nat.ble (List.map CV.v Q.iV).length 8 = false from ble_no (by omega)]
    conv => whnf
    refine ⟨_, wr64 (by omega), ?_⟩
    conv => whnf
    have hset : setAll (List.map CV.v Q.iV) (0 + ((256 * q + j : Nat) : Int).toNat * tsz Tryz.prog 5) [CV.v (Value.int IntKind.u8 b)] = List.map CV.v (M.codeTo q l (j + 1)).iV := by
      rw [set_vals, hnext]
      show List.map CV.v (Q.iV.set (0 + ((256 * q + j : Nat) : Int).toNat * 1) _) = List.map CV.v ((Q.setI (256 * q + j) b).iV)
      rw [Nat.zero_add, Nat.mul_one, Int.toNat_natCast, ← setI_iV Q _ (by rw [hQ.li]; omega)]
    exact ⟨⟨j + 1, by omega⟩, ent_same rfl (aI rfl (aI rfl (aI rfl (aI rfl trivial)))) (aI ((aI rfl (Or.inl (by rw [hnext]; rfl)))) (aI ((aI rfl (Or.inl (by rw [hnext]; rfl)))) (aI ((aI rfl (Or.inl hset))) (aI ((aI rfl (Or.inl (by rw [hnext]; rfl)))) (aI ((aI rfl (Or.inl (by rw [hnext]; rfl)))) (aI ((aI rfl (Or.inl (by rw [hnext]; rfl)))) trivial)))))), by show 256 - (j + 1) < 256 - j; omega⟩
  · have hje : j = min l.length 256 := by
      have h1 : ¬ (j < l.length ∧ j < 256) := fun h => by
        have : cmb true (decide ((j : Int) < (l.length : Int))) (decide ((j : Int) < 256)) = true := by simp [cmb]; omega
        rw [this] at hc; cases hc
      omega
    rw [hje]
    conv => whnf
    refine ⟨_, _, ent_refl, ?_⟩
    conv => whnf
    exact fin_objs rfl rfl (fun i o h => h) (memS_ob n p _) fun w' h1 h2 => ⟨rfl, h1, h2⟩
end Go.Proofs.YtnhdcclpjildjaaGreat
namespace Go.Proofs.YtnhdcclpjildjaaGreat
open Go.RowKit

set_option maxRecDepth 100000 in
theorem mem_pages (M : MemP) (n p : Nat) (w : World) (g : Nat) (gs : List Nat) (hU : ObjsAt w (g :: gs) (memS 0 n p M)) :
    Calls Tryz.prog 30 #[.pointer (some ⟨g, 0, none⟩)] w fun e w' => e = .returned (intV (p : Int)) ∧ ObjsAt w' (g :: gs) (memS 0 n p M) ∧ GrownBys w w' (g :: gs) := by
  obtain ⟨g0, g1, g2, g3, g4, g5, hg⟩ := six_blocks hU
  injection hg with hg0 hgs
  subst hgs; subst hg0
  refine calls_objs [.p (.c (.ref 0 0))] [.pointer (some ⟨g, 0, none⟩)] Tryz.func30 Tryz.ntmps30 rfl (by simp) hU ⟨_, _, rfl, den_mk_ref rfl, rfl⟩ ?_
  conv => whnf
  exact fin_objs rfl rfl (fun i o h => h) (memS_ob n p M) fun w' h1 h2 => ⟨rfl, h1, h2⟩
set_option maxRecDepth 100000 in
theorem mem_rightsOf (M : MemP) (n p : Nat) (q : Nat) (w : World) (g : Nat) (gs : List Nat) (hU : ObjsAt w (g :: gs) (memS 0 n p M)) (hM : M.ok n p) (hq : q < p) :
    Calls Tryz.prog 32 #[.pointer (some ⟨g, 0, none⟩), intV (q : Int)] w fun e w' => e = .returned (intV (M.rightsAt q)) ∧ ObjsAt w' (g :: gs) (memS 0 n p M) ∧ GrownBys w w' (g :: gs) := by
  obtain ⟨g0, g1, g2, g3, g4, g5, hg⟩ := six_blocks hU
  injection hg with hg0 hgs
  subst hgs; subst hg0
  refine calls_objs [.p (.c (.ref 0 0)), one (intV (q : Int))] [.pointer (some ⟨g, 0, none⟩), intV (q : Int)] Tryz.func32 Tryz.ntmps32 rfl (by simp) hU ⟨_, _, rfl, den_mk_ref rfl, avdenL_of [intV (q : Int)]⟩ ?_
  conv => whnf
  refine ⟨decide ((q : Int) ≥ (p : Int)), fun _ => ?_, ?_⟩
  · conv => whnf
    exact ⟨rfl, rfl, rfl, rfl, grp_mem _ _ _ _ _ _ _ _ _⟩
  conv => whnf
  refine ⟨fun hc => absurd hc (by simp [cmb]; omega), fun _ => ?_⟩
  conv => whnf
  (refine ⟨⟨by omega, by omega⟩, ?_⟩; (conv => whnf))
  have hget : (List.map CV.v M.rV)[0 + (q : Int).toNat * tsz Tryz.prog 3]? = some (.v (intV (M.rightsAt q))) := by
    show (List.map CV.v M.rV)[0 + (q : Int).toNat * 1]? = _
    obtain ⟨y, hy⟩ : ∃ y, M.rights[q]? = some y := ⟨_, List.getElem?_eq_getElem (by rw [hM.lr]; omega)⟩
    rw [Nat.zero_add, Nat.mul_one, Int.toNat_natCast]
    unfold MemP.rightsAt; rw [hy]; exact tail_at hy
  rw [hget]
  conv => whnf
  exact fin_objs rfl rfl (fun i o h => h) (memS_ob n p M) fun w' h1 h2 => ⟨rfl, h1, h2⟩
theorem page_length {M : MemP} {n p q : Nat} (hM : M.ok n p) (hq : q < p) : (M.page q).length = 256 := by
  have := hM.np
  unfold MemP.page
  rw [List.length_take, List.length_drop, hM.ld]; omega
theorem q_conv_cells {P : Program} {w0 : World} {G : Gs} {S : List Ow} {f : Fr} {o : Oper} {K : AV → Prop} {x : Operand} {src dst e : TypeId} {te : TypeId} {L : List CV} (i off n c : Nat) (m : List Int) (hop : o.op = .convert src dst x) (hs : P.underlying src = some (.slice e)) (he : P.underlying e = some (.int .u8)) (hd : P.underlying dst = some .string) (hx : f.ev x = .p (.c (.sl i off n c))) (hi : S[i]? = some (.cells te L)) (hm : (L.drop off).take n = (m.map (Value.int .u8)).map .v) (hn : m.length = n) (hk : K (one (strV m))) : QRun P w0 G S f o K := by
  refine ⟨_, hk, fun r a hf => ?_⟩
  have h1 := hf.ev x
  rw [hx] at h1
  obtain ⟨b, hb, hu⟩ := den_sl h1
  refine ⟨_, rfl, fun w hR => ?_⟩
  obtain ⟨b', us, e1, e2, e3⟩ := hR.own i _ hi
  rw [hb] at e1; injection e1 with e1; subst e1
  have e4 := denL_take n (denL_drop off e3)
  rw [hm] at e4
  have e5 := denL_vals_inv e4
  have hl : (loadCells ⟨b, off, none⟩ n).run P w = .ok (m.map (Value.int .u8)).toArray w := by
    unfold loadCells
    have := run_loadCells (P := P) (w := w) (b := b) (off := off) n 0 #[] (m.map (Value.int .u8)) (by simp [hn]) (fun j u hj => by
      rw [← e5, List.getElem?_take] at hj
      split at hj
      · rw [List.getElem?_drop] at hj
        simpa [World.cell?, e2] using hj
      · simp at hj)
    simpa using this
  simp [execOp, hop, hu, run_convert_bytes_string w src dst e _ n c hs he hd, run_bytesToString w _ n c m hl, strV, bytesA]
theorem page_cells {M : MemP} {n p q : Nat} (hM : M.ok n p) (hq : q < p) : ((M.dV.map CV.v).drop (256 * q)).take 256 = ((M.page q).map (Value.int .u8)).map .v := by
  have hnp := hM.np
  unfold MemP.dV MemP.page
  rw [← List.map_drop, ← List.map_take, List.drop_append_of_le_length (by simp [hM.ld]; omega), List.take_append_of_le_length (by simp [hM.ld]; omega), ← List.map_drop, ← List.map_take]
set_option maxRecDepth 100000 in
theorem mem_page (M : MemP) (n p : Nat) (q : Nat) (w : World) (g : Nat) (gs : List Nat) (hU : ObjsAt w (g :: gs) (memS 0 n p M)) (hM : M.ok n p) (hq : q < p) :
    Calls Tryz.prog 68 #[.pointer (some ⟨g, 0, none⟩), intV (q : Int)] w fun e w' => e = .returned (strV (M.page q)) ∧ ObjsAt w' (g :: gs) (memS 0 n p M) ∧ GrownBys w w' (g :: gs) := by
  obtain ⟨g0, g1, g2, g3, g4, g5, hg⟩ := six_blocks hU
  injection hg with hg0 hgs
  subst hgs; subst hg0
  have hnp := hM.np
  have hpm := hM.pmax
  refine calls_objs [.p (.c (.ref 0 0)), one (intV (q : Int))] [.pointer (some ⟨g, 0, none⟩), intV (q : Int)] Tryz.func68 Tryz.ntmps68 rfl (by simp) hU ⟨_, _, rfl, den_mk_ref rfl, avdenL_of [intV (q : Int)]⟩ ?_
  conv => whnf
  refine ⟨decide ((q : Int) ≥ (p : Int)), fun _ => ?_, ?_⟩
  · conv => whnf
    exact ⟨rfl, rfl, rfl, rfl, grp_mem _ _ _ _ _ _ _ _ _⟩
  conv => whnf
  refine ⟨fun hc => absurd hc (by simp [cmb]; omega), fun _ => ?_⟩
  conv => whnf
  refine ⟨(256 * q : Nat), by rw [show (256 : Int) * (q : Int) = ((256 * q : Nat) : Int) by omega]; exact wr64 (by omega), ?_⟩
  conv => whnf
  refine ⟨(256 * q : Nat), by rw [show (256 : Int) * (q : Int) = ((256 * q : Nat) : Int) by omega]; exact wr64 (by omega), ?_⟩
  conv => whnf
  refine ⟨(256 * q + 256 : Nat), by rw [show ((256 * q : Nat) : Int) + (256 : Int) = ((256 * q + 256 : Nat) : Int) by omega]; exact wr64 (by omega), ?_⟩
  conv => whnf
  refine opS_q (q_slice_own (size := 1) 1 0 n (n + M.td.length) (256 * q) (256 * q + 256) rfl rfl rfl rfl rfl (.inr ⟨_, _, rfl, rfl⟩) (.inr ⟨_, _, rfl, rfl⟩) (by omega) (by omega) (by omega) ?_) rfl
  conv => whnf
  refine q_conv_cells (m := M.page q) 1 (0 + 256 * q * 1) (256 * q + 256 - 256 * q) (n + M.td.length - 256 * q) rfl rfl rfl rfl rfl rfl (by rw [show 0 + 256 * q * 1 = 256 * q by omega, show 256 * q + 256 - 256 * q = 256 by omega]; exact page_cells hM hq) (by rw [page_length hM hq]; omega) ?_
  conv => whnf
  exact fin_objs rfl rfl (fun i o h => h) (memS_ob n p M) fun w' h1 h2 => ⟨rfl, h1, h2⟩
end Go.Proofs.YtnhdcclpjildjaaGreat
namespace Go.Proofs.YtnhdcclpjildjaaGreat
open Go.RowKit

theorem slotsL_length (l : List Slt) : (slotsL l).length = 7 * l.length := by
  unfold slotsL
  induction l with
  | nil => rfl
  | cons s l ih =>
    rw [List.flatMap_cons, List.length_append, ih, List.length_cons]
    show 7 + 7 * l.length = 7 * (l.length + 1)
    omega
theorem slotsL_get : ∀ {l : List Slt} {k : Nat} {s : Slt} {j : Nat} {v : Value}, l[k]? = some s → (slotL s)[j]? = some v → (slotsL l)[7 * k + j]? = some v
  | [], k, s, j, v, h, _ => by simp at h
  | x :: l, 0, s, j, v, h, hj => by
    simp at h; subst h
    have hj7 : j < 7 := by
      rcases Nat.lt_or_ge j 7 with h1 | h1
      · exact h1
      · rw [List.getElem?_eq_none (by simpa using h1)] at hj; cases hj
    show (slotL x ++ slotsL l)[7 * 0 + j]? = some v
    rw [List.getElem?_append_left (by show 7 * 0 + j < 7; omega), Nat.mul_zero, Nat.zero_add]; exact hj
  | x :: l, k + 1, s, j, v, h, hj => by
    show (slotL x ++ slotsL l)[7 * (k + 1) + j]? = some v
    rw [List.getElem?_append_right (by show 7 ≤ _; omega)]
    rw [show 7 * (k + 1) + j - (slotL x).length = 7 * k + j by show 7 * (k + 1) + j - 7 = _; omega]
    exact slotsL_get (by simpa using h) hj
theorem block_cells {w : World} {b : Nat} {us : List Value} {t : TypeId} (h : w.heap[b]? = some (.cells us.toArray t (0, 0))) {off : Nat} {x : Value} (hx : us[off]? = some x) : CellsAt w Gs.nil b off [x] :=
  cells_one (heap_lt h) (by simp) (by simp [World.cell?, h, hx])
section
variable {w : World} {B m sb : Nat} {l : List Slt} {img : Nat → List Int}
set_option maxRecDepth 100000 in
theorem pages_mem (h : w.heap[m]? = some (.cells #[.slice (some ⟨sb, 0, none⟩) l.length l.length, .bool false] 163 (0, 0))) : Calls Tryz.prog 96 #[ptrV m] w fun e w' => e = .returned (intV (l.length : Int)) ∧ Below w.heap.size w w' := by
  refine calls_valN [ptrV m] Tryz.func96 Tryz.ntmps96 rfl (by simp) ?_
  conv => whnf
  refine q_nil_v _ rfl rfl rfl rfl ?_
  conv => whnf
  (repeat (first | (refine ⟨fun _ => ?_, (fun h => Bool.noConfusion (show true = false from h))⟩; (conv => whnf)) | (refine ⟨fun _ => ?_, (fun h => Bool.noConfusion (show false = true from h))⟩; (conv => whnf)) | (refine ⟨(fun h => Bool.noConfusion (show false = true from h)), fun _ => ?_⟩; (conv => whnf)) | (refine ⟨(fun h => Bool.noConfusion (show true = false from h)), fun _ => ?_⟩; (conv => whnf)) | (refine ⟨fun _ => ?_, (fun h => absurd h (by decide))⟩; (conv => whnf)) | (refine ⟨(fun h => absurd h (by decide)), fun _ => ?_⟩; (conv => whnf))))
  conv => whnf
  refine ⟨_, block_cells (us := [.slice (some ⟨sb, 0, none⟩) l.length l.length, .bool false]) h rfl, ?_⟩
  conv => whnf
  exact fin_val rfl fun w' hB => ⟨rfl, hB⟩
/-- The slot of an address, if it lies within. -/
abbrev atV (sb n : Nat) (a : Int) : Value := .pointer (if a / 256 < (n : Int) then some ⟨sb, 0 + (a / 256).toNat * 7, none⟩ else none)
set_option maxRecDepth 100000 in
theorem at_mem (a : Int) (h : w.heap[m]? = some (.cells #[.slice (some ⟨sb, 0, none⟩) l.length l.length, .bool false] 163 (0, 0))) (ha : word a) : Calls Tryz.prog 112 #[ptrV m, .int .u32 a] w fun e w' => e = .returned (atV sb l.length a) ∧ Below w.heap.size w w' := by
  have hw : 0 ≤ a ∧ a < 4294967296 := ha
  refine calls_valN [ptrV m, .int .u32 a] Tryz.func112 Tryz.ntmps112 rfl (by simp) ?_
  conv => whnf
  refine ⟨by decide, a / 256, by rw [Int.tdiv_eq_ediv_of_nonneg hw.1, wr32]; omega, ?_⟩
  conv => whnf
  refine ⟨a / 256, wr64 (by omega), ?_⟩
  conv => whnf
  refine call_con rfl (by kernel_rfl) (fun r w' hR => pages_mem (by rw [hR.toBelow.block _ (heap_lt h)]; exact h)) ?_
  conv => whnf
  refine ⟨fun hc => ?_, fun hc => ?_⟩
  · have : ¬ a / 256 < (l.length : Int) := by simp at hc; omega
    conv => whnf
    exact fin_val rfl fun w' hB => ⟨by unfold atV; rw [if_neg this], hB⟩
  · have hlt : a / 256 < (l.length : Int) := by simp at hc; omega
    conv => whnf
    refine ⟨_, block_cells (us := [.slice (some ⟨sb, 0, none⟩) l.length l.length, .bool false]) h rfl, ?_⟩
    conv => whnf
    (refine ⟨⟨by omega, by omega⟩, ?_⟩; (conv => whnf))
    exact fin_val rfl fun w' hB => ⟨by unfold atV; rw [if_pos hlt]; rfl, hB⟩
end
end Go.Proofs.YtnhdcclpjildjaaGreat
namespace Go.Proofs.YtnhdcclpjildjaaGreat
open Go.RowKit

section
variable {P : Program} {w0 : World} {G : Gs} {N : Nd} {c d : Code} {f : Fr} {S : List Ow} {Q : Exit → Act → World → Prop} {α : Type}
def MidW (N : Nd) (T : α → Fr) (J : α → World → Prop) (Q : Exit → Act → World → Prop) : Exit → Act → World → Prop := fun e a w => match e with
  | .normal => ∃ y, FDen Env.none (T y) a ∧ a.tmps.size = N.n ∧ a.defers = N.ds ∧ J y w
  | e => Q e a w
theorem satq_midW (T : α → Fr) (J : α → World → Prop) (hc : SatQ P w0 G N c f S (MidW N T J Q)) (hd : ∀ y w, J y w → SatQ P w Gs.nil N d (T y) [] Q) : SatQ P w0 G N (.seq c d) f S Q :=
  ⟨fun a w hg => wpIn_seq (wpIn_mono (hc.out a w hg) fun e a' w' hq => by
    cases e with
    | normal =>
      obtain ⟨y, hf, hN, hds, hJ⟩ := hq
      exact (hd y w' hJ).out a' w' ⟨Env.none, rel_none w', hf, hN, hds⟩
    | exit id => exact hq
    | goto l => exact hq
    | ret => exact hq
    | panic ch => exact hq
    | outgrown => exact hq)⟩
theorem atq_midW {T : α → Fr} {J : α → World → Prop} (y : α) (hf : FLe (plF f) (T y)) (hJ : ∀ r w, Rel w0 G S r w → J y w) : AtQ w0 G N .normal f S (MidW N T J Q) :=
  ⟨fun _a w ⟨r, hR, hfd, hN, hds⟩ => ⟨y, hf.den (plF_den hfd), hN, hds, hJ r w hR⟩⟩
theorem atq_ret_midW {T : α → Fr} {J : α → World → Prop} (h : AtQ w0 G N .ret f S Q) : AtQ w0 G N .ret f S (MidW N T J Q) := ⟨fun a w hg => h.out a w hg⟩
end
end Go.Proofs.YtnhdcclpjildjaaGreat
namespace Go.Proofs.YtnhdcclpjildjaaGreat
open Go.RowKit

section
variable {w : World} {g : Nat} {vA vP vO : Value} {l : List BOp} {pb : Nat} {us : List Value} {t : TypeId}
theorem box_ok {w1 : World} (h : LiftAt w g vA vP vO l) (hB : Below w.heap.size w w1) (hb : w1.heap[pb]? = some (.cells us.toArray t (0, 0))) (hn : w.heap.size ≤ pb) : LSt w1 w1 g vA vP vO l pb us t :=
  ⟨LiftTo.refl (h.later hB) (Below.refl _ _), hb, heap_lt hb, fun e => by have := h.lt; omega, fun e => by have := (own_new h.row pb e).2; omega⟩
theorem fresh_of {w1 : World} {S : List Ow} {r : Env} (hR : Rel w Gs.nil S r w1) {i b : Nat} (hb : r.blk i = some b) : w.heap.size ≤ b := by
  rcases Nat.lt_or_ge b w.heap.size with h1 | h1
  · rcases (hR.new i b hb).2 h1 with h2 | h2 <;> cases h2
  · exact h1
set_option maxRecDepth 100000 in
set_option maxHeartbeats 1000000 in
theorem arith_walk (h : LiftAt w g vA vP vO l) (i : QI) (hlen : l.length ≤ 100000000) :
    Calls Tryz.prog 99 #[pV g, intV (qCode i.op), qiV i] w fun e w' => e = .returned (.tuple #[]) ∧ LiftTo w w' g vA vP vO (l ++ qArith i) := by
  refine calls_satq [pV g, intV (qCode i.op), qiV i] Tryz.func99 Tryz.ntmps99 rfl (by simp) ?_
  refine satq_seqN ?_
  conv => whnf
  refine satq_restart fun r w1 hR => ?_
  obtain ⟨pb, us, e1, e2, e3⟩ := hR.own 0 _ rfl
  obtain rfl := denL_vals_inv (us := qiL i) e3
  have hB1 := hR.toBelow
  have hs := box_ok h hB1 e2 (fresh_of hR e1)
  refine ⟨slotFr [(0, pV g), (1, intV (qCode i.op)), (5, pV pb)], fun a' hf => slots_den ⟨slot_val hf rfl, slot_val hf rfl, slot_ref hf 5 rfl e1, trivial⟩, ?_⟩
  clear hR e3
  refine satq_seqN ?_
  conv => whnf
  refine ⟨_, block_cells hs.box (off := 0 + 3) (x := intV i.b) rfl, ?_⟩
  conv => whnf
  refine satq_midW (α := Unit) (fun _ => [(0, one (pV g)), (1, one (intV (qCode i.op))), (5, one (pV pb)), (6, one (intV i.b))]) (fun _ w2 => LSt w1 w2 g vA vP vO (l ++ if i.op = 10 then [⟨21, 0, i.b, 0, 0⟩] else []) pb (qiL i) qiT) ?_ fun _ w2 hs2 => ?_
  · refine satq_seqN ?_
    conv => whnf
    refine ⟨_, block_cells hs.box (off := 0 + 0) (x := intV i.op) rfl, ?_⟩
    conv => whnf
    refine satq_cond rfl (fun hc => ?_) (fun hc => ?_)
    · have ho : i.op = 10 := by simpa using hc
      rw [if_pos ho]
      refine satq_jump 4 rfl rfl rfl ?_
      conv => whnf
      obtain ⟨vO1, k1, k2⟩ := hs.step
      refine jmp_add (h.later hB1) [⟨21, 0, i.b, 0, 0⟩] 0 1 rfl rfl (by omega) fun w2 hl => ?_
      conv => whnf
      refine atq_midW () (aI rfl (aI rfl (aI rfl (aI rfl trivial)))) fun r w3 hR => ?_
      exact (LSt.mk hl ((hl.block pb hs.lt hs.ne hs.no).trans hs.box) hs.lt hs.ne hs.no).later hR.toBelow
    · have ho : ¬ i.op = 10 := by simpa using hc
      rw [if_neg ho, List.append_nil]
      refine satq_skip (atq_midW () (aI rfl (aI rfl (aI rfl (aI rfl trivial)))) fun r w3 hR => ?_)
      exact hs.later hR.toBelow
  have hgl : (l ++ if i.op = 10 then [(⟨21, 0, i.b, 0, 0⟩ : BOp)] else []).length ≤ 100000001 := by
    rw [List.length_append]; split
    · simp; omega
    · simp; omega
  have hq : qArith i = (if i.op = 10 then [⟨21, 0, i.b, 0, 0⟩] else []) ++ (if i.d = 0 then [] else if 16 ≤ i.op then [⟨1, 20, 0, 0, i.imm⟩, ⟨qCode i.op, i.d, i.a, 20, 0⟩] else [⟨qCode i.op, i.d, i.a, i.b, 0⟩]) := rfl
  rw [hq, ← List.append_assoc]
  generalize (l ++ if i.op = 10 then [(⟨21, 0, i.b, 0, 0⟩ : BOp)] else []) = l1 at hgl hs2 ⊢
  refine satq_seqN ?_
  conv => whnf
  refine ⟨_, block_cells hs2.box (off := 0 + 1) (x := intV i.d) rfl, ?_⟩
  conv => whnf
  refine ⟨fun hc => ?_, fun hc => ?_⟩
  · have hd : i.d = 0 := by simpa using hc
    rw [if_pos hd, List.append_nil]
    conv => whnf
    refine atq_ret ?_
    conv => whnf
    exact fin_val rfl fun w3 hB => ⟨rfl, (hs2.lift.early hB1).later hB⟩
  have hd : ¬ i.d = 0 := by simpa using hc
  rw [if_neg hd]
  conv => whnf
  refine satq_midW (α := Unit) (fun _ => [(0, one (pV g)), (1, one (intV (qCode i.op))), (5, one (pV pb)), (6, one (intV (if 16 ≤ i.op then 20 else i.b)))]) (fun _ w3 => LSt w1 w3 g vA vP vO (l1 ++ if 16 ≤ i.op then [⟨1, 20, 0, 0, i.imm⟩] else []) pb (qiL i) qiT) ?_ fun _ w3 hs3 => ?_
  · refine satq_seqN ?_
    conv => whnf
    refine ⟨_, block_cells hs2.box (off := 0 + 0) (x := intV i.op) rfl, ?_⟩
    conv => whnf
    refine satq_cond rfl (fun hc => ?_) (fun hc => ?_)
    · have ho : 16 ≤ i.op := by simpa using hc
      rw [if_pos ho, if_pos ho]
      refine satq_seqN ?_
      conv => whnf
      refine satq_jump 6 rfl rfl rfl ?_
      conv => whnf
      refine ⟨_, block_cells hs2.box (off := 0 + 4) (x := .int .u32 i.imm) rfl, ?_⟩
      conv => whnf
      obtain ⟨vO1, k1, k2⟩ := hs2.step
      refine jmp_add k1 [⟨1, 20, 0, 0, i.imm⟩] 0 1 rfl rfl (by omega) fun w3 hl => ?_
      conv => whnf
      refine atq_midW () (aI rfl (aI rfl (aI rfl (aI rfl trivial)))) fun r w4 hR => ?_
      exact (k2 _ _ hl).later hR.toBelow
    · have ho : ¬ 16 ≤ i.op := by simpa using hc
      rw [if_neg ho, if_neg ho, List.append_nil]
      refine satq_skip (atq_midW () (aI rfl (aI rfl (aI rfl (aI rfl trivial)))) fun r w4 hR => ?_)
      exact hs2.later hR.toBelow
  refine satq_jump 9 rfl rfl rfl ?_
  conv => whnf
  refine ⟨_, block_cells hs3.box (off := 0 + 1) (x := intV i.d) rfl, ?_⟩
  conv => whnf
  refine ⟨_, block_cells hs3.box (off := 0 + 2) (x := intV i.a) rfl, ?_⟩
  conv => whnf
  obtain ⟨vO1, k1, k2⟩ := hs3.step
  refine jmp_add k1 [⟨qCode i.op, i.d, i.a, if 16 ≤ i.op then 20 else i.b, 0⟩] 0 1 rfl rfl (by rw [List.length_append]; split <;> simp <;> omega) fun w4 hl => ?_
  have hfin := k2 _ _ hl
  have e : l1 ++ (if 16 ≤ i.op then [⟨1, 20, 0, 0, i.imm⟩] else []) ++ [(⟨qCode i.op, i.d, i.a, if 16 ≤ i.op then 20 else i.b, 0⟩ : BOp)] = l1 ++ (if 16 ≤ i.op then [⟨1, 20, 0, 0, i.imm⟩, ⟨qCode i.op, i.d, i.a, 20, 0⟩] else [⟨qCode i.op, i.d, i.a, i.b, 0⟩]) := by
    split <;> simp
  rw [e] at hfin
  conv => whnf
  refine atq_end ?_
  conv => whnf
  exact fin_val rfl fun w5 hB => ⟨rfl, (hfin.lift.early hB1).later hB⟩
end
end Go.Proofs.YtnhdcclpjildjaaGreat
namespace Go.Proofs.YtnhdcclpjildjaaGreat
open Go.RowKit

section
variable {P : Program} {w0 : World} {G : Gs} {N : Nd} {S : List Ow} {f : Fr} {o : Oper}
theorem q_makeFunc2 {K : AV → Prop} {fid : FuncId} {x y : Operand} {vx vy : Value} (hop : o.op = .makeFunc (.func fid) #[] #[x, y]) (hx : f.ev x = one vx) (hy : f.ev y = one vy) (hk : K (one (.func (.func fid) #[] #[vx, vy]))) : QRun P w0 G S f o K := by
  refine ⟨_, hk, fun r a hf => ?_⟩
  have h1 := hf.ev x
  have h2 := hf.ev y
  rw [hx] at h1; rw [hy] at h2
  refine ⟨_, den_one _ _, fun w hR => ?_⟩
  simp [execOp, hop, den_v h1, den_v h2, Instr.makeFunc]
theorem extract_bytes (l : List Int) : ((bytesA l).extract 0 l.length).data.toList = l.map fun n => UInt8.ofNat n.toNat := by
  have h : (bytesA l).extract 0 l.length = bytesA l := by
    have := bytesA_size l
    rw [← this]
    exact ByteArray.extract_zero_size
  rw [h, bytesA_list]
theorem run_firstBytes (P : Program) (w : World) (l : List Int) (hl : ∀ x ∈ l, 0 ≤ x ∧ x < 256) : (Builtin.firstCells 1 l.length (strV l)).run P w = .ok (l.map (Value.int .u8)).toArray w := by
  have h : ((bytesA l).extract 0 l.length).data.map (fun b => Value.int .u8 b.toNat) = (l.map (Value.int .u8)).toArray := by
    apply Array.ext'
    rw [Array.toList_map, extract_bytes, List.map_map]
    refine List.map_congr_left fun x hx => ?_
    have := hl x hx
    have h2 : (UInt8.ofNat x.toNat).toNat = x.toNat := by simp; omega
    show Value.int .u8 (((UInt8.ofNat x.toNat).toNat : Nat) : Int) = Value.int .u8 x
    rw [h2]
    congr 1
    omega
  show (pure (((bytesA l).extract 0 l.length).data.map fun b => Value.int .u8 b.toNat) : Sem (Array Value)).run P w = _
  rw [h]
  exact Sem.run_pure _ _ _
/-- copy of a whole string to the front of an own array. -/
theorem op_copy_str {K : Fr → List Ow → Prop} {t t2 e ti : TypeId} {inf : TypeInfo} {d s : Operand} {li : List CV} (l : List Int) (i n c : Nat) (hop : o.op = .call ⟨.builtin .copy, #[d, s], #[t, t2]⟩) (ht : P.underlying t = some (.slice e)) (hif : P.info? e = some inf) (hsz : inf.size = 1)
    (hd : f.ev d = .p (.c (.sl i 0 n c))) (hs : f.ev s = one (strV l)) (hi : S[i]? = some (.cells ti li)) (hl : ∀ x ∈ l, 0 ≤ x ∧ x < 256) (hmn : l.length ≤ n) (hle : l.length ≤ li.length) (hdst : dstOk N.n o.dst = true)
    (hk : K (f.put o.dst (one (.int .i64 (l.length : Int)))) (S.set i (.cells ti (setAll li 0 ((l.map (Value.int .u8)).map .v))))) : OpS P w0 G N o f S K := by
  refine ⟨fun r a w hR hf hN hd' next Q hK => ?_⟩
  have h1 := hf.ev d
  have h2 := hf.ev s
  rw [hd] at h1; rw [hs] at h2
  obtain ⟨b, hb, hu⟩ := den_sl h1
  obtain ⟨b', vs, e1, e2, e3⟩ := hR.own i _ hi
  rw [hb] at e1; injection e1 with e1; subst e1
  have hfirst := run_firstBytes P w l hl
  have hll := denL_length e3
  obtain ⟨w', hr, hg, hbl⟩ := run_storeCells (P := P) (l.map (Value.int .u8)) (i := 0) (off := 0) e2 (fun u hu => by obtain ⟨x, _, rfl⟩ := List.mem_map.1 hu; exact ⟨fun x h => (by cases h), fun x h => (by cases h)⟩) (by rw [List.length_map]; omega)
  have hmin : Nat.min l.length n = l.length := Nat.min_eq_left hmn
  have hmin' : min l.length n = l.length := Nat.min_eq_left hmn
  have hlen : (Builtin.lenOf (strV l)).run P w = .ok l.length w := by
    show (pure (bytesA l).size : Sem Nat).run P w = _
    rw [bytesA_size]; exact Sem.run_pure _ _ _
  have hex : (execOp a.eval o).run P w = .ok (.value (.int .i64 (l.length : Int))) w' := by
    simp [execOp, hop, resolve, invoke, builtin, hu, den_v h2, Builtin.copy_, run_underlying ht, hlen, run_sizeOf P e w hif, hsz, hmin, hfirst, hr, goInt]
  refine wp_of_value hex (hK _ _ _ _ hk ?_)
  refine good_value hR hf hN hd' hdst (den_one _ _) (hR.setBlock hb hg ⟨b, _, hb, hbl, ?_⟩ (hR.lt_of_blk hb)) (Env.le.refl r)
  exact denL_setAll _ (denL_vals _) e3
end
end Go.Proofs.YtnhdcclpjildjaaGreat
namespace Go.Proofs.YtnhdcclpjildjaaGreat
open Go.RowKit

abbrev lpT : TypeId := 136
section
variable {w : World} {g : Nat} {vA vP vO : Value} {l : List BOp} {pl pi : Nat}
abbrev testL (i : QI) (c : Int) (inv : Bool) : List BOp := [⟨c, 20, i.d, i.a, 0⟩] ++ (if inv = true then [⟨1, 21, 0, 0, 1⟩, ⟨7, 20, 20, 21, 0⟩] else [])
set_option maxRecDepth 100000 in
theorem test_walk (i : QI) (c : Int) (inv : Bool) (h : LiftAt w g vA vP vO l) (hl : LSt w w g vA vP vO l pl [pV g] lpT) (hi : LSt w w g vA vP vO l pi (qiL i) qiT) (hlen : l.length ≤ 100000000) :
    Calls Tryz.prog 118 #[intV c, .bool inv, pV pl, pV pi] w fun e w' => e = .returned (.tuple #[]) ∧ LiftTo w w' g vA vP vO (l ++ testL i c inv) := by
  refine calls_satq [intV c, .bool inv, pV pl, pV pi] Tryz.func118 Tryz.ntmps118 rfl (by simp) ?_
  refine satq_in (satq_jump 8 rfl rfl rfl ?_)
  conv => whnf
  refine ⟨_, block_cells hl.box (off := 0) (x := pV g) rfl, ?_⟩
  conv => whnf
  refine ⟨_, block_cells hi.box (off := 0 + 1) (x := intV i.d) rfl, ?_⟩
  conv => whnf
  refine ⟨_, block_cells hi.box (off := 0 + 2) (x := intV i.a) rfl, ?_⟩
  conv => whnf
  refine jmp_add h [⟨c, 20, i.d, i.a, 0⟩] 0 1 rfl rfl (by omega) fun w1 hq => ?_
  have hl1 : LSt w w1 g vA vP vO (l ++ [⟨c, 20, i.d, i.a, 0⟩]) pl [pV g] lpT := ⟨hq, (hq.block pl hl.lt hl.ne hl.no).trans hl.box, hl.lt, hl.ne, hl.no⟩
  conv => whnf
  refine atq_on ?_
  refine satq_seqN ?_
  conv => whnf
  cases inv with
  | false =>
    refine satq_cond rfl (fun hc => absurd hc (by decide)) (fun _ => ?_)
    refine satq_skip (atq_end ?_)
    conv => whnf
    exact fin_val rfl fun w2 hB => ⟨rfl, hl1.lift.later hB⟩
  | true =>
    refine satq_cond rfl (fun _ => ?_) (fun hc => absurd hc (by decide))
    refine satq_jump 4 rfl rfl rfl ?_
    conv => whnf
    refine ⟨_, block_cells hl1.box (off := 0) (x := pV g) rfl, ?_⟩
    conv => whnf
    obtain ⟨vO1, k1, k2⟩ := hl1.step
    refine jmp_add k1 [⟨1, 21, 0, 0, 1⟩, ⟨7, 20, 20, 21, 0⟩] 0 2 rfl rfl (by rw [List.length_append]; simp; omega) fun w2 hq2 => ?_
    have hfin := k2 _ _ hq2
    rw [List.append_assoc] at hfin
    conv => whnf
    refine atq_end ?_
    conv => whnf
    exact fin_val rfl fun w3 hB => ⟨rfl, hfin.lift.later hB⟩
theorem test_jmp {w1 : World} {S : List Ow} {K : Value → World → Prop} (i : QI) (c : Int) (inv : Bool) (h : LiftAt w1 g vA vP vO l) (hl : LSt w1 w1 g vA vP vO l pl [pV g] lpT) (hi : LSt w1 w1 g vA vP vO l pi (qiL i) qiT) (hlen : l.length ≤ 100000000)
    (hK : ∀ w2, LSt w1 w2 g vA vP vO (l ++ testL i c inv) pl [pV g] lpT ∧ LSt w1 w2 g vA vP vO (l ++ testL i c inv) pi (qiL i) qiT → K (.tuple #[]) w2) :
    Jmp Tryz.prog w1 Gs.nil 118 [one (intV c), one (.bool inv), one (pV pl), one (pV pi)] S K := by
  refine jmp_con (fun u w2 => u = .tuple #[] ∧ LSt w1 w2 g vA vP vO (l ++ testL i c inv) pl [pV g] lpT ∧ LSt w1 w2 g vA vP vO (l ++ testL i c inv) pi (qiL i) qiT) rfl (by kernel_rfl) (fun r w2 hR => ?_) fun u w2 ⟨hu, hj⟩ => hu ▸ hK w2 hj
  have hB := hR.toBelow
  have h2 := h.later hB
  have hl2 : LSt w2 w2 g vA vP vO l pl [pV g] lpT := ⟨LiftTo.refl h2 (Below.refl _ _), (hB.block pl hl.lt).trans hl.box, Nat.lt_of_lt_of_le hl.lt hB.size, hl.ne, hl.no⟩
  have hi2 : LSt w2 w2 g vA vP vO l pi (qiL i) qiT := ⟨LiftTo.refl h2 (Below.refl _ _), (hB.block pi hi.lt).trans hi.box, Nat.lt_of_lt_of_le hi.lt hB.size, hi.ne, hi.no⟩
  refine (test_walk i c inv h2 hl2 hi2 hlen).mono fun e w3 ⟨he, hq⟩ => ⟨_, he, rfl, ?_, ?_⟩
  · exact ⟨hq.early hB, (hq.block pl hl2.lt hl2.ne hl2.no).trans hl2.box, hl.lt, hl.ne, hl.no⟩
  · exact ⟨hq.early hB, (hq.block pi hi2.lt hi2.ne hi2.no).trans hi2.box, hi.lt, hi.ne, hi.no⟩
/-- The operations of a branch. -/
def branchL (i : QI) (at_ : Int) : List BOp := qTest i ++ [⟨23, 0, 20, 0, cut32 (at_ + 4 * i.imm)⟩, ⟨24, 0, 0, 0, cut32 (at_ + 4)⟩]
set_option maxRecDepth 100000 in
set_option maxHeartbeats 2000000 in
theorem branch_walk (i : QI) (at_ : Int) (h : LiftAt w g vA vP vO l) (ho : 32 ≤ i.op ∧ i.op ≤ 37) (hlen : l.length ≤ 10000000) :
    Calls Tryz.prog 101 #[pV g, qiV i, .int .u32 at_] w fun e w' => e = .returned (.tuple #[]) ∧ LiftTo w w' g vA vP vO (l ++ branchL i at_) := by
  refine calls_satq [pV g, qiV i, .int .u32 at_] Tryz.func101 Tryz.ntmps101 rfl (by simp) ?_
  refine satq_seqN ?_
  conv => whnf
  refine satq_restart fun r w1 hR => ?_
  obtain ⟨pl, us, e1, e2, e3⟩ := hR.own 0 _ rfl
  obtain rfl := denL_vals_inv (us := [pV g]) e3
  obtain ⟨pi, us, f1, f2, f3⟩ := hR.own 1 _ rfl
  obtain rfl := denL_vals_inv (us := qiL i) f3
  have hB1 := hR.toBelow
  have hs := box_ok h hB1 e2 (fresh_of hR e1)
  have hs' := box_ok h hB1 f2 (fresh_of hR f1)
  have h1 := h.later hB1
  refine ⟨slotFr [(2, .int .u32 at_), (3, pV pl), (4, pV pi)], fun a' hf => slots_den ⟨slot_val hf rfl, slot_ref hf 3 rfl e1, slot_ref hf 4 rfl f1, trivial⟩, ?_⟩
  clear hR e3 f3
  refine satq_seqN ?_
  conv => whnf
  refine q_makeFunc2 rfl rfl rfl ?_
  conv => whnf
  refine satq_midW (α := Unit) (fun _ => [(2, one (.int .u32 at_)), (3, one (pV pl)), (4, one (pV pi))]) (fun _ w2 => LSt w1 w2 g vA vP vO (l ++ qTest i) pl [pV g] lpT ∧ LSt w1 w2 g vA vP vO (l ++ qTest i) pi (qiL i) qiT) ?_ fun _ w2 hs2 => ?_
  · refine satq_seqN ?_
    conv => whnf
    refine ⟨_, block_cells hs'.box (off := 0 + 0) (x := intV i.op) rfl, ?_⟩
    conv => whnf
    refine satq_block ?_
    refine satq_seqN ?_
    conv => whnf
    refine satq_cond rfl (fun hc => ?_) (fun hc => ?_)
    · have hi : i.op = 32 := by simpa using hc
      refine satq_jump 1 rfl rfl rfl ?_
      conv => whnf
      refine test_jmp i 13 false h1 hs hs' (by omega) fun w2 hq => ?_
      conv => whnf
      refine atq_block (atq_midW () (aI rfl (aI rfl (aI rfl trivial))) fun r w3 hR => ?_)
      have ht : qTest i = testL i 13 false := by unfold qTest qTestCode testL; rw [hi]; rfl
      rw [ht]
      exact ⟨hq.1.later hR.toBelow, hq.2.later hR.toBelow⟩
    have n32 : ¬ i.op = 32 := by simpa using hc
    clear hc
    refine satq_seqN ?_
    conv => whnf
    refine satq_cond rfl (fun hc => ?_) (fun hc => ?_)
    · have hi : i.op = 33 := by simpa using hc
      refine satq_jump 1 rfl rfl rfl ?_
      conv => whnf
      refine test_jmp i 7 false h1 hs hs' (by omega) fun w2 hq => ?_
      conv => whnf
      refine atq_block (atq_midW () (aI rfl (aI rfl (aI rfl trivial))) fun r w3 hR => ?_)
      have ht : qTest i = testL i 7 false := by unfold qTest qTestCode testL; rw [hi]; rfl
      rw [ht]
      exact ⟨hq.1.later hR.toBelow, hq.2.later hR.toBelow⟩
    have n33 : ¬ i.op = 33 := by simpa using hc
    clear hc
    refine satq_seqN ?_
    conv => whnf
    refine satq_cond rfl (fun hc => ?_) (fun hc => ?_)
    · have hi : i.op = 34 := by simpa using hc
      refine satq_jump 1 rfl rfl rfl ?_
      conv => whnf
      refine test_jmp i 14 false h1 hs hs' (by omega) fun w2 hq => ?_
      conv => whnf
      refine atq_block (atq_midW () (aI rfl (aI rfl (aI rfl trivial))) fun r w3 hR => ?_)
      have ht : qTest i = testL i 14 false := by unfold qTest qTestCode testL; rw [hi]; rfl
      rw [ht]
      exact ⟨hq.1.later hR.toBelow, hq.2.later hR.toBelow⟩
    have n34 : ¬ i.op = 34 := by simpa using hc
    clear hc
    refine satq_seqN ?_
    conv => whnf
    refine satq_cond rfl (fun hc => ?_) (fun hc => ?_)
    · have hi : i.op = 35 := by simpa using hc
      refine satq_jump 1 rfl rfl rfl ?_
      conv => whnf
      refine test_jmp i 14 true h1 hs hs' (by omega) fun w2 hq => ?_
      conv => whnf
      refine atq_block (atq_midW () (aI rfl (aI rfl (aI rfl trivial))) fun r w3 hR => ?_)
      have ht : qTest i = testL i 14 true := by unfold qTest qTestCode testL; rw [hi]; rfl
      rw [ht]
      exact ⟨hq.1.later hR.toBelow, hq.2.later hR.toBelow⟩
    have n35 : ¬ i.op = 35 := by simpa using hc
    clear hc
    refine satq_seqN ?_
    conv => whnf
    refine satq_cond rfl (fun hc => ?_) (fun hc => ?_)
    · have hi : i.op = 36 := by simpa using hc
      refine satq_jump 1 rfl rfl rfl ?_
      conv => whnf
      refine test_jmp i 15 false h1 hs hs' (by omega) fun w2 hq => ?_
      conv => whnf
      refine atq_block (atq_midW () (aI rfl (aI rfl (aI rfl trivial))) fun r w3 hR => ?_)
      have ht : qTest i = testL i 15 false := by unfold qTest qTestCode testL; rw [hi]; rfl
      rw [ht]
      exact ⟨hq.1.later hR.toBelow, hq.2.later hR.toBelow⟩
    have n36 : ¬ i.op = 36 := by simpa using hc
    clear hc
    refine satq_seqN ?_
    conv => whnf
    refine satq_cond rfl (fun hc => ?_) (fun hc => ?_)
    · have hi : i.op = 37 := by simpa using hc
      refine satq_jump 1 rfl rfl rfl ?_
      conv => whnf
      refine test_jmp i 15 true h1 hs hs' (by omega) fun w2 hq => ?_
      conv => whnf
      refine atq_block (atq_midW () (aI rfl (aI rfl (aI rfl trivial))) fun r w3 hR => ?_)
      have ht : qTest i = testL i 15 true := by unfold qTest qTestCode testL; rw [hi]; rfl
      rw [ht]
      exact ⟨hq.1.later hR.toBelow, hq.2.later hR.toBelow⟩
    have n37 : ¬ i.op = 37 := by simpa using hc
    clear hc
    omega
  obtain ⟨hs3, hs4⟩ := hs2
  refine satq_jump 11 rfl rfl rfl ?_
  conv => whnf
  refine ⟨_, block_cells hs3.box (off := 0) (x := pV g) rfl, ?_⟩
  conv => whnf
  refine ⟨_, block_cells hs4.box (off := 0 + 4) (x := .int .u32 i.imm) rfl, ?_⟩
  conv => whnf
  refine ⟨_, wr32 _, ?_⟩
  conv => whnf
  refine ⟨cut32 (at_ + 4 * i.imm), by rw [wr32]; unfold cut32; omega, ?_⟩
  conv => whnf
  refine ⟨cut32 (at_ + 4), by rw [wr32]; rfl, ?_⟩
  conv => whnf
  obtain ⟨vO1, k1, k2⟩ := hs3.step
  have htl : (qTest i).length ≤ 3 := by unfold qTest; split <;> simp
  refine jmp_add k1 [⟨23, 0, 20, 0, cut32 (at_ + 4 * i.imm)⟩, ⟨24, 0, 0, 0, cut32 (at_ + 4)⟩] 0 2 rfl rfl (by rw [List.length_append]; omega) fun w3 hq => ?_
  have hfin := k2 _ _ hq
  rw [List.append_assoc] at hfin
  conv => whnf
  refine atq_end ?_
  conv => whnf
  exact fin_val rfl fun w4 hB => ⟨rfl, (hfin.lift.early hB1).later hB⟩
end
end Go.Proofs.YtnhdcclpjildjaaGreat
namespace Go.Proofs.YtnhdcclpjildjaaGreat
open Go.RowKit

section
variable {R : Value → Option (DataW Unit × List MemPlace)} {mk : Int → Value} {cd : Int → DataW Unit} {good : Int → Prop} {n : Nat} {m : Int → Option Int}
variable {w0 : World} {G : Gs} {N : Nd} {o : Oper} {f : Fr} {S : List Ow} {K : Fr → List Ow → Prop}
theorem op_insert {t e : TypeId} {mo x v : Operand} (hop : o.op = .insert t mo x v) (ht : Tryz.prog.underlying t = some (.map 3 e)) (E : Elems R mk cd good) (i : Nat) (k y : Int)
    (hm : f.ev mo = .p (.c (.mp i))) (hi : S[i]? = some (mapOw R cd n m)) (hx : f.ev x = one (.int .i64 k)) (hv : f.ev v = one (mk y)) (hn : n < 1000000) (hkw : (Lit.int .i64 k).wf = true) (hy : good y) (hdst : dstOk N.n o.dst = true)
    (hk : K (f.put o.dst (.p (.c .any))) (S.set i (mapOw R cd (n + 1) (mput m k y)))) : OpS Tryz.prog w0 G N o f S K := by
  refine ⟨fun r a w hR hf hN hd next Q hK => ?_⟩
  have h1 := hf.ev mo
  have h2 := hf.ev x
  have h3 := hf.ev v
  rw [hm] at h1; rw [hx] at h2; rw [hv] at h3
  obtain ⟨b, hb, hu⟩ := den_mp h1
  obtain ⟨b', hb', hmap, _⟩ := hR.own i _ hi
  rw [hb] at hb'; injection hb' with hb'; subst hb'
  obtain ⟨w', hrun, hmap', hg⟩ := hmap.put E ht hn hkw hy (t := t)
  have hex : (execOp a.eval o).run Tryz.prog w = .ok .skip w' := by
    simp [execOp, hop, hu, den_v h2, den_v h3, hrun]
  exact wp_of_skip hex (hK _ _ _ _ hk (good_value hR hf hN hd hdst (by simp [AV.den, Pc.den, CV.den]) (hR.setBlock hb hg (imap_holds hb hmap') (hR.lt_of_blk hb)) (Env.le.refl r)))
/-- A map of the call's own is handed back. -/
theorem fin_map {R' : Ending → World → Prop} (i : Nat) (hi : S[i]? = some (mapOw R cd n m)) (h : ∀ w b, IMap R cd w b n m → w0.heap.size ≤ b → Below w0.heap.size w0 w → R' (.returned (.map (some b))) w) : Fin w0 Gs.nil S (.p (.c (.mp i))) R' := by
  refine ⟨fun r w u hR hd => ?_⟩
  obtain ⟨b, hb, rfl⟩ := den_mp hd
  obtain ⟨b', hb', hmap, _⟩ := hR.own i _ hi
  rw [hb] at hb'; injection hb' with hb'; subst hb'
  exact h w b hmap (fresh_of hR hb) hR.toBelow
/-- A call that makes a map. -/
theorem call_newMap {fid : FuncId} {args : List AV} {xs : List Value} {K : AV → List Ow → Prop} (hx : avals args = some xs) (hok : fnOk Tryz.prog fid = true)
    (h : ∀ r w, Rel w0 G S r w → Calls Tryz.prog fid xs.toArray w fun e w' => ∃ b, e = .returned (.map (some b)) ∧ IMap R cd w' b n m ∧ w.heap.size ≤ b ∧ Below w.heap.size w w')
    (hK : K (.p (.c (.mp S.length))) (S ++ [mapOw R cd n m])) : CallS Tryz.prog w0 G fid args S K := by
  refine ⟨hok, fun r w us hR hd => ?_⟩
  obtain rfl := avals_den hx hd
  refine (h r w hR).mono fun e w' ⟨b, he, hmap, hb, hB⟩ => ?_
  refine ⟨_, _, _, r.set S.length (some b) none, he, ?_, hR.snoc hB (fun x hx => by injection hx with hx; subst hx; exact ⟨hb, hmap.lt⟩) (imap_holds (by simp [Env.set]) hmap), hR.le_new _ _, hK⟩
  simp only [AV.den, Pc.den, CV.den]
  exact ⟨b, by simp [Env.set], rfl⟩
end
/-- The operations that are one operation of the block. -/
def plainM (k : Int) : Option Int := if qCode k = 0 then none else some (qCode k)
set_option maxRecDepth 100000 in
set_option maxHeartbeats 2000000 in
theorem plain_walk (w : World) : Calls Tryz.prog 98 #[] w fun e w' => ∃ b, e = .returned (.map (some b)) ∧ IMap i64R i64D w' b 19 plainM ∧ w.heap.size ≤ b ∧ Below w.heap.size w w' := by
  refine calls_satq [] Tryz.func98 Tryz.ntmps98 rfl (by simp) ?_
  refine satq_seqN ?_
  conv => whnf
  refine satq_seqN ?_
  conv => whnf
  refine op_makeMap (R := i64R) (cd := i64D) rfl rfl ?_
  conv => whnf
  refine op_insert (n := 0) rfl Tryz.underlying176 i64Elems 0 1 3 rfl rfl rfl rfl (by decide) (wf_mid (by unfold mid; omega)) (by unfold mid; omega) rfl ?_
  conv => whnf
  refine op_insert (n := 1) rfl Tryz.underlying176 i64Elems 0 2 4 rfl rfl rfl rfl (by decide) (wf_mid (by unfold mid; omega)) (by unfold mid; omega) rfl ?_
  conv => whnf
  refine op_insert (n := 2) rfl Tryz.underlying176 i64Elems 0 3 5 rfl rfl rfl rfl (by decide) (wf_mid (by unfold mid; omega)) (by unfold mid; omega) rfl ?_
  conv => whnf
  refine op_insert (n := 3) rfl Tryz.underlying176 i64Elems 0 4 6 rfl rfl rfl rfl (by decide) (wf_mid (by unfold mid; omega)) (by unfold mid; omega) rfl ?_
  conv => whnf
  refine op_insert (n := 4) rfl Tryz.underlying176 i64Elems 0 5 7 rfl rfl rfl rfl (by decide) (wf_mid (by unfold mid; omega)) (by unfold mid; omega) rfl ?_
  conv => whnf
  refine op_insert (n := 5) rfl Tryz.underlying176 i64Elems 0 6 8 rfl rfl rfl rfl (by decide) (wf_mid (by unfold mid; omega)) (by unfold mid; omega) rfl ?_
  conv => whnf
  refine op_insert (n := 6) rfl Tryz.underlying176 i64Elems 0 7 9 rfl rfl rfl rfl (by decide) (wf_mid (by unfold mid; omega)) (by unfold mid; omega) rfl ?_
  conv => whnf
  refine op_insert (n := 7) rfl Tryz.underlying176 i64Elems 0 8 10 rfl rfl rfl rfl (by decide) (wf_mid (by unfold mid; omega)) (by unfold mid; omega) rfl ?_
  conv => whnf
  refine op_insert (n := 8) rfl Tryz.underlying176 i64Elems 0 9 11 rfl rfl rfl rfl (by decide) (wf_mid (by unfold mid; omega)) (by unfold mid; omega) rfl ?_
  conv => whnf
  refine op_insert (n := 9) rfl Tryz.underlying176 i64Elems 0 10 12 rfl rfl rfl rfl (by decide) (wf_mid (by unfold mid; omega)) (by unfold mid; omega) rfl ?_
  conv => whnf
  refine op_insert (n := 10) rfl Tryz.underlying176 i64Elems 0 11 14 rfl rfl rfl rfl (by decide) (wf_mid (by unfold mid; omega)) (by unfold mid; omega) rfl ?_
  conv => whnf
  refine op_insert (n := 11) rfl Tryz.underlying176 i64Elems 0 12 15 rfl rfl rfl rfl (by decide) (wf_mid (by unfold mid; omega)) (by unfold mid; omega) rfl ?_
  conv => whnf
  refine op_insert (n := 12) rfl Tryz.underlying176 i64Elems 0 16 3 rfl rfl rfl rfl (by decide) (wf_mid (by unfold mid; omega)) (by unfold mid; omega) rfl ?_
  conv => whnf
  refine op_insert (n := 13) rfl Tryz.underlying176 i64Elems 0 17 5 rfl rfl rfl rfl (by decide) (wf_mid (by unfold mid; omega)) (by unfold mid; omega) rfl ?_
  conv => whnf
  refine op_insert (n := 14) rfl Tryz.underlying176 i64Elems 0 18 6 rfl rfl rfl rfl (by decide) (wf_mid (by unfold mid; omega)) (by unfold mid; omega) rfl ?_
  conv => whnf
  refine op_insert (n := 15) rfl Tryz.underlying176 i64Elems 0 19 7 rfl rfl rfl rfl (by decide) (wf_mid (by unfold mid; omega)) (by unfold mid; omega) rfl ?_
  conv => whnf
  refine op_insert (n := 16) rfl Tryz.underlying176 i64Elems 0 20 8 rfl rfl rfl rfl (by decide) (wf_mid (by unfold mid; omega)) (by unfold mid; omega) rfl ?_
  conv => whnf
  refine op_insert (n := 17) rfl Tryz.underlying176 i64Elems 0 21 9 rfl rfl rfl rfl (by decide) (wf_mid (by unfold mid; omega)) (by unfold mid; omega) rfl ?_
  conv => whnf
  refine op_insert (n := 18) rfl Tryz.underlying176 i64Elems 0 22 10 rfl rfl rfl rfl (by decide) (wf_mid (by unfold mid; omega)) (by unfold mid; omega) rfl ?_
  conv => whnf
  refine satq_vcN ?_
  conv => whnf
  refine atq_ret ?_
  conv => whnf
  refine fin_map 0 rfl fun w' b hm hb hB => ⟨b, rfl, hm.is (fun k => ?_), hb, hB⟩
  by_cases hk : 1 ≤ k ∧ k ≤ 22
  · have : k = 1 ∨ k = 2 ∨ k = 3 ∨ k = 4 ∨ k = 5 ∨ k = 6 ∨ k = 7 ∨ k = 8 ∨ k = 9 ∨ k = 10 ∨ k = 11 ∨ k = 12 ∨ k = 13 ∨ k = 14 ∨ k = 15 ∨ k = 16 ∨ k = 17 ∨ k = 18 ∨ k = 19 ∨ k = 20 ∨ k = 21 ∨ k = 22 := by omega
    rcases this with rfl | rfl | rfl | rfl | rfl | rfl | rfl | rfl | rfl | rfl | rfl | rfl | rfl | rfl | rfl | rfl | rfl | rfl | rfl | rfl | rfl | rfl <;> decide
  · have hq : qCode k = 0 := by
      unfold qCode
      rw [if_neg (by omega), if_neg (by omega), if_neg (by omega), if_neg (by omega), if_neg (by omega)]
    unfold plainM mput
    rw [if_pos hq]
    simp only [show ¬ k = 1 by omega, show ¬ k = 2 by omega, show ¬ k = 3 by omega, show ¬ k = 4 by omega, show ¬ k = 5 by omega, show ¬ k = 6 by omega, show ¬ k = 7 by omega, show ¬ k = 8 by omega, show ¬ k = 9 by omega, show ¬ k = 10 by omega, show ¬ k = 11 by omega, show ¬ k = 12 by omega, show ¬ k = 16 by omega, show ¬ k = 17 by omega, show ¬ k = 18 by omega, show ¬ k = 19 by omega, show ¬ k = 20 by omega, show ¬ k = 21 by omega, show ¬ k = 22 by omega, if_false]
end Go.Proofs.YtnhdcclpjildjaaGreat
