/- For all programs, evaluating lifted blocks one after the other executes the same instructions as the plain machine, until one leaves: for every input, without any condition. -/
import Derived.Test.YtnhdcclpjildjaaGreatMRunsH
namespace Go.Proofs.YtnhdcclpjildjaaGreat
open Go.RowKit

theorem zero_ok7 : (MemP.zero 7).ok 1792 7 := mem_zero_ok (p := 7) (by omega)
theorem ProgAt.keep {w w' : World} {A : Option Addr} {n : Nat} (h : ProgAt w A n) (hs : w.heap.size ≤ w'.heap.size) (hb : ∀ k, k < w.heap.size → w'.heap[k]? = w.heap[k]?) : ProgAt w' A n := fun j hj => by
 obtain ⟨b, off, n0, n1, n2, n3, n4, e, h1, h2, h3⟩ := h j hj
 exact ⟨b, off, n0, n1, n2, n3, n4, e, Nat.lt_of_lt_of_le h1 hs, by simp, fun i u hi => by have := h3 i u hi; simp only [World.cell?] at this ⊢; rw [hb b h1]; exact this⟩
def LaidR (w : World) : Ending → World → Prop := fun e w' => ∃ g gs s M, e = .returned (ptrV g) ∧ s.ok ∧ s.pc = 256 ∧ s.steps < 1000 ∧ M.ok 1792 7 ∧ NewObjs w w' (g :: gs) (cpuU 0 (stL s []) 1792 7 M)
theorem fin_objsR {w0 : World} {g : Nat} {gs : List Nat} {S U : List Ow} {R : Ending → World → Prop} (hlen : U.length = (g :: gs).length) (hU : ∀ (i : Nat) (o : Ow), U[i]? = some o → S[i]? = some o) (hob : ObAll (g :: gs).length U) (h : ∀ w, ObjsAt w (g :: gs) U → GrownBys w0 w (g :: gs) → R (.returned (ptrV g)) w) : Fin w0 ⟨g :: gs, []⟩ S (.p (.c (.ref 0 0))) R := by
 refine ⟨fun r w u hR hd => ?_⟩
 obtain ⟨b, hb, rfl⟩ := den_ref hd
 rw [hR.first 0 g rfl] at hb
 injection hb with hb
 subst hb
 exact h w (hR.objs hlen hU hob) hR.growns
theorem putS_pre {S V : List Ow} (hl : V.length ≤ S.length) : ∀ (i : Nat) (o : Ow), V[i]? = some o → (putS S 0 V)[i]? = some o := fun i o h => by
 have hi : i < V.length := by
  rcases Nat.lt_or_ge i V.length with h1 | h1
  ·exact h1
  ·rw [List.getElem?_eq_none h1] at h; cases h
 rw [putS_get _ _ _ _ (by omega), if_pos (by omega)]
 exact h
theorem newObjs_then {w w1 w2 w' : World} {gs : List Nat} {U U' : List Ow} (hB : Below w.heap.size w w1) (hn : NewObjs w1 w2 gs U) (h1 : ObjsAt w' gs U') (h2 : GrownBys w2 w' gs) : NewObjs w w' gs U' := by
 have hBB : Below w.heap.size w w2 := hB.trans (hn.below.mono hB.size)
 refine ⟨h1, fun g hg => Nat.le_trans hB.size (hn.fresh g hg), h2.os.trans hBB.os, h2.tape.trans hBB.tape, h2.output.trans hBB.output, Nat.le_trans hBB.size h2.size, fun k hk => ?_⟩
 refine (h2.block k (Nat.lt_of_lt_of_le hk hBB.size) fun hm => ?_).trans (hBB.block k hk)
 have := hn.fresh k hm
 have := hB.size
 omega
abbrev fourT : TypeId := 23
theorem stC_setS {s : St} {X : List CV} {j : Int} (x : Int) (hX : X = stC s []) (h0 : 0 ≤ j) (h1 : j < 16) : setAll X (0 + 1 + j.toNat * 1) [.v (u32V x)] = stC { s with R := regU s.R j x } [] := stC_set (R := s.R) x hX h0 h1
theorem four_at {a b c d : Int} {k : Int} (h : 0 ≤ k ∧ k < 4) : ∃ x, [CV.v (intV a), .v (intV b), .v (intV c), .v (intV d)][k.toNat * 1]? = some (.v (intV x)) ∧ x ∈ [a, b, c, d] := by
 rcases (by omega : k = 0 ∨ k = 1 ∨ k = 2 ∨ k = 3) with rfl | rfl | rfl | rfl
 ·exact ⟨a, rfl, by simp⟩
 ·exact ⟨b, rfl, by simp⟩
 ·exact ⟨c, rfl, by simp⟩
 ·exact ⟨d, rfl, by simp⟩
theorem seven_at {x y : Int} (hx : 0 ≤ x ∧ x < 8) (hy : 0 ≤ y ∧ y < 8) {q : Nat} (h : q < 7) : ∃ z, [CV.v (intV 0), .v (intV 7), .v (intV 7), .v (intV 3), .v (intV 3), .v (intV x), .v (intV y)][0 + (q : Int).toNat * 1]? = some (.v (intV z)) ∧ 0 ≤ z ∧ z < 8 := by
 rcases (by omega : q = 0 ∨ q = 1 ∨ q = 2 ∨ q = 3 ∨ q = 4 ∨ q = 5 ∨ q = 6) with rfl | rfl | rfl | rfl | rfl | rfl | rfl
 ·exact ⟨0, rfl, by omega⟩
 ·exact ⟨7, rfl, by omega⟩
 ·exact ⟨7, rfl, by omega⟩
 ·exact ⟨3, rfl, by omega⟩
 ·exact ⟨3, rfl, by omega⟩
 ·exact ⟨x, rfl, hx⟩
 ·exact ⟨y, rfl, hy⟩
set_option maxRecDepth 100000 in
set_option maxHeartbeats 8000000 in
theorem laid_walk (w : World) (A : Option Addr) (n c : Nat) (n0 n1 n2 n3 : Int) (hn : n < 9223372036854775808) (hA : ProgAt w A n) : Calls Tryz.prog 14 #[.slice A n c, .agg #[intV n0, intV n1, intV n2, intV n3]] w (LaidR w) := by
 unfold LaidR
 refine calls_satq [.slice A n c, .agg #[intV n0, intV n1, intV n2, intV n3]] Tryz.func14 Tryz.ntmps14 rfl (by simp) ?_
 refine satq_seqN ?_
 conv => whnf
 refine satq_in (satq_jumpG 0 rfl rfl rfl ?_)
 conv => whnf
 refine ⟨by kernel_rfl, fun r w1 us hR hd => ?_⟩
 obtain rfl := avals_den (xs := [intV ((7 : Nat) : Int)]) rfl hd
 have hB := hR.toBelow
 obtain ⟨b3, vs0, e1, e2, e3⟩ := hR.own 0 _ rfl
 obtain rfl := denL_vals_inv (us := [intV n0, intV n1, intV n2, intV n3]) e3
 refine (cpu_new 7 w1 (by omega)).mono fun e w2 ⟨g, gs, he, hn2⟩ => ?_
 have hB2 := hn2.below
 have hq3 : w2.heap[b3]? = some (.cells #[intV n0, intV n1, intV n2, intV n3] fourT (0, 0)) := (hB2.block b3 (heap_lt e2)).trans e2
 have hBB : Below w.heap.size w w2 := hB.trans (hB2.mono hB.size)
 obtain ⟨g0, g1, g2, g3, g4, g5, g6, hgs⟩ := seven_blocks hn2.at_
 injection hgs with hg0 hgs
 subst hgs; subst hg0
 refine ⟨_, .p (.c (.ref 0 0)), w2, ⟨[g, g1, g2, g3, g4, g5, g6], []⟩, [(0, one (.slice A n c)), (3, one (ptrV b3))], cpuU 0 stZ 1792 7 (MemP.zero 7), envOf [g, g1, g2, g3, g4, g5, g6], he, rel_objs hn2.at_, fun a hf => frDen ⟨slot_same hf 0 rfl, slot_plain hf 3 rfl e1, trivial⟩, den_mk_ref rfl, ?_⟩
 conv => whnf
 refine atq_on ?_
 have hz := zero_ok7
 obtain ⟨M0, hM0⟩ : ∃ M0, M0 = MemP.zero 7 := ⟨_, rfl⟩
 rw [← hM0] at hz ⊢
 refine satq_seqN ?_
 conv => whnf
 refine call_ex (fun v => ∃ l : List Int, v = strV l ∧ l.length ≤ 400 ∧ ∀ x ∈ l, 0 ≤ x ∧ x < 256) rfl (by kernel_rfl) (fun r w' hR => words_walk w' A n c hn (hA.keep (Nat.le_trans hBB.size hR.size) fun k hk => (hR.old k (Nat.lt_of_lt_of_le hk hBB.size) fun hm => by
  rcases hm with hm | hm
  ·have := hn2.fresh k hm
   have := hB.size
   omega
  ·cases hm).trans (hBB.block k hk))) fun v hv => ?_
 obtain ⟨l, rfl, hl, hlb⟩ := hv
 conv => whnf
 have hm0 := cpu_mem stZ 1792 7 M0 []
 refine satq_seqN ?_
 conv => whnf
 refine call_memW (pre := []) (suf := [one (u32V 256), one (strV l)]) 1 1792 7 M0 _ (.tuple #[]) hm0 rfl rfl (by kernel_rfl) (fun w g gs hk hU => mem_pokeAt M0 1792 7 _ _ w g gs hU hz (by unfold word; decide) hlb (by omega) (by omega)) ?_
 obtain ⟨M1, hM1⟩ : ∃ M1, M1 = M0.pokeAt 256 l l.length := ⟨_, rfl⟩
 have hk1 : M1.ok 1792 7 := by rw [hM1]; exact pokeAt_ok hz _ hlb _ (Nat.le_refl _)
 rw [← hM1]
 conv => whnf
 refine satq_as (f' := [(3, one (ptrV b3)), (5, .p (.c (.ref 0 0))), (6, one (strV l))]) (S' := cpuU 0 stZ 1792 7 M1) (ent_same rfl (aI rfl (aI rfl (aI rfl trivial))) (aI (aI rfl (Or.inl rfl)) (aI (aI rfl (Or.inl rfl)) (aI (aI rfl (Or.inl rfl)) (aI (aI rfl (Or.inl rfl)) (aI (aI rfl (Or.inl rfl)) (aI (aI rfl (Or.inl rfl)) (aI (aI rfl (Or.inl rfl)) trivial)))))))) ?_
 have hm1 := cpu_mem stZ 1792 7 M1 []
 refine satq_seqN ?_
 conv => whnf
 refine call_memW (pre := []) (suf := [one (intV ((1 : Nat) : Int)), one (strV l)]) 1 1792 7 M1 _ (.tuple #[]) hm1 rfl rfl (by kernel_rfl) (fun w g gs hk hU => mem_setCode M1 1792 7 1 _ w g gs hU hk1 (by omega) hlb (by omega)) ?_
 obtain ⟨M2, hM2⟩ : ∃ M2, M2 = M1.codeTo 1 l (min l.length 256) := ⟨_, rfl⟩
 have hk2 : M2.ok 1792 7 := by rw [hM2]; exact codeTo_ok hk1 1 hlb _
 rw [← hM2]
 conv => whnf
 refine satq_as (f' := [(3, one (ptrV b3)), (5, .p (.c (.ref 0 0))), (6, one (strV l))]) (S' := cpuU 0 stZ 1792 7 M2) (ent_same rfl (aI rfl (aI rfl (aI rfl trivial))) (aI (aI rfl (Or.inl rfl)) (aI (aI rfl (Or.inl rfl)) (aI (aI rfl (Or.inl rfl)) (aI (aI rfl (Or.inl rfl)) (aI (aI rfl (Or.inl rfl)) (aI (aI rfl (Or.inl rfl)) (aI (aI rfl (Or.inl rfl)) trivial)))))))) ?_
 have hm2 := cpu_mem stZ 1792 7 M2 []
 refine satq_mid (α := { M : MemP // M.ok 1792 7 }) (fun _ => [(3, one (ptrV b3)), (5, .p (.c (.ref 0 0)))]) (fun x => cpuU 0 stZ 1792 7 x.1) ?_ fun x => ?_
 ·refine satq_seqN ?_
  conv => whnf
  refine q_len_str l rfl rfl rfl ?_
  conv => whnf
  refine satq_vcN ?_
  conv => whnf
  refine ⟨fun hc => ?_, fun hc => ?_⟩
  ·have hgt : 256 < l.length := by simp at hc; omega
   conv => whnf
   refine sat_tail 6 mixed (by kernel_rfl) ?_
   conv => whnf
   refine q_slice_str l 256 rfl rfl rfl rfl (by omega) ?_
   conv => whnf
   have hdb : ∀ x ∈ l.drop 256, 0 ≤ x ∧ x < 256 := fun x hx => hlb x (List.mem_of_mem_drop hx)
   refine call_memW (pre := []) (suf := [one (intV ((2 : Nat) : Int)), one (strV (l.drop 256))]) 1 1792 7 M2 _ (.tuple #[]) hm2 rfl rfl (by kernel_rfl) (fun w g gs hk hU => mem_setCode M2 1792 7 2 _ w g gs hU hk2 (by omega) hdb (by rw [List.length_drop]; omega)) ?_
   obtain ⟨M3, hM3⟩ : ∃ M3, M3 = M2.codeTo 2 (l.drop 256) (min (l.drop 256).length 256) := ⟨_, rfl⟩
   have hk3 : M3.ok 1792 7 := by rw [hM3]; exact codeTo_ok hk2 2 hdb _
   rw [← hM3]
   conv => whnf
   exact atq_mid ⟨M3, hk3⟩ (ent_same rfl (aI rfl (aI rfl trivial)) (aI (aI rfl (Or.inl rfl)) (aI (aI rfl (Or.inl rfl)) (aI (aI rfl (Or.inl rfl)) (aI (aI rfl (Or.inl rfl)) (aI (aI rfl (Or.inl rfl)) (aI (aI rfl (Or.inl rfl)) (aI (aI rfl (Or.inl rfl)) trivial))))))))
  ·conv => whnf
   exact atq_mid ⟨M2, hk2⟩ (ent_same rfl (aI rfl (aI rfl trivial)) (aI (aI rfl (Or.inl rfl)) (aI (aI rfl (Or.inl rfl)) (aI (aI rfl (Or.inl rfl)) (aI (aI rfl (Or.inl rfl)) (aI (aI rfl (Or.inl rfl)) (aI (aI rfl (Or.inl rfl)) (aI (aI rfl (Or.inl rfl)) trivial))))))))
 obtain ⟨M3, hk3⟩ := x
 dsimp only
 have hfr : b3 ∉ (⟨[g, g1, g2, g3, g4, g5, g6], []⟩ : Gs) := fun hm => by
  rcases hm with hm | hm
  ·have := hn2.fresh b3 hm
   have := heap_lt e2
   omega
  ·cases hm
 have hcF : ∀ k x, [intV n0, intV n1, intV n2, intV n3][k]? = some x → CellsAt w2 (Gs.flat ⟨[g, g1, g2, g3, g4, g5, g6], []⟩) b3 k [x] := fun k x hx => cells_one (heap_lt hq3) (fun hm => hfr (flat_mem.1 hm)) (by simp [World.cell?, hq3, hx])
 have hcU : ∀ k x, [intV n0, intV n1, intV n2, intV n3][k]? = some x → CellsAt w2 ⟨[g, g1, g2, g3, g4, g5, g6], []⟩ b3 k [x] := fun k x hx => unflat (hcF k x hx)
 refine satq_mid (α := Unit) (fun _ => [(3, one (ptrV b3)), (5, .p (.c (.ref 0 0))), (7, .p (.c (.ref 7 0)))]) (fun _ => cpuU 0 stZ 1792 7 M3 ++ ([.cells 93 [.v (intV 0), .v (intV 7), .v (intV 7), .v (intV 3), .v (intV 3), .v (intV (n0 % 8)), .v (intV (n1 % 8))]] : List Ow)) ?_ fun _ => ?_
 ·refine satq_vcN ?_
  conv => whnf
  refine sat_anyG (.q 0 (.q 1 (.q 3 (.q 4 (.alt 2 (.alt 5 (.alt 6 (.alt 7 (.alt 8 .done .no) .no) (.alt 7 (.alt 6 (.alt 8 .done .no) .no) .no)) (.alt 7 (.alt 5 (.alt 6 (.alt 8 .done .no) .no) .no) .no)) (.alt 7 (.alt 2 (.alt 5 (.alt 6 (.alt 8 .done .no) .no) .no) .no) .no)))))) mixed (by kernel_rfl) (by kernel_rfl) ?_
  conv => whnf
  refine q_index_ptr (size := 1) b3 0 4 0 rfl rfl rfl rfl rfl rfl (by decide) (by decide) ?_
  conv => whnf
  refine ⟨intV n0, hcF 0 _ rfl, ?_⟩
  conv => whnf
  refine q_index_ptr (size := 1) b3 0 4 1 rfl rfl rfl rfl rfl rfl (by decide) (by decide) ?_
  conv => whnf
  refine ⟨intV n1, hcF 1 _ rfl, ?_⟩
  conv => whnf
  refine ⟨?_, ?_, trivial⟩
  ·conv => whnf
   refine call_con (x := intV (n0 % 8)) rfl (by kernel_rfl) (fun r w' hR => mod_ref n0 8 w' (by decide)) ?_
   conv => whnf
   refine ⟨?_, ?_, trivial⟩
   ·conv => whnf
    refine call_con (x := intV (n1 % 8)) rfl (by kernel_rfl) (fun r w' hR => mod_ref n1 8 w' (by decide)) ?_
    conv => whnf
    refine ⟨?_, ?_, trivial⟩
    ·conv => whnf
     refine ⟨?_, trivial⟩
     conv => whnf
     refine ⟨?_, trivial⟩
     conv => whnf
     exact atq_mid () (ent_same rfl (aI rfl (aI rfl (aI rfl trivial))) (aI (aI rfl (Or.inl rfl)) (aI (aI rfl (Or.inl rfl)) (aI (aI rfl (Or.inl rfl)) (aI (aI rfl (Or.inl rfl)) (aI (aI rfl (Or.inl rfl)) (aI (aI rfl (Or.inl rfl)) (aI (aI rfl (Or.inl rfl)) (aI (aI rfl (Or.inl rfl)) trivial)))))))))
    ·conv => whnf
     refine ⟨?_, trivial⟩
     conv => whnf
     refine ⟨?_, trivial⟩
     conv => whnf
     exact atq_mid () (ent_same rfl (aI rfl (aI rfl (aI rfl trivial))) (aI (aI rfl (Or.inl rfl)) (aI (aI rfl (Or.inl rfl)) (aI (aI rfl (Or.inl rfl)) (aI (aI rfl (Or.inl rfl)) (aI (aI rfl (Or.inl rfl)) (aI (aI rfl (Or.inl rfl)) (aI (aI rfl (Or.inl rfl)) (aI (aI rfl (Or.inl rfl)) trivial)))))))))
   ·conv => whnf
    refine ⟨?_, trivial⟩
    conv => whnf
    refine call_con (x := intV (n1 % 8)) rfl (by kernel_rfl) (fun r w' hR => mod_ref n1 8 w' (by decide)) ?_
    conv => whnf
    refine ⟨?_, trivial⟩
    conv => whnf
    refine ⟨?_, trivial⟩
    conv => whnf
    exact atq_mid () (ent_same rfl (aI rfl (aI rfl (aI rfl trivial))) (aI (aI rfl (Or.inl rfl)) (aI (aI rfl (Or.inl rfl)) (aI (aI rfl (Or.inl rfl)) (aI (aI rfl (Or.inl rfl)) (aI (aI rfl (Or.inl rfl)) (aI (aI rfl (Or.inl rfl)) (aI (aI rfl (Or.inl rfl)) (aI (aI rfl (Or.inl rfl)) trivial)))))))))
  ·conv => whnf
   refine ⟨?_, trivial⟩
   conv => whnf
   refine call_con (x := intV (n0 % 8)) rfl (by kernel_rfl) (fun r w' hR => mod_ref n0 8 w' (by decide)) ?_
   conv => whnf
   refine ⟨?_, trivial⟩
   conv => whnf
   refine call_con (x := intV (n1 % 8)) rfl (by kernel_rfl) (fun r w' hR => mod_ref n1 8 w' (by decide)) ?_
   conv => whnf
   refine ⟨?_, trivial⟩
   conv => whnf
   refine ⟨?_, trivial⟩
   conv => whnf
   exact atq_mid () (ent_same rfl (aI rfl (aI rfl (aI rfl trivial))) (aI (aI rfl (Or.inl rfl)) (aI (aI rfl (Or.inl rfl)) (aI (aI rfl (Or.inl rfl)) (aI (aI rfl (Or.inl rfl)) (aI (aI rfl (Or.inl rfl)) (aI (aI rfl (Or.inl rfl)) (aI (aI rfl (Or.inl rfl)) (aI (aI rfl (Or.inl rfl)) trivial)))))))))
 refine satq_mid (α := { M : MemP // M.ok 1792 7 }) (fun _ => [(3, one (ptrV b3)), (5, .p (.c (.ref 0 0)))]) (fun x => cpuU 0 stZ 1792 7 x.1) ?_ fun x => ?_
 ·refine satq_seqN ?_
  conv => whnf
  refine satq_block ?_
  refine satq_loop (α := { x : Nat × MemP // x.1 ≤ 7 ∧ x.2.ok 1792 7 }) (fun x => [(3, one (ptrV b3)), (5, .p (.c (.ref 0 0))), (7, .p (.c (.ref 7 0))), (8, one (intV (x.1.1 : Int)))]) (fun x => cpuU 0 stZ 1792 7 x.1.2 ++ ([.cells 93 [.v (intV 0), .v (intV 7), .v (intV 7), .v (intV 3), .v (intV 3), .v (intV (n0 % 8)), .v (intV (n1 % 8))]] : List Ow)) (fun x => 7 - x.1.1)
   ⟨(0, M3), by show 0 ≤ 7; omega, hk3⟩ (ent_same rfl (aI rfl (aI rfl (aI rfl (aI rfl trivial)))) (aI (aI rfl (Or.inl rfl)) (aI (aI rfl (Or.inl rfl)) (aI (aI rfl (Or.inl rfl)) (aI (aI rfl (Or.inl rfl)) (aI (aI rfl (Or.inl rfl)) (aI (aI rfl (Or.inl rfl)) (aI (aI rfl (Or.inl rfl)) (aI (aI rfl (Or.inl rfl)) trivial))))))))) fun x => ?_
  obtain ⟨⟨q, Q⟩, hq, hQ⟩ := x
  dsimp only at hq hQ ⊢
  have hmq := cpu_mem stZ 1792 7 Q ([.cells 93 [.v (intV 0), .v (intV 7), .v (intV 7), .v (intV 3), .v (intV 3), .v (intV (n0 % 8)), .v (intV (n1 % 8))]])
  refine satq_seqN ?_
  conv => whnf
  refine ⟨fun hc => ?_, fun hc => ?_⟩
  ·have hlt : q < 7 := by simp at hc; omega
   obtain ⟨z, hz1, hz2⟩ := seven_at (x := n0 % 8) (y := n1 % 8) (by omega) (by omega) hlt
   conv => whnf
   refine satq_in (satq_block ?_)
   refine satq_vcN ?_
   conv => whnf
   refine sat_tail 8 mixed (by kernel_rfl) ?_
   conv => whnf
   (refine ⟨⟨by omega, by omega⟩, ?_⟩; (conv=>whnf))
   erw [hz1]
   conv => whnf
   refine call_memW (pre := []) (suf := [one (intV (q : Int)), one (intV z)]) 1 1792 7 Q _ (.tuple #[]) hmq rfl rfl (by kernel_rfl) (fun w g gs hk hU => mem_protect Q 1792 7 q z w g gs hU hQ hlt (by omega) hz2) ?_
   conv => whnf
   refine atq_block (atq_on ?_)
   refine satq_vcN ?_
   conv => whnf
   refine ⟨(q : Int) + 1, wr64 (by omega), ?_⟩
   conv => whnf
   exact atq_next ⟨(q + 1, Q.protect q z), by show q + 1 ≤ 7; omega, protect_ok hQ q hz2⟩ (ent_same rfl (aI rfl (aI rfl (aI rfl (aI rfl trivial)))) (aI (aI rfl (Or.inl rfl)) (aI (aI rfl (Or.inl rfl)) (aI (aI rfl (Or.inl rfl)) (aI (aI rfl (Or.inl rfl)) (aI (aI rfl (Or.inl rfl)) (aI (aI rfl (Or.inl rfl)) (aI (aI rfl (Or.inl rfl)) (aI (aI rfl (Or.inl rfl)) trivial))))))))) (by show 7 - (q + 1) < 7 - q; omega)
  ·have he : q = 7 := by simp at hc; omega
   conv => whnf
   exact atq_out (atq_exit (atq_mid ⟨Q, hQ⟩ (ent_drop (aI rfl (aI rfl trivial)) (aI (aI rfl (Or.inl rfl)) (aI (aI rfl (Or.inl rfl)) (aI (aI rfl (Or.inl rfl)) (aI (aI rfl (Or.inl rfl)) (aI (aI rfl (Or.inl rfl)) (aI (aI rfl (Or.inl rfl)) (aI (aI rfl (Or.inl rfl)) trivial))))))) rfl (cpu_grpG g g1 g2 g3 g4 g5 g6 stZ 1792 7 Q))))
 obtain ⟨M4, hk4⟩ := x
 dsimp only
 refine satq_mid (α := { M : MemP // M.ok 1792 7 }) (fun _ => [(3, one (ptrV b3)), (5, .p (.c (.ref 0 0)))]) (fun x => cpuU 0 stZ 1792 7 x.1) ?_ fun x => ?_
 ·refine satq_seqN ?_
  conv => whnf
  refine satq_block ?_
  refine satq_loop (α := { x : Nat × MemP // x.1 ≤ 64 ∧ x.2.ok 1792 7 }) (fun x => [(3, one (ptrV b3)), (5, .p (.c (.ref 0 0))), (9, one (intV (768 + (x.1.1 : Int))))]) (fun x => cpuU 0 stZ 1792 7 x.1.2) (fun x => 64 - x.1.1)
   ⟨(0, M4), by show 0 ≤ 64; omega, hk4⟩ (ent_same rfl (aI rfl (aI rfl (aI rfl trivial))) (aI (aI rfl (Or.inl rfl)) (aI (aI rfl (Or.inl rfl)) (aI (aI rfl (Or.inl rfl)) (aI (aI rfl (Or.inl rfl)) (aI (aI rfl (Or.inl rfl)) (aI (aI rfl (Or.inl rfl)) (aI (aI rfl (Or.inl rfl)) trivial)))))))) fun x => ?_
  obtain ⟨⟨q, Q⟩, hq, hQ⟩ := x
  dsimp only at hq hQ ⊢
  refine satq_seqN ?_
  conv => whnf
  refine ⟨fun hc => ?_, fun hc => ?_⟩
  ·have hlt : q < 64 := by simp at hc; omega
   conv => whnf
   refine satq_mid (α := { M : MemP // M.ok 1792 7 }) (fun _ => [(3, one (ptrV b3)), (5, .p (.c (.ref 0 0))), (9, one (intV (768 + (q : Int))))]) (fun x => cpuU 0 stZ 1792 7 x.1) ?_ fun y => ?_
   ·refine satq_block ?_
    refine satq_vcN ?_
    conv => whnf
    refine sat_anyG (.q 0 (.q 1 (.q 2 (.q 4 (.q 5 (.q 6 (.q 7 (.q 8 (.q 9 (.q 10 (.q 11 (.q 12 (.alt 3 (.alt 13 (.alt 14 (.alt 15 .done .no) .no) .no) (.alt 13 (.alt 3 (.alt 14 (.alt 15 .done .no) .no) (.alt 14 (.alt 3 (.alt 15 .done .no) .no) .no)) .no)))))))))))))) mixed (by kernel_rfl) (by kernel_rfl) ?_
    conv => whnf
    refine ⟨768 + (q : Int), by rw [wr32]; omega, ?_⟩
    conv => whnf
    refine ⟨(768 + (q : Int)) * (768 + (q : Int)), wr64 ?_, ?_⟩
    ·have h1 : 768 + (q : Int) ≤ 832 := by omega
     have h2 : 0 ≤ 768 + (q : Int) := by omega
     have h3 : (768 + (q : Int)) * (768 + (q : Int)) ≤ 832 * 832 := Int.mul_le_mul h1 h1 h2 (by decide)
     have h4 : 0 ≤ (768 + (q : Int)) * (768 + (q : Int)) := Int.mul_nonneg h2 h2
     omega
    conv => whnf
    refine q_index_ptr (size := 1) b3 0 4 2 rfl rfl rfl rfl rfl rfl (by decide) (by decide) ?_
    conv => whnf
    refine ⟨intV n2, hcF 2 _ rfl, ?_⟩
    conv => whnf
    refine ex_gen fun m hm => ?_
    conv => whnf
    refine ex_gen fun b hb => ?_
    conv => whnf
    have hbr : 0 ≤ b ∧ b < 256 := by
     rw [← hb]
     show 0 ≤ m % 256 ∧ m % 256 < 256
     omega
    have hbb : ∀ x ∈ [b], 0 ≤ x ∧ x < 256 := fun x hx => by
     rw [List.mem_singleton.1 hx]; exact hbr
    refine ⟨?_, ?_, trivial⟩
    ·conv => whnf
     refine ⟨?_, trivial⟩
     conv => whnf
     refine ⟨?_, trivial⟩
     conv => whnf
     refine q_conv_str 7 1 1 [b] rfl rfl rfl rfl rfl rfl rfl ?_
     conv => whnf
     refine ⟨?_, trivial⟩
     conv => whnf
     refine call_memW (pre := []) (suf := [one (u32V (768 + (q : Int))), one (strV [b])]) 1 1792 7 Q _ (.tuple #[]) (cpu_mem stZ 1792 7 Q _) rfl rfl (by kernel_rfl) (fun w g gs hk hU => mem_pokeAt Q 1792 7 _ _ w g gs hU hQ (by unfold word; omega) hbb (by show 1 ≤ 1000000; decide) (by omega)) ?_
     conv => whnf
     exact atq_block (atq_mid ⟨_, pokeAt_ok hQ _ hbb _ (Nat.le_refl _)⟩ (ent_drop (aI rfl (aI rfl (aI rfl trivial))) (aI (aI rfl (Or.inl rfl)) (aI (aI rfl (Or.inl rfl)) (aI (aI rfl (Or.inl rfl)) (aI (aI rfl (Or.inl rfl)) (aI (aI rfl (Or.inl rfl)) (aI (aI rfl (Or.inl rfl)) (aI (aI rfl (Or.inl rfl)) trivial))))))) rfl (cpu_grpG g g1 g2 g3 g4 g5 g6 stZ 1792 7 _)))
    ·conv => whnf
     refine ⟨?_, ?_, trivial⟩
     ·conv => whnf
      refine ⟨?_, trivial⟩
      conv => whnf
      refine q_conv_str 7 1 1 [b] rfl rfl rfl rfl rfl rfl rfl ?_
      conv => whnf
      refine ⟨?_, trivial⟩
      conv => whnf
      refine call_memW (pre := []) (suf := [one (u32V (768 + (q : Int))), one (strV [b])]) 1 1792 7 Q _ (.tuple #[]) (cpu_mem stZ 1792 7 Q _) rfl rfl (by kernel_rfl) (fun w g gs hk hU => mem_pokeAt Q 1792 7 _ _ w g gs hU hQ (by unfold word; omega) hbb (by show 1 ≤ 1000000; decide) (by omega)) ?_
      conv => whnf
      exact atq_block (atq_mid ⟨_, pokeAt_ok hQ _ hbb _ (Nat.le_refl _)⟩ (ent_drop (aI rfl (aI rfl (aI rfl trivial))) (aI (aI rfl (Or.inl rfl)) (aI (aI rfl (Or.inl rfl)) (aI (aI rfl (Or.inl rfl)) (aI (aI rfl (Or.inl rfl)) (aI (aI rfl (Or.inl rfl)) (aI (aI rfl (Or.inl rfl)) (aI (aI rfl (Or.inl rfl)) trivial))))))) rfl (cpu_grpG g g1 g2 g3 g4 g5 g6 stZ 1792 7 _)))
     ·conv => whnf
      refine q_conv_str 7 1 1 [b] rfl rfl rfl rfl rfl rfl rfl ?_
      conv => whnf
      refine ⟨?_, trivial⟩
      conv => whnf
      refine ⟨?_, trivial⟩
      conv => whnf
      refine call_memW (pre := []) (suf := [one (u32V (768 + (q : Int))), one (strV [b])]) 1 1792 7 Q _ (.tuple #[]) (cpu_mem stZ 1792 7 Q _) rfl rfl (by kernel_rfl) (fun w g gs hk hU => mem_pokeAt Q 1792 7 _ _ w g gs hU hQ (by unfold word; omega) hbb (by show 1 ≤ 1000000; decide) (by omega)) ?_
      conv => whnf
      exact atq_block (atq_mid ⟨_, pokeAt_ok hQ _ hbb _ (Nat.le_refl _)⟩ (ent_drop (aI rfl (aI rfl (aI rfl trivial))) (aI (aI rfl (Or.inl rfl)) (aI (aI rfl (Or.inl rfl)) (aI (aI rfl (Or.inl rfl)) (aI (aI rfl (Or.inl rfl)) (aI (aI rfl (Or.inl rfl)) (aI (aI rfl (Or.inl rfl)) (aI (aI rfl (Or.inl rfl)) trivial))))))) rfl (cpu_grpG g g1 g2 g3 g4 g5 g6 stZ 1792 7 _)))
   obtain ⟨Q2, hQ2⟩ := y
   dsimp only
   refine satq_vcN ?_
   conv => whnf
   refine ⟨768 + (q : Int) + 1, wr64 (by omega), ?_⟩
   conv => whnf
   rw [show 768 + (q : Int) + 1 = 768 + ((q + 1 : Nat) : Int) by omega]
   exact atq_next ⟨(q + 1, Q2), by show q + 1 ≤ 64; omega, hQ2⟩ (ent_same rfl (aI rfl (aI rfl (aI rfl trivial))) (aI (aI rfl (Or.inl rfl)) (aI (aI rfl (Or.inl rfl)) (aI (aI rfl (Or.inl rfl)) (aI (aI rfl (Or.inl rfl)) (aI (aI rfl (Or.inl rfl)) (aI (aI rfl (Or.inl rfl)) (aI (aI rfl (Or.inl rfl)) trivial)))))))) (by show 64 - (q + 1) < 64 - q; omega)
  ·conv => whnf
   exact atq_out (atq_exit (atq_mid ⟨Q, hQ⟩ (ent_same rfl (aI rfl (aI rfl trivial)) (aI (aI rfl (Or.inl rfl)) (aI (aI rfl (Or.inl rfl)) (aI (aI rfl (Or.inl rfl)) (aI (aI rfl (Or.inl rfl)) (aI (aI rfl (Or.inl rfl)) (aI (aI rfl (Or.inl rfl)) (aI (aI rfl (Or.inl rfl)) trivial))))))))))
 obtain ⟨M5, hk5⟩ := x
 dsimp only
 have hk1000 : 0 ≤ n3 % 1000 ∧ n3 % 1000 < 1000 := by omega
 refine satq_mid (α := { x : List CV × St // x.1 = stC x.2 [] ∧ x.2.pc = 256 ∧ (∀ j, 0 ≤ j → j < 16 → word (x.2.R j)) ∧ 0 ≤ x.2.steps ∧ x.2.steps < 1000 ∧ x.2.due = 0 }) (fun _ => [(3, one (ptrV b3)), (5, .p (.c (.ref 0 0))), (10, .p (.c (.ref 7 0)))]) (fun x => cpuU 0 stZ 1792 7 M5 ++ ([.cells stT x.1.1] : List Ow)) ?_ fun x => ?_
 ·refine satq_vcN ?_
  conv => whnf
  refine q_index_ptr (size := 1) b3 0 4 3 rfl rfl rfl rfl rfl rfl (by decide) (by decide) ?_
  conv => whnf
  refine ⟨intV n3, hcU 3 _ rfl, ?_⟩
  conv => whnf
  refine call_con (x := intV (n3 % 1000)) rfl (by kernel_rfl) (fun r w' hR => mod_ref n3 1000 w' (by decide)) ?_
  conv => whnf
  obtain ⟨Z, hZ⟩ : ∃ Z : List CV, Z = stC ⟨256, fun _ => 0, 0, 0, 0, 0, 0, n3 % 1000, 0⟩ [] := ⟨_, rfl⟩
  exact atq_mid ⟨(Z, ⟨256, fun _ => 0, 0, 0, 0, 0, 0, n3 % 1000, 0⟩), hZ, rfl, fun _ _ _ => word0, hk1000.1, hk1000.2, rfl⟩ (ent_same rfl (aI rfl (aI rfl (aI rfl trivial))) (aI (aI rfl (Or.inl rfl)) (aI (aI rfl (Or.inl rfl)) (aI (aI rfl (Or.inl rfl)) (aI (aI rfl (Or.inl rfl)) (aI (aI rfl (Or.inl rfl)) (aI (aI rfl (Or.inl rfl)) (aI (aI rfl (Or.inl rfl)) (aI ((aI rfl (Or.inl (Eq.trans (b := stC ⟨256, fun _ => 0, 0, 0, 0, 0, 0, n3 % 1000, 0⟩ []) rfl hZ.symm)))) trivial)))))))))
 obtain ⟨⟨X, s⟩, hX, hpc, hreg, hst0, hst1, hdue⟩ := x
 dsimp only at hX hpc hreg hst0 hst1 hdue ⊢
 have hXl : X.length = 24 := by rw [hX]; rfl
 refine satq_mid (α := { x : List CV × St // x.1 = stC x.2 [] ∧ x.2.pc = 256 ∧ (∀ j, 0 ≤ j → j < 16 → word (x.2.R j)) ∧ 0 ≤ x.2.steps ∧ x.2.steps < 1000 ∧ x.2.due = 0 }) (fun _ => [(3, one (ptrV b3)), (5, .p (.c (.ref 0 0))), (10, .p (.c (.ref 7 0)))]) (fun x => cpuU 0 stZ 1792 7 M5 ++ ([.cells stT x.1.1] : List Ow)) ?_ fun x => ?_
 ·refine satq_vcN ?_
  conv => whnf
  (refine ⟨⟨by omega, by omega⟩, ?_⟩; (conv=>whnf))
  erw [len_ble X hXl (m := 0 + 1 + (1 : Int).toNat * 1 + 1) (by omega)]
  conv => whnf
  erw [len_big X hXl (by omega)]
  conv => whnf
  exact atq_mid ⟨(stC { s with R := regU s.R (1) (768) } [], { s with R := regU s.R (1) (768) }), rfl, hpc, fun k h0 h1 => by
   show word (if k = 1 then 768 else s.R k)
   split
   ·unfold word; decide
   ·exact hreg k h0 h1, hst0, hst1, hdue⟩ (ent_same rfl (aI rfl (aI rfl (aI rfl trivial))) (aI (aI rfl (Or.inl rfl)) (aI (aI rfl (Or.inl rfl)) (aI (aI rfl (Or.inl rfl)) (aI (aI rfl (Or.inl rfl)) (aI (aI rfl (Or.inl rfl)) (aI (aI rfl (Or.inl rfl)) (aI (aI rfl (Or.inl rfl)) (aI ((aI rfl (Or.inl (stC_setS (j := 1) _ hX (by omega) (by omega))))) trivial)))))))))
 clear hX hXl hpc hreg hst0 hst1 hdue X s
 obtain ⟨⟨X, s⟩, hX, hpc, hreg, hst0, hst1, hdue⟩ := x
 dsimp only at hX hpc hreg hst0 hst1 hdue ⊢
 have hXl : X.length = 24 := by rw [hX]; rfl
 refine satq_mid (α := { x : List CV × St // x.1 = stC x.2 [] ∧ x.2.pc = 256 ∧ (∀ j, 0 ≤ j → j < 16 → word (x.2.R j)) ∧ 0 ≤ x.2.steps ∧ x.2.steps < 1000 ∧ x.2.due = 0 }) (fun _ => [(3, one (ptrV b3)), (5, .p (.c (.ref 0 0))), (10, .p (.c (.ref 7 0)))]) (fun x => cpuU 0 stZ 1792 7 M5 ++ ([.cells stT x.1.1] : List Ow)) ?_ fun x => ?_
 ·refine satq_vcN ?_
  conv => whnf
  refine q_index_ptr (size := 1) b3 0 4 2 rfl rfl rfl rfl rfl rfl (by decide) (by decide) ?_
  conv => whnf
  refine ⟨intV n2, hcU 2 _ rfl, ?_⟩
  conv => whnf
  refine call_con (x := intV (n2 % 8)) rfl (by kernel_rfl) (fun r w' hR => mod_ref n2 8 w' (by decide)) ?_
  conv => whnf
  refine ⟨1020 + n2 % 8, wr64 (by omega), ?_⟩
  conv => whnf
  refine ⟨1020 + n2 % 8, by rw [wr32]; omega, ?_⟩
  conv => whnf
  (refine ⟨⟨by omega, by omega⟩, ?_⟩; (conv=>whnf))
  erw [len_ble X hXl (m := 0 + 1 + (2 : Int).toNat * 1 + 1) (by omega)]
  conv => whnf
  erw [len_big X hXl (by omega)]
  conv => whnf
  exact atq_mid ⟨(stC { s with R := regU s.R (2) (1020 + n2 % 8) } [], { s with R := regU s.R (2) (1020 + n2 % 8) }), rfl, hpc, fun k h0 h1 => by
   show word (if k = 2 then 1020 + n2 % 8 else s.R k)
   split
   ·unfold word; omega
   ·exact hreg k h0 h1, hst0, hst1, hdue⟩ (ent_same rfl (aI rfl (aI rfl (aI rfl trivial))) (aI (aI rfl (Or.inl rfl)) (aI (aI rfl (Or.inl rfl)) (aI (aI rfl (Or.inl rfl)) (aI (aI rfl (Or.inl rfl)) (aI (aI rfl (Or.inl rfl)) (aI (aI rfl (Or.inl rfl)) (aI (aI rfl (Or.inl rfl)) (aI ((aI rfl (Or.inl (stC_setS (j := 2) _ hX (by omega) (by omega))))) trivial)))))))))
 clear hX hXl hpc hreg hst0 hst1 hdue X s
 obtain ⟨⟨X, s⟩, hX, hpc, hreg, hst0, hst1, hdue⟩ := x
 dsimp only at hX hpc hreg hst0 hst1 hdue ⊢
 have hXl : X.length = 24 := by rw [hX]; rfl
 refine satq_mid (α := { x : List CV × St // x.1 = stC x.2 [] ∧ x.2.pc = 256 ∧ (∀ j, 0 ≤ j → j < 16 → word (x.2.R j)) ∧ 0 ≤ x.2.steps ∧ x.2.steps < 1000 ∧ x.2.due = 0 }) (fun _ => [(3, one (ptrV b3)), (5, .p (.c (.ref 0 0))), (10, .p (.c (.ref 7 0)))]) (fun x => cpuU 0 stZ 1792 7 M5 ++ ([.cells stT x.1.1] : List Ow)) ?_ fun x => ?_
 ·refine satq_vcN ?_
  conv => whnf
  refine q_index_ptr (size := 1) b3 0 4 3 rfl rfl rfl rfl rfl rfl (by decide) (by decide) ?_
  conv => whnf
  refine ⟨intV n3, hcU 3 _ rfl, ?_⟩
  conv => whnf
  refine call_con (x := intV (n3 % 4)) rfl (by kernel_rfl) (fun r w' hR => mod_ref n3 4 w' (by decide)) ?_
  conv => whnf
  obtain ⟨z, hz1, hz2⟩ := four_at (a := 256) (b := 1276) (c := 1532) (d := 1790) (k := n3 % 4) (by omega)
  have hz3 : 0 ≤ z ∧ z < 4294967296 := by
   simp only [List.mem_cons, List.not_mem_nil, or_false] at hz2
   omega
  (refine ⟨⟨by omega, by omega⟩, ?_⟩; (conv=>whnf))
  erw [hz1]
  conv => whnf
  refine ⟨z, by rw [wr32]; omega, ?_⟩
  conv => whnf
  (refine ⟨⟨by omega, by omega⟩, ?_⟩; (conv=>whnf))
  erw [len_ble X hXl (m := 0 + 1 + (3 : Int).toNat * 1 + 1) (by omega)]
  conv => whnf
  erw [len_big X hXl (by omega)]
  conv => whnf
  exact atq_mid ⟨(stC { s with R := regU s.R (3) (z) } [], { s with R := regU s.R (3) (z) }), rfl, hpc, fun k h0 h1 => by
   show word (if k = 3 then z else s.R k)
   split
   ·exact hz3
   ·exact hreg k h0 h1, hst0, hst1, hdue⟩ (ent_same rfl (aI rfl (aI rfl (aI rfl trivial))) (aI (aI rfl (Or.inl rfl)) (aI (aI rfl (Or.inl rfl)) (aI (aI rfl (Or.inl rfl)) (aI (aI rfl (Or.inl rfl)) (aI (aI rfl (Or.inl rfl)) (aI (aI rfl (Or.inl rfl)) (aI (aI rfl (Or.inl rfl)) (aI ((aI rfl (Or.inl (stC_setS (j := 3) _ hX (by omega) (by omega))))) trivial)))))))))
 clear hX hXl hpc hreg hst0 hst1 hdue X s
 obtain ⟨⟨X, s⟩, hX, hpc, hreg, hst0, hst1, hdue⟩ := x
 dsimp only at hX hpc hreg hst0 hst1 hdue ⊢
 have hXl : X.length = 24 := by rw [hX]; rfl
 refine satq_mid (α := { x : List CV × St // x.1 = stC x.2 [] ∧ x.2.pc = 256 ∧ (∀ j, 0 ≤ j → j < 16 → word (x.2.R j)) ∧ 0 ≤ x.2.steps ∧ x.2.steps < 1000 ∧ x.2.due = 0 }) (fun _ => [(3, one (ptrV b3)), (5, .p (.c (.ref 0 0))), (10, .p (.c (.ref 7 0)))]) (fun x => cpuU 0 stZ 1792 7 M5 ++ ([.cells stT x.1.1] : List Ow)) ?_ fun x => ?_
 ·refine satq_seqN ?_
  conv => whnf
  refine satq_block ?_
  refine satq_loop (α := { x : Nat × List CV × St // 4 ≤ x.1 ∧ x.1 ≤ 16 ∧ x.2.1 = stC x.2.2 [] ∧ x.2.2.pc = 256 ∧ (∀ j, 0 ≤ j → j < 16 → word (x.2.2.R j)) ∧ 0 ≤ x.2.2.steps ∧ x.2.2.steps < 1000 ∧ x.2.2.due = 0 }) (fun x => [(3, one (ptrV b3)), (5, .p (.c (.ref 0 0))), (10, .p (.c (.ref 7 0))), (11, one (intV (x.1.1 : Int)))]) (fun x => cpuU 0 stZ 1792 7 M5 ++ ([.cells stT x.1.2.1] : List Ow)) (fun x => 16 - x.1.1)
   ⟨(4, X, s), by show 4 ≤ 4; omega, by show 4 ≤ 16; omega, hX, hpc, hreg, hst0, hst1, hdue⟩ (ent_same rfl (aI rfl (aI rfl (aI rfl (aI rfl trivial)))) (aI (aI rfl (Or.inl rfl)) (aI (aI rfl (Or.inl rfl)) (aI (aI rfl (Or.inl rfl)) (aI (aI rfl (Or.inl rfl)) (aI (aI rfl (Or.inl rfl)) (aI (aI rfl (Or.inl rfl)) (aI (aI rfl (Or.inl rfl)) (aI (aI rfl (Or.inl rfl)) trivial))))))))) fun x => ?_
  clear hX hXl hpc hreg hst0 hst1 hdue X s
  obtain ⟨⟨j, X, s⟩, hj0, hj1, hX, hpc, hreg, hst0, hst1, hdue⟩ := x
  dsimp only at hj0 hj1 hX hpc hreg hst0 hst1 hdue ⊢
  have hXl : X.length = 24 := by rw [hX]; rfl
  refine satq_seqN ?_
  conv => whnf
  refine ⟨fun hc => ?_, fun hc => ?_⟩
  ·have hlt : j < 16 := by simp at hc; omega
   obtain ⟨x, hx⟩ : ∃ x, [intV n0, intV n1, intV n2, intV n3][j % 4]? = some (intV x) := by
    rcases (by omega : j % 4 = 0 ∨ j % 4 = 1 ∨ j % 4 = 2 ∨ j % 4 = 3) with h | h | h | h <;> rw [h] <;> exact ⟨_, rfl⟩
   conv => whnf
   refine satq_in (satq_block ?_)
   refine satq_vcN ?_
   conv => whnf
   refine ⟨by decide, ((j % 4 : Nat) : Int), by rw [Int.tmod_eq_emod_of_nonneg (by omega)]; omega, ?_⟩
   conv => whnf
   refine q_index_ptr (size := 1) b3 0 4 (j % 4) rfl rfl rfl rfl rfl rfl (by omega) (by show (j : Int) % 4 < 4; omega) ?_
   conv => whnf
   refine ⟨intV x, by
    have := hcU (j % 4) _ hx
    rwa [show 0 + Int.toNat ((j : Int) % 4) * 1 = j % 4 by omega], ?_⟩
   conv => whnf
   refine call_con (x := intV (x % 40)) rfl (by kernel_rfl) (fun r w' hR => mod_ref x 40 w' (by decide)) ?_
   conv => whnf
   refine ⟨(j : Int) - 8, wr64 (by omega), ?_⟩
   conv => whnf
   refine ex_gen fun m hm => ?_
   conv => whnf
   refine ex_gen fun y hy => ?_
   have hyw : word y := by rw [← hy, wr32]; unfold word; omega
   conv => whnf
   (refine ⟨⟨by omega, by omega⟩, ?_⟩; (conv=>whnf))
   erw [len_ble X hXl (m := 0 + 1 + (j : Int).toNat * 1 + 1) (by omega)]
   conv => whnf
   erw [len_big X hXl (by omega)]
   conv => whnf
   refine atq_block (atq_on ?_)
   refine satq_vcN ?_
   conv => whnf
   refine ⟨(j : Int) + 1, wr64 (by omega), ?_⟩
   conv => whnf
   exact atq_next ⟨(j + 1, stC { s with R := regU s.R (j : Int) y } [], { s with R := regU s.R (j : Int) y }), by show 4 ≤ j + 1; omega, by show j + 1 ≤ 16; omega, rfl, hpc, fun k h0 h1 => by
    show word (if k = (j : Int) then y else s.R k)
    split
    ·exact hyw
    ·exact hreg k h0 h1, hst0, hst1, hdue⟩ (ent_same rfl (aI rfl (aI rfl (aI rfl (aI rfl trivial)))) (aI (aI rfl (Or.inl rfl)) (aI (aI rfl (Or.inl rfl)) (aI (aI rfl (Or.inl rfl)) (aI (aI rfl (Or.inl rfl)) (aI (aI rfl (Or.inl rfl)) (aI (aI rfl (Or.inl rfl)) (aI (aI rfl (Or.inl rfl)) (aI ((aI rfl (Or.inl (stC_setS (j := (j : Int)) _ hX (by omega) (by omega))))) trivial))))))))) (by show 16 - (j + 1) < 16 - j; omega)
  ·conv => whnf
   exact atq_out (atq_exit (atq_mid ⟨(X, s), hX, hpc, hreg, hst0, hst1, hdue⟩ (ent_same rfl (aI rfl (aI rfl (aI rfl trivial))) (aI (aI rfl (Or.inl rfl)) (aI (aI rfl (Or.inl rfl)) (aI (aI rfl (Or.inl rfl)) (aI (aI rfl (Or.inl rfl)) (aI (aI rfl (Or.inl rfl)) (aI (aI rfl (Or.inl rfl)) (aI (aI rfl (Or.inl rfl)) (aI (aI rfl (Or.inl rfl)) trivial)))))))))))
 clear hX hXl hpc hreg hst0 hst1 hdue X s
 obtain ⟨⟨X, s⟩, hX, hpc, hreg, hst0, hst1, hdue⟩ := x
 dsimp only at hX hpc hreg hst0 hst1 hdue ⊢
 have hXl : X.length = 24 := by rw [hX]; rfl
 refine satq_mid (α := { x : List CV × St // x.1 = stC x.2 [] ∧ x.2.pc = 256 ∧ (∀ j, 0 ≤ j → j < 16 → word (x.2.R j)) ∧ 0 ≤ x.2.steps ∧ x.2.steps < 1000 ∧ x.2.due = 0 }) (fun _ => [(3, one (ptrV b3)), (5, .p (.c (.ref 0 0))), (10, .p (.c (.ref 7 0)))]) (fun x => cpuU 0 stZ 1792 7 M5 ++ ([.cells stT x.1.1] : List Ow)) ?_ fun x => ?_
 ·refine satq_vcN ?_
  conv => whnf
  (refine ⟨⟨by omega, by omega⟩, ?_⟩; (conv=>whnf))
  erw [len_ble X hXl (m := 0 + 18 + (1 : Int).toNat * 1 + 1) (by decide)]
  conv => whnf
  erw [len_big X hXl (by omega)]
  conv => whnf
  exact atq_mid ⟨(stC { s with c1 := 261 } [], { s with c1 := 261 }), rfl, hpc, hreg, hst0, hst1, hdue⟩ (ent_same rfl (aI rfl (aI rfl (aI rfl trivial))) (aI (aI rfl (Or.inl rfl)) (aI (aI rfl (Or.inl rfl)) (aI (aI rfl (Or.inl rfl)) (aI (aI rfl (Or.inl rfl)) (aI (aI rfl (Or.inl rfl)) (aI (aI rfl (Or.inl rfl)) (aI (aI rfl (Or.inl rfl)) (aI ((aI rfl (Or.inl (by rw [hX]; rfl)))) trivial)))))))))
 clear hX hXl hpc hreg hst0 hst1 hdue X s
 obtain ⟨⟨X, s⟩, hX, hpc, hreg, hst0, hst1, hdue⟩ := x
 dsimp only at hX hpc hreg hst0 hst1 hdue ⊢
 have hXl : X.length = 24 := by rw [hX]; rfl
 obtain ⟨L, hL⟩ : ∃ L, L = stL s [] := ⟨_, rfl⟩
 have hXe : X = L.map .v := by rw [hX, hL]
 have hLl : (L.map CV.v).length = 24 := by rw [← hXe]; exact hXl
 rw [hXe]
 refine satq_seqN ?_
 conv => whnf
 erw [cut_all hLl]
 conv => whnf
 obtain ⟨sf, hsf⟩ : ∃ sf : St, sf = { s with R := regU s.R 0 0, f := 0 } := ⟨_, rfl⟩
 refine call_objs (α := Unit) (pre := []) (suf := [.p (.agg (L.map .v))]) (xs := []) (ys := [.agg L.toArray]) 0 (cpuU 0 stZ 1792 7 M5) (cpuU 0 stZ 1792 7 M5) (fun _ => cpuU 0 (stL sf []) 1792 7 M5) (fun _ => cpuU 0 (stL sf []) 1792 7 M5) (fun _ => .tuple #[]) (fun _ => True) (by simp) (cpuU_sh 0 stZ 1792 7 M5) (cpuU_ob stZ 1792 7 M5) (fun i hi => ?_) rfl (avals_1st L) (by kernel_rfl) (fun _ _ => cpuU_sh 0 _ 1792 7 M5) (fun _ _ => cpuU_ob _ 1792 7 M5) (fun _ _ => rfl) (fun w' q qs hk hU => ?_) fun _ _ => ?_
 ·rw [Nat.zero_add]
  exact List.getElem?_append_left hi
 ·rw [hL, hsf]
  exact (set_cpu s hst0 hdue stZ rfl M5 1792 7 w' q qs hU).mono fun e w'' ⟨h1, h2, h3⟩ => ⟨(), trivial, h1, h2, h3⟩
 conv => whnf
 refine satq_vcN ?_
 conv => whnf
 refine atq_ret ?_
 conv => whnf
 have hsf0 : sf.ok := by
  rw [hsf]
  refine ⟨by show word s.pc; rw [hpc]; unfold word; decide, fun k h0 h1 => ?_, rfl, rfl, hst0, by show s.steps < _; omega⟩
  show word (if k = 0 then 0 else s.R k)
  split
  ·exact word0
  ·exact hreg k h0 h1
 exact fin_objsR rfl (putS_pre (by show 7 ≤ 8; omega)) (cpuU_ob (stL sf []) 1792 7 M5) fun w' h1 h2 => ⟨g, _, sf, M5, rfl, hsf0, by rw [hsf]; exact hpc, by rw [hsf]; exact hst1, hk5, newObjs_then hB hn2 h1 h2⟩
end Go.Proofs.YtnhdcclpjildjaaGreat
namespace Go.Proofs.YtnhdcclpjildjaaGreat
open Go.RowKit

theorem cpu_plain {w : World} {g n p : Nat} {gs : List Nat} {us : List Value} {M : MemP} (h : ObjsAt w (g :: gs) (cpuU 0 us n p M)) : ∃ g1 qs, w.heap[g]? = some (.cells (us ++ [ptrV g1]).toArray cpuT (0, 0)) ∧ ObjsAt w (g1 :: qs) (memS 0 n p M) := by
 have hR := rel_objs h
 obtain ⟨g1, qs, h1, h2⟩ := hR.objsAt 1 (memS 0 n p M) (memS 1 n p M) (by simp) (fun i hi => by rcases (by have : i < 6 := hi; omega : i = 0 ∨ i = 1 ∨ i = 2 ∨ i = 3 ∨ i = 4 ∨ i = 5) with rfl | rfl | rfl | rfl | rfl | rfl <;> rfl) (memS_sh 1 n p M) (memS_ob n p M)
 obtain ⟨b, vs, e1, e2, e3⟩ := hR.own 0 _ rfl
 have hb : b = g := by
  have : some g = some b := e1
  injection this with this; exact this.symm
 subst hb
 have hvs : vs = us ++ [ptrV g1] := by
  have hl := denL_length e3
  have ht := denL_take us.length e3
  have hdr := denL_drop us.length e3
  rw [show us.length = (us.map CV.v).length by rw [List.length_map]] at ht hdr
  rw [List.take_left] at ht
  rw [List.drop_left] at hdr
  have ht := denL_vals_inv ht
  simp only [denL, CV.den] at hdr
  obtain ⟨u, l, hu, ⟨b', hb', hu'⟩, hl'⟩ := hdr
  rw [h1] at hb'
  injection hb' with hb'
  subst hb'
  rw [← List.take_append_drop (us.map CV.v).length vs, ht, hu, hu', hl']
 rw [hvs] at e2
 exact ⟨g1, qs, e2, h2⟩
section
variable {w0 : World} {S : List Ow} {K : AV → List Ow → Prop} {g n p : Nat} {gs : List Nat} {M : MemP}
theorem call_liftedP (pc most : Int) (hO : ObjsAt w0 (g :: gs) (memS 0 n p M)) (hM : M.ok n p) (hp : 2 ≤ p ∧ p ≤ 1000) (hpc : word pc)
  (hK : K (.tup [.agg [.row S.length, .row (S.length + 1), .row (S.length + 2)], .c (.v (.bool true))]) (S ++ blkRows (liftM M pc most))) : CallS Tryz.prog w0 Gs.nil 15 [one (.int .u32 pc), one (ptrV g), one (intV most)] S K := by
 refine call_blkT (liftM M pc most) (.bool true) (by kernel_rfl) (fun r w us hR hd => ?_) hK
 obtain rfl := avals_den (xs := [.int .u32 pc, ptrV g, intV most]) rfl hd
 exact lifted_walk (objs_later (memS_ob n p M) hO hR.toBelow) hM hp pc most hpc
end
theorem holdE {p : Prop} (h : p ∨ False) : p := h.elim id False.elim
theorem fin_grown {w0 : World} {gs : List Nat} {S : List Ow} {v : AV} {x : Value} {R : Ending → World → Prop} (hv : v.val = some x) (h : ∀ w, GrownBys w0 w gs → R (.returned x) w) : Fin w0 ⟨gs, []⟩ S v R := by
 refine ⟨fun r w u hR hd => ?_⟩
 obtain rfl := AV.val_den hv hd
 exact h w hR.growns
theorem below_grown {w w1 w2 w' : World} {gs : List Nat} {U : List Ow} (hB : Below w.heap.size w w1) (hn : NewObjs w1 w2 gs U) (h2 : GrownBys w2 w' gs) : Below w.heap.size w w' := by
 have hBB : Below w.heap.size w w2 := hB.trans (hn.below.mono hB.size)
 refine ⟨h2.os.trans hBB.os, h2.tape.trans hBB.tape, h2.output.trans hBB.output, Nat.le_trans hBB.size h2.size, fun k hk => ?_⟩
 refine (h2.block k (Nat.lt_of_lt_of_le hk hBB.size) fun hm => ?_).trans (hBB.block k hk)
 have := hn.fresh k hm
 have := hB.size
 omega
abbrev twoIT : TypeId := 24
end Go.Proofs.YtnhdcclpjildjaaGreat
namespace Go.Proofs.YtnhdcclpjildjaaGreat
open Go.RowKit

section
variable {w0 : World} {G : Gs} {S : List Ow} {K : AV → List Ow → Prop}
theorem call_agrees (k n p i1 i2 i3 : Nat) (s : St) (M : MemP) (most : Int) (b : Blk) (L : List Value) (hb : b = liftM M s.pc most) (hL : L = stL s []) (hS : ∀ i, i < 7 → S[k + i]? = (cpuU k L n p M)[i]?) (hs : s.ok) (hst : s.steps < 1000000) (hM : M.ok n p) (hp : 1 ≤ p)
  (h1 : S[i1]? = some (.row 35 1 b.at_.length (b.at_.map (.int .u32)))) (h2 : S[i2]? = some (.row 3 1 b.pages.length (b.pages.map (.int .i64)))) (h3 : S[i3]? = some (.row 45 5 b.ops.length (b.ops.flatMap opC))) (hn : (i1 < k ∨ k + 7 ≤ i1) ∧ (i2 < k ∨ k + 7 ≤ i2) ∧ (i3 < k ∨ k + 7 ≤ i3))
  (hK : ∀ s' M', s'.ok → s'.steps ≤ s.steps + 64 → M'.ok n p → K (.tup [.c (.v (.bool true)), .agg ((outL (outR (runM M s most))).map .v)]) (putS S k (cpuU k (stL s' []) n p M'))) : CallS Tryz.prog w0 G 20 [.p (.agg [.row i1, .row i2, .row i3]), .p (.c (.ref k 0))] S K := by
 subst hL; subst hb
 refine call_objsX (α := St × MemP) (pre := [.p (.agg [.row i1, .row i2, .row i3])]) (suf := []) k (cpuU 0 (stL s []) n p M) (cpuU k (stL s []) n p M) (fun x => cpuU 0 (stL x.1 []) n p x.2) (fun x => cpuU k (stL x.1 []) n p x.2) (fun _ => .tuple #[.bool true, outV (outR (runM M s most))]) (fun x => x.1.ok ∧ x.1.steps ≤ s.steps + 64 ∧ x.2.ok n p) (by simp) (cpuU_sh k _ n p M) (cpuU_ob _ n p M) hS (by kernel_rfl) (fun _ _ => cpuU_sh k _ n p _) (fun _ _ => cpuU_ob _ n p _) (fun _ _ => rfl)
  (fun r w g gs xs ys hR hd hd2 hgs hU => ?_) (fun x hx => hK x.1 x.2 hx.1 hx.2.1 hx.2.2)
 obtain ⟨u, l, rfl, d1, d2⟩ := hd
 obtain rfl : l = [] := d2
 obtain rfl : ys = [] := hd2
 obtain ⟨us, rfl, hl⟩ := den_agg d1
 simp only [denL, CV.den] at hl
 obtain ⟨u1, l1, rfl, k1, u2, l2, rfl, k2, u3, l3, rfl, k3, rfl⟩ := hl
 obtain ⟨A1, c1, e1, s1⟩ := row_old hR hgs h1 hn.1 k1
 obtain ⟨A2, c2, e2, s2⟩ := row_old hR hgs h2 hn.2.1 k2
 obtain ⟨A3, c3, e3, s3⟩ := row_old hR hgs h3 hn.2.2 k3
 subst e1; subst e2; subst e3
 exact (agrees_walk s hs M n p most A1 A2 A3 c1 c2 c3 w g gs hU hM hp hst s1 s2 s3).mono fun e w' h => by
  obtain ⟨s', M', e1, e2, e3, e4, e5, e6⟩ := h
  exact ⟨(s', M'), ⟨e2, e3, e4⟩, e1, e5, e6⟩
end
theorem hold {p : Prop} (h : p ∨ False) : p := h.elim id False.elim
end Go.Proofs.YtnhdcclpjildjaaGreat
namespace Go.Proofs.YtnhdcclpjildjaaGreat
open Go.RowKit

theorem atq_thru {w0 : World} {G : Gs} {N : Nd} {f : Fr} {S : List Ow} {Q : Exit → Act → World → Prop} {id id' : Nat} (hne : id ≠ id') (h : AtQ w0 G N (.exit id) f S Q) : AtQ w0 G N (.exit id) f S (Exit.inBlock id' Q) := ⟨fun a w hg => by
 show (if id = id' then Q .normal a w else _)
 rw [if_neg hne]; exact h.out a w hg⟩
set_option maxRecDepth 100000 in
set_option maxHeartbeats 8000000 in
theorem runs_law (A : Option Addr) (n c : Nat) (n0 n1 n2 n3 q0 q1 : Int) (hn : n < 9223372036854775808) (w : World) (hA : ProgAt w A n) : Calls Tryz.prog 6 #[.slice A n c, .agg #[intV n0, intV n1, intV n2, intV n3], .agg #[intV q0, intV q1]] w fun e w' => e = .returned (.bool true) ∧ Below w.heap.size w w' := by
 refine calls_satq [.slice A n c, .agg #[intV n0, intV n1, intV n2, intV n3], .agg #[intV q0, intV q1]] Tryz.func6 Tryz.ntmps6 rfl (by simp) ?_
 refine satq_seqN ?_
 conv => whnf
 refine satq_seqN ?_
 conv => whnf
 refine call_con (x := .bool true) rfl (by kernel_rfl) (fun r w' hR => sanity14 w') ?_
 conv => whnf
 refine satq_in (satq_jumpG 2 rfl rfl rfl ?_)
 conv => whnf
 refine ⟨by kernel_rfl, fun r w1 us hR hd => ?_⟩
 obtain rfl := avals_den (xs := [.slice A n c, .agg #[intV n0, intV n1, intV n2, intV n3]]) rfl hd
 have hB := hR.toBelow
 obtain ⟨b5, vs, e1, e2, e3⟩ := hR.own 1 _ rfl
 obtain rfl := denL_vals_inv (us := [intV q0, intV q1]) e3
 refine (laid_walk w1 A n c n0 n1 n2 n3 hn (hA.later hB)).mono fun e w2 ⟨g, gs, s, M, he, hs, hpc, hst, hM, hn2⟩ => ?_
 have hB2 := hn2.below
 have hq5 : w2.heap[b5]? = some (.cells #[intV q0, intV q1] twoIT (0, 0)) := (hB2.block b5 (heap_lt e2)).trans e2
 obtain ⟨g0, g1, g2, g3, g4, g5, g6, hgs⟩ := seven_blocks hn2.at_
 injection hgs with hg0 hgs
 subst hgs; subst hg0
 have hfr : b5 ∉ (⟨[g, g1, g2, g3, g4, g5, g6], []⟩ : Gs) := fun hm => by
  rcases hm with hm | hm
  ·have := hn2.fresh b5 hm
   have := heap_lt e2
   omega
  ·cases hm
 refine ⟨_, .p (.c (.ref 0 0)), w2, ⟨[g, g1, g2, g3, g4, g5, g6], []⟩, [(5, one (ptrV b5)), (7, one (.bool true))], cpuU 0 (stL s []) 1792 7 M, envOf [g, g1, g2, g3, g4, g5, g6], he, rel_objs hn2.at_, fun a hf => frDen ⟨slot_plain hf 5 rfl e1, slot_same hf 7 rfl, trivial⟩, den_mk_ref rfl, ?_⟩
 conv => whnf
 refine atq_on ?_
 have hc0 : ∀ k x, [intV q0, intV q1][k]? = some x → CellsAt w2 ⟨[g, g1, g2, g3, g4, g5, g6], []⟩ b5 k [x] := fun k x hx => cells_one (heap_lt hq5) hfr (by simp [World.cell?, hq5, hx])
 refine satq_mid (α := St × MemP) (fun _ => [(7, one (.bool true))]) (fun x => cpuU 0 (stL x.1 []) 1792 7 x.2) ?_ fun x => ?_
 ·refine satq_seqN ?_
  conv => whnf
  refine satq_block ?_
  refine satq_loop (α := { x : Nat × St × MemP // x.1 ≤ 12 ∧ x.2.1.ok ∧ x.2.1.steps < 1000 + 64 * (x.1 : Int) ∧ x.2.2.ok 1792 7 }) (fun x => [(5, one (ptrV b5)), (7, one (.bool true)), (8, .p (.c (.ref 0 0))), (9, one (intV (x.1.1 : Int)))]) (fun x => cpuU 0 (stL x.1.2.1 []) 1792 7 x.1.2.2) (fun x => 12 - x.1.1)
   ⟨(0, s, M), by show 0 ≤ 12; omega, hs, by show s.steps < _; omega, hM⟩ (ent_same rfl (aI rfl (aI rfl (aI rfl (aI rfl trivial)))) (aI (aI rfl (Or.inl rfl)) (aI (aI rfl (Or.inl rfl)) (aI (aI rfl (Or.inl rfl)) (aI (aI rfl (Or.inl rfl)) (aI (aI rfl (Or.inl rfl)) (aI (aI rfl (Or.inl rfl)) (aI (aI rfl (Or.inl rfl)) trivial)))))))) fun x => ?_
  clear hs hpc hst hM
  obtain ⟨⟨j, s1, M1⟩, hj, hs1o, hs1t, hM1⟩ := x
  dsimp only at hj hs1o hs1t hM1 ⊢
  obtain ⟨mo, hmo⟩ : ∃ mo, mo = q1 % 9 + (j : Int) := ⟨_, rfl⟩
  obtain ⟨bl, hbl⟩ : ∃ bl, bl = liftM M1 s1.pc mo := ⟨_, rfl⟩
  obtain ⟨L, hL⟩ : ∃ L, L = stL s1 [] := ⟨_, rfl⟩
  have hLl : L.length = 24 := by rw [hL]; rfl
  have hL0 : ∀ T : List Value, (L ++ T)[0 + 0 + 0]? = some (u32V s1.pc) := fun T => by rw [hL]; rfl
  have hL24 : ∀ u : Value, (L ++ [u])[24]? = some u := fun u => by rw [hL]; rfl
  rw [← hL]
  refine satq_seqN ?_
  conv => whnf
  refine ⟨fun hc => ?_, fun hc => ?_⟩
  ·have hlt : j < 12 := by simp at hc; omega
   conv => whnf
   refine satq_in (satq_block ?_)
   refine satq_plain (α := Unit) (fun _ => [(5, one (ptrV b5)), (7, one (.bool true)), (8, .p (.c (.ref 0 0))), (9, one (intV (j : Int))), (10, .p (.c (.ref 7 0))), (11, one (.bool true))]) (fun _ => .cells blT [.row 1, .row 2, .row 3] :: blkRows bl) (fun r w3 hR3 => ?_) fun _ => ?_
   ·obtain ⟨g', qs', hg', hO'⟩ := hR3.objsAt 0 (cpuU 0 L 1792 7 M1) (cpuU 0 L 1792 7 M1) (by simp) (fun i hi => by rw [Nat.zero_add]) (cpuU_sh 0 L 1792 7 M1) (cpuU_ob L 1792 7 M1)
    obtain ⟨h1, qs, hg, hO⟩ := cpu_plain hO'
    have hq3 : w3.heap[b5]? = some (.cells #[intV q0, intV q1] twoIT (0, 0)) := (hR3.old b5 (heap_lt hq5) hfr).trans hq5
    refine ⟨[(5, one (ptrV b5)), (7, one (.bool true)), (8, one (ptrV g')), (9, one (intV (j : Int)))], fun _ => [(5, one (ptrV b5)), (7, one (.bool true)), (8, one (ptrV g')), (9, one (intV (j : Int))), (10, .p (.c (.ref 0 0))), (11, one (.bool true))], fun a hf => frDen ⟨slot_same hf 5 rfl, slot_same hf 7 rfl, slot_plain hf 8 rfl hg', slot_same hf 9 rfl, trivial⟩, fun _ a s hf => frDen ⟨slot_same hf 5 rfl, slot_same hf 7 rfl, slot_back hf 8 hg' (by show 0 < 7; omega) rfl, slot_same hf 9 rfl, slot_up (c := .ref 0 0) hf 10 rfl, slot_same hf 11 rfl, trivial⟩, ?_⟩
    refine satq_vcN ?_
    conv => whnf
    refine sat_anyG (.q 0 (.q 1 (.q 2 (.q 3 (.q 4 (.q 5 (.q 6 (.q 7 (.q 8 (.q 9 (.q 10 (.q 12 (.alt 11 (.q 13 (.alt 14 (.q 15 (.alt 16 (.alt 17 (.alt 18 (.alt 19 (.alt 20 .done .no) .no) .no) (.alt 18 (.alt 17 (.alt 19 (.alt 20 .done .no) .no) (.alt 19 (.alt 17 (.alt 20 .done .no) .no) .no)) .no)) (.alt 17 (.alt 16 (.alt 18 (.alt 19 (.alt 20 .done .no) .no) .no) (.alt 18 (.alt 16 (.alt 19 (.alt 20 .done .no) .no) .no) .no)) (.alt 18 (.alt 16 (.alt 17 (.alt 19 (.alt 20 .done .no) .no) (.alt 19 (.alt 17 (.alt 20 .done .no) .no) .no)) (.alt 17 (.alt 16 (.alt 19 (.alt 20 .done .no) .no) .no) .no)) .no)))) (.alt 18 (.alt 14 (.q 15 (.alt 16 (.alt 17 (.alt 19 (.alt 20 .done .no) .no) (.alt 19 (.alt 17 (.alt 20 .done .no) .no) .no)) (.alt 17 (.alt 16 (.alt 19 (.alt 20 .done .no) .no) .no) .no))) .no) .no))) (.alt 18 (.alt 11 (.q 13 (.alt 14 (.q 15 (.alt 16 (.alt 17 (.alt 19 (.alt 20 .done .no) .no) (.alt 19 (.alt 17 (.alt 20 .done .no) .no) .no)) (.alt 17 (.alt 16 (.alt 19 (.alt 20 .done .no) .no) .no) .no))) .no)) .no) .no)))))))))))))) mixed (by kernel_rfl) (by kernel_rfl) ?_
    conv => whnf
    refine ⟨_, block_cells (off := 0 + 0 + 0) hg (hL0 _), ?_⟩
    conv => whnf
    refine ⟨_, block_cells (off := 24) hg (hL24 _), ?_⟩
    conv => whnf
    refine q_index_ptr (size := 1) b5 0 2 1 rfl rfl rfl rfl rfl rfl (by decide) (by decide) ?_
    conv => whnf
    refine ⟨intV q1, block_cells (off := 1) (us := [intV q0, intV q1]) hq3 rfl, ?_⟩
    conv => whnf
    repeat' (first
     | (refine call_con (x := intV (q1 % 9)) rfl (by kernel_rfl) (fun r w' hR => mod_ref q1 9 w' (by decide)) ?_; (conv=>whnf); refine ⟨mo, by rw [wr64 (by omega)]; exact hmo.symm, ?_⟩; conv => whnf)
     | (refine call_liftedP _ mo hO hM1 (by decide) hs1o.pc ?_; rw [← hbl]; conv => whnf)
     | (refine ⟨?_, trivial⟩; conv => whnf)
     | (refine ⟨?_, ?_, trivial⟩ <;> conv => whnf)
     | (refine ⟨?_, ?_, ?_, trivial⟩ <;> conv => whnf)
     | refine atq_mid () (holdE ?_)
     | fail)
    all_goals first
     | exact Or.inl (ent_same rfl (aI rfl (aI rfl (aI rfl (aI rfl (aI rfl (aI rfl trivial)))))) (aI (aI rfl (Or.inl rfl)) (aI ((aI rfl (aI rfl (aI rfl rfl)))) (aI ((aI rfl (aI rfl (aI rfl rfl)))) (aI ((aI rfl (aI rfl (aI rfl rfl)))) trivial)))))
     | exact Or.inl (ent_ren [3, 0, 1, 2] (aI rfl (aI rfl (aI rfl (aI rfl (aI rfl (aI rfl trivial)))))) (aI ((Exists.intro _ (aI rfl (aI rfl (Or.inl rfl))))) (aI ((Exists.intro _ (aI rfl (aI rfl (aI rfl (aI rfl rfl)))))) (aI ((Exists.intro _ (aI rfl (aI rfl (aI rfl (aI rfl rfl)))))) (aI ((Exists.intro _ (aI rfl (aI rfl (aI rfl (aI rfl rfl)))))) trivial)))) rfl rfl rfl rfl rfl)
     | fail
   refine satq_as (f' := [(5, one (ptrV b5)), (7, one (.bool true)), (8, .p (.c (.ref 0 0))), (9, one (intV (j : Int))), (10, .p (.c (.ref 7 0))), (11, one (.bool true))]) (S' := cpuU 0 L 1792 7 M1 ++ (.cells blT [.row 8, .row 9, .row 10] :: blkRows bl)) (ent_same rfl (aI rfl (aI rfl (aI rfl (aI rfl (aI rfl (aI rfl trivial)))))) (aI (aI rfl (Or.inl rfl)) (aI (aI rfl (Or.inl rfl)) (aI (aI rfl (Or.inl rfl)) (aI (aI rfl (Or.inl rfl)) (aI (aI rfl (Or.inl rfl)) (aI (aI rfl (Or.inl rfl)) (aI (aI rfl (Or.inl rfl)) (aI (aI rfl (Or.inl rfl)) (aI ((aI rfl (aI rfl (aI rfl rfl)))) (aI ((aI rfl (aI rfl (aI rfl rfl)))) (aI ((aI rfl (aI rfl (aI rfl rfl)))) trivial)))))))))))) ?_
   refine satq_seqN ?_
   conv => whnf
   (repeat ((first | apply k1 | apply k2 | apply k3 | apply k4 | refine k5 (by decide) ?_ | refine k6 (by decide) ?_); conv => whnf))
   obtain ⟨Lo, hLo⟩ : ∃ Lo, Lo = outL (outR (runM M1 s1 mo)) := ⟨_, rfl⟩
   have hLol : (Lo.map CV.v).length = 32 := by rw [hLo]; rfl
   refine satq_seqN ?_
   conv => whnf
   refine call_agrees 0 1792 7 8 9 10 s1 M1 mo bl L hbl hL (fun i hi => ?_) hs1o (by omega) hM1 (by omega) rfl rfl rfl (by omega) fun s' M' hs' hs'' hM' => ?_
   ·rw [Nat.zero_add]
    rcases (by omega : i = 0 ∨ i = 1 ∨ i = 2 ∨ i = 3 ∨ i = 4 ∨ i = 5 ∨ i = 6) with rfl | rfl | rfl | rfl | rfl | rfl | rfl <;> rfl
   rw [← hLo]
   obtain ⟨L2, hL2⟩ : ∃ L2, L2 = stL s' [] := ⟨_, rfl⟩
   rw [← hL2]
   have hLo1 : ∀ S, onesL S (Lo.map CV.v) = true := fun S => hLo ▸ onesL_out S _
   obtain ⟨lv, hlv⟩ : ∃ lv, (Lo.map CV.v)[0]? = some (.v (.bool lv)) := ⟨(runM M1 s1 mo).leaves, by rw [hLo]; rfl⟩
   conv => whnf
   erw [beq_len hLol]
   conv => whnf
   erw [hLo1]
   conv => whnf
   erw [hLol]
   conv => whnf
   refine satq_as (f' := [(5, one (ptrV b5)), (7, one (.bool true)), (8, .p (.c (.ref 0 0))), (9, one (intV (j : Int))), (12, one (.bool true)), (13, .p (.c (.ref 11 0)))]) (S' := cpuU 0 L2 1792 7 M' ++ (.cells blT [.row 8, .row 9, .row 10] :: (blkRows bl ++ ([.cells 55 (Lo.map .v)] : List Ow)))) (ent_same rfl (aI rfl (aI rfl (aI rfl (aI rfl (aI rfl (aI rfl trivial)))))) (aI (aI rfl (Or.inl rfl)) (aI (aI rfl (Or.inl rfl)) (aI (aI rfl (Or.inl rfl)) (aI (aI rfl (Or.inl rfl)) (aI (aI rfl (Or.inl rfl)) (aI (aI rfl (Or.inl rfl)) (aI (aI rfl (Or.inl rfl)) (aI (aI rfl (Or.inl rfl)) (aI ((aI rfl (aI rfl (aI rfl rfl)))) (aI ((aI rfl (aI rfl (aI rfl rfl)))) (aI ((aI rfl (aI rfl (aI rfl rfl)))) (aI ((aI rfl (Or.inl (setAll_same (show (List.map CV.v (outL ⟨false, 0, 0, 0, List.replicate 28 0⟩)).length = (Lo.map CV.v).length from hLol.symm))))) trivial))))))))))))) ?_
   refine satq_seqN ?_
   conv => whnf
   (repeat ((first | apply k1 | apply k2 | apply k3 | apply k4 | refine k5 (by decide) ?_ | refine k6 (by decide) ?_); conv => whnf))
   refine satq_vcN ?_
   conv => whnf
   erw [hlv]
   conv => whnf
   refine ⟨fun hc => ?_, fun hc => ?_⟩
   ·conv => whnf
    refine atq_thru (by decide) (atq_pass (by simp) (atq_out (atq_exit ?_)))
    exact (atq_mid (s', M') (ent_drop (aI rfl trivial) (aI ((aI rfl (Or.inl (by rw [hL2])))) (aI (aI rfl (Or.inl rfl)) (aI (aI rfl (Or.inl rfl)) (aI (aI rfl (Or.inl rfl)) (aI (aI rfl (Or.inl rfl)) (aI (aI rfl (Or.inl rfl)) (aI (aI rfl (Or.inl rfl)) trivial))))))) rfl (cpu_grpG g g1 g2 g3 g4 g5 g6 (stL s' []) 1792 7 M')))
   ·conv => whnf
    refine atq_block (atq_on ?_)
    refine satq_vcN ?_
    conv => whnf
    refine ⟨(j : Int) + 1, wr64 (by omega), ?_⟩
    conv => whnf
    exact atq_next ⟨(j + 1, s', M'), by show j + 1 ≤ 12; omega, hs', by show s'.steps < 1000 + 64 * ((j + 1 : Nat) : Int); omega, hM'⟩ (ent_drop (aI rfl (aI rfl (aI rfl (aI rfl trivial)))) (aI ((aI rfl (Or.inl (by rw [hL2])))) (aI (aI rfl (Or.inl rfl)) (aI (aI rfl (Or.inl rfl)) (aI (aI rfl (Or.inl rfl)) (aI (aI rfl (Or.inl rfl)) (aI (aI rfl (Or.inl rfl)) (aI (aI rfl (Or.inl rfl)) trivial))))))) rfl (cpu_grpG g g1 g2 g3 g4 g5 g6 (stL s' []) 1792 7 M')) (by show 12 - (j + 1) < 12 - j; omega)
  ·conv => whnf
   exact atq_out (atq_exit (atq_mid (s1, M1) (ent_same rfl (aI rfl trivial) (aI ((aI rfl (Or.inl (by rw [hL])))) (aI (aI rfl (Or.inl rfl)) (aI (aI rfl (Or.inl rfl)) (aI (aI rfl (Or.inl rfl)) (aI (aI rfl (Or.inl rfl)) (aI (aI rfl (Or.inl rfl)) (aI (aI rfl (Or.inl rfl)) trivial))))))))))
 refine satq_vcN ?_
 conv => whnf
 refine atq_ret ?_
 conv => whnf
 exact fin_grown rfl fun w4 hG => ⟨rfl, below_grown hB hn2 hG⟩
end Go.Proofs.YtnhdcclpjildjaaGreat
namespace Go.Proofs.YtnhdcclpjildjaaGreat
open Go.ChangeShapes Go.WideShapes Go.ChangeAt Go.RowKit

set_option maxRecDepth 100000 in
theorem qliftRuns_lifted (os : Os) (started : os.Started) (H : Type) (enc : TypeId × Value → H) :
  ReturnsInHanded {} Tryz.checked os 6 .any (Rows.qliftRunsSpec.pre6 enc Tryz.prog Tryz.f6 Rows.qliftRunsRow.domain false) (Rows.qliftRunsSpec.post enc Tryz.prog Tryz.f6 false true false false) := by
 refine returnsInHanded_of_change (C := Tryz.checked) ownK started (by kernel_rfl) Tryz.func6
  (ChangeSpec.witness6 (enc := enc) (C := Tryz.checked) false ⟨#[], #[.slice none 0 0, .agg #[.int .i64 0, .int .i64 0, .int .i64 0, .int .i64 0], .agg #[.int .i64 0, .int .i64 0]], []⟩ 8 (by kernel_rfl) (by kernel_rfl) (by kernel_rfl) (by kernel_rfl)) ?_
 intro W base args ds gs before hval0 hW hcnd _
 have hval : ∀ (j : Nat) t v, Tryz.f6.params[j]? = some t → args[j]? = some v → Value.okWide Tryz.prog W .any base t v := hval0
 have hW' := hW
 obtain ⟨p, q, hA0, hV, rfl, hfz, hnd⟩ := hW
 have hA : DataW.TrodAll enc Tryz.prog W 0 (fun _ => true) true Tryz.f6.params.toList args.toList ds p := hA0
 rw [Tryz.params6] at hA hval
 obtain ⟨v0, vs0, d0, ds0, p0, q0, hargs, rfl, rfl, h0, r0⟩ := trodAll_cons hA
 obtain ⟨v1, vs1, d1, ds1, p1, q1, rfl, rfl, rfl, h1, r1⟩ := trodAll_cons r0
 obtain ⟨v2, vs2, d2, ds2, p2, q2, rfl, rfl, rfl, h2, r2⟩ := trodAll_cons r1
 obtain ⟨rfl, rfl, rfl⟩ := trodAll_nil r2
 obtain rfl : args = #[v0, v1, v2] := by cases args; simp_all
 obtain ⟨rfl, rfl⟩ := trodVars_none hV
 clear hA0
 obtain ⟨a0, l0, c0, rfl⟩ := okWide_slice Tryz.underlying22 (hval 0 22 v0 rfl rfl)
 obtain ⟨hA0, hn0⟩ := open_prog h0
 obtain ⟨y10, y11, y12, y13, rfl, _⟩ := open_n4 (hval 1 23 v1 rfl rfl) h1
 obtain ⟨y20, y21, rfl, _⟩ := open_q2 (hval 2 24 v2 rfl rfl) h2
 have k0 := h0
 have k1 := h1
 have k2 := h2
 have lt0 : ∀ x ∈ p0, x.block < W.heap.size := by obtain ⟨m, hm⟩ := k0; exact DataW.trod_lt m _ _ _ hm
 have lt1 : ∀ x ∈ p1, x.block < W.heap.size := by obtain ⟨m, hm⟩ := k1; exact DataW.trod_lt m _ _ _ hm
 have lt2 : ∀ x ∈ p2, x.block < W.heap.size := by obtain ⟨m, hm⟩ := k2; exact DataW.trod_lt m _ _ _ hm
 clear hval0
 refine (runs_law a0 l0 c0 y10 y11 y12 y13 y20 y21 hn0 W hA0).mono fun e W' ⟨he, bel⟩ => ?_
 subst he
 exact ⟨_, rfl, _, _, _, [], _, [], hW', trodAll_mk1 (shut_bool Tryz.underlying4 _), (trodAll_cons_mk (Below.trod laidOutP (by kernel_rfl) (of_decide_eq_true (by kernel_rfl)) k0 bel lt0) (trodAll_cons_mk (Below.trod laidOutP (by kernel_rfl) (of_decide_eq_true (by kernel_rfl)) k1 bel lt1) (trodAll_cons_mk (Below.trod laidOutP (by kernel_rfl) (of_decide_eq_true (by kernel_rfl)) k2 bel lt2) trodAll_mk0))), rfl, bel.frame _, fun h => by cases h⟩
theorem qliftRuns_holds : Rows.QliftRunsSaid :=
 OpenClaim.holds_of_wide 6 Tryz.f6 rfl rfl rfl rfl rfl rfl rfl ⟨rfl, rfl, rfl, rfl, rfl⟩ rfl rfl rfl rfl rfl (by kernel_rfl) Tryz.func6 (by kernel_rfl)
  (of_decide_eq_true (by kernel_rfl)) (by unfold Func.isWrapper; first | (rw [if_pos (by decide +kernel)]; kernel_rfl) | (rw [if_neg (by decide +kernel)]; exact ⟨rfl, rfl⟩))
  (fun os started H enc _ => qliftRuns_lifted os started H enc)
end Go.Proofs.YtnhdcclpjildjaaGreat
#print axioms Go.Proofs.YtnhdcclpjildjaaGreat.qliftRuns_holds
