/- The law QliftStops. -/
import Derived.Test.YtnhdcclpjildjaaGreatMStopsH
namespace Go.Proofs.YtnhdcclpjildjaaGreat
open Go.RowKit

abbrev at3 : List CV := [.v (u32V 256), .v (u32V 256), .v (u32V 256)]
abbrev l3U (L1 L2 L3 : List Value) (M1 M2 M3 : MemP) : List Ow := cpuU 0 L1 1536 6 M1 ++ (cpuU 7 L2 1536 6 M2 ++ (cpuU 14 L3 1536 6 M3 ++ ([.cells 48 at3] : List Ow)))
theorem bnd_cpu (N k : Nat) (h : k < N) (us : List Value) : bndL N (us.map .v ++ [.ref k 0]) = true := by
 induction us with
 | nil => show (match Nat.blt k N with | true => true | false => false) = true; rw [show Nat.blt k N = true from Nat.ble_eq_true_of_le h]
 | cons u us ih => simpa only [List.map_cons, List.cons_append, bndL, CV.bnd] using ih
theorem l3_bnd (L1 L2 L3 : List Value) (M1 M2 M3 : MemP) : sbnd 22 (l3U L1 L2 L3 M1 M2 M3) = true := by
 have h1 := bnd_cpu 22 1 (by decide) L1
 have h2 := bnd_cpu 22 8 (by decide) L2
 have h3 := bnd_cpu 22 15 (by decide) L3
 show sbnd 22 [_, _, _, _, _, _, _, _, _, _, _, _, _, _, _, _, _, _, _, _, _, _] = true
 simp only [sbnd, Ow.bnd, bndL_vals, bndL, CV.bnd, h1, h2, h3]
 rfl
abbrev l3T (L1 L2 L3 : List Value) (M1 M2 M3 : MemP) : List Ow := cpuU 0 L1 1536 6 M1 ++ (cpuU 7 L2 1536 6 M2 ++ (cpuU 14 L3 1536 6 M3 ++ ([.cells 48 at3, .cells 26 [.ref 0 0, .ref 7 0, .ref 14 0]] : List Ow)))
theorem l3_grp (L1 L2 L3 : List Value) (M1 M2 M3 : MemP) : grpOk Gs.nil (l3U L1 L2 L3 M1 M2 M3) = true := l3_bnd L1 L2 L3 M1 M2 M3
theorem ren_cpu (σ : Nat → Nat) (us : List Value) {i j : Nat} (h : σ i = j) : renL σ (us.map CV.v ++ [.ref i 0]) = us.map CV.v ++ [.ref j 0] := by
 induction us with
 | nil => show [CV.ref (σ i) 0] = _; rw [h]; rfl
 | cons u us ih => simp only [List.map_cons, List.cons_append, renL, CV.ren, ih]
theorem call_evalNil {w0 : World} {S : List Ow} {K : AV → List Ow → Prop} (i1 i2 i3 : Nat) (b : Blk) (y : Int) (vs : List Int) (hvs : VarsOk vs) (hb : b.ok) (hv : validB b = true) (hops : b.ops = [opMark0, opSlow0]) (hat : b.at_ = [y]) (h1 : S[i1]? = some (.row 35 1 b.at_.length (b.at_.map (.int .u32)))) (h2 : S[i2]? = some (.row 3 1 b.pages.length (b.pages.map (.int .i64)))) (h3 : S[i3]? = some (.row 45 5 b.ops.length (b.ops.flatMap opC))) (hK : K (AV.of (outV ⟨true, 0, 0, y, guestsL vs⟩)) S) : CallS Tryz.prog w0 Gs.nil 29 [.p (.agg [.row i1, .row i2, .row i3]), .p (.agg (varsC vs)), one (.pointer none)] S K := by
 refine callS_val (outV ⟨true, 0, 0, y, guestsL vs⟩) (by kernel_rfl) (fun r w us hR hd => ?_) hK
 obtain ⟨u, l, rfl, d1, d2⟩ := hd
 obtain ⟨us, rfl, hl⟩ := den_agg d1
 simp only [denL, CV.den] at hl
 obtain ⟨u1, l1, rfl, k1, u2, l2, rfl, k2, u3, l3, rfl, k3, rfl⟩ := hl
 obtain rfl := avals_den (by simp only [avals, AV.val, Pc.val, valL_vals, CV.val]; rfl) d2
 obtain ⟨A1, c1, rfl, s1, _⟩ := hR.rowAt h1 k1
 obtain ⟨A2, c2, rfl, s2, _⟩ := hR.rowAt h2 k2
 obtain ⟨A3, c3, rfl, s3, _⟩ := hR.rowAt h3 k3
 exact eval_nil b y vs A1 A2 A3 c1 c2 c3 w hb hv hops hat hvs (fun j u hu => by obtain ⟨b, off, e1, e2, e3⟩ := s1 j u hu; exact ⟨b, off, e1, e2, by simp, e3⟩) (fun j u hu => by obtain ⟨b, off, e1, e2, e3⟩ := s2 j u hu; exact ⟨b, off, e1, e2, by simp, e3⟩) (fun j u hu => by obtain ⟨b, off, e1, e2, e3⟩ := s3 j u hu; exact ⟨b, off, e1, e2, by simp, e3⟩)

set_option maxRecDepth 100000 in
set_option maxHeartbeats 8000000 in
theorem stops_law (x k a b : Int) (hx : word x) (ha : word a) (hb : word b) (w : World) : Calls Tryz.prog 10 #[u32V x, intV k, .agg #[u32V a, u32V b]] w fun e w' => e = .returned (.bool true) ∧ Below w.heap.size w w' := by
 refine calls_satq [u32V x, intV k, .agg #[u32V a, u32V b]] Tryz.func10 Tryz.ntmps10 rfl (by simp) ?_
 refine satq_seqN ?_
 conv => whnf
 refine satq_seqN ?_
 conv => whnf
 refine call_con (x := .bool true) rfl (by kernel_rfl) (fun r w' hR => sanity14 w') ?_
 conv => whnf
 obtain ⟨j, hj⟩ : ∃ j, j = k % 7 := ⟨_, rfl⟩
 have hj7 : 0 ≤ j ∧ j < 7 := by omega
 obtain ⟨hqv, hqop, hqop2, hqi⟩ := lqI_all hj7
 obtain ⟨Ma, hMa⟩ : ∃ M, M = sinM (lqI j) := ⟨_, rfl⟩
 obtain ⟨Mz, hMz⟩ : ∃ M, M = sinM qAdd0 := ⟨_, rfl⟩
 obtain ⟨y, hy⟩ : ∃ y, y = x % 67108864 := ⟨_, rfl⟩
 have hyr : 0 ≤ y ∧ y < 67108864 := by omega
 obtain ⟨Mb, hMb⟩ : ∃ M, M = Mz.codeTo 1 (putL y) (min (putL y).length 256) := ⟨_, rfl⟩
 obtain ⟨Mc, hMc⟩ : ∃ M, M = Mz.protect 1 3 := ⟨_, rfl⟩
 have sa : Stops (sinS a b) Ma := hMa ▸ stops_c hj7
 have sb : Stops (sinS a b) Mb := by rw [hMb, hMz]; exact stops_d hyr
 have sc : Stops (sinS a b) Mc := by rw [hMc, hMz]; exact stops_e
 have hzk : Mz.ok 1536 6 := by rw [hMz]; exact sinM_ok
 obtain ⟨L, hL⟩ : ∃ L, L = stL (sinS a b) [] := ⟨_, rfl⟩
 have hLl : L.length = 24 := by rw [hL]; rfl
 refine satq_seqN ?_
 conv => whnf
 refine satq_mid (α := Unit) (fun _ => [(0, one (u32V x)), (5, .p (.c (.ref 0 0))), (7, one (.bool true)), (9, .p (.c (.ref 1 0)))]) (fun _ => .cells w2T [.v (u32V a), .v (u32V b)] :: cpuU 1 L 1536 6 Ma) ?_ fun _ => ?_
 ·refine satq_vcN ?_
  conv => whnf
  refine sat_anyG (.q 0 (.q 1 (.alt 2 (.alt 3 (.alt 4 (.alt 5 (.alt 6 (.alt 7 .done .no) .no) .no) (.alt 5 (.alt 4 (.alt 6 (.alt 7 .done .no) .no) .no) .no)) (.alt 5 (.alt 3 (.alt 4 (.alt 6 (.alt 7 .done .no) .no) .no) .no) .no)) (.alt 5 (.alt 2 (.alt 3 (.alt 4 (.alt 6 (.alt 7 .done .no) .no) .no) .no) .no) .no)))) mixed (by kernel_rfl) (by kernel_rfl) ?_
  conv => whnf
  have hbs : sbnd 8 (.cells w2T [.v (u32V a), .v (u32V b)] :: cpuU 1 L 1536 6 Ma) = true := by
   have h := bnd_cpu 8 2 (by decide) L
   show sbnd 8 [_, _, _, _, _, _, _, _] = true
   simp only [sbnd, Ow.bnd, bndL_vals, bndL, CV.bnd, h]
   rfl
  rcases (by omega : j = 0 ∨ j = 1 ∨ j = 2 ∨ j = 3 ∨ j = 4 ∨ j = 5 ∨ j = 6) with h0 | h0 | h0 | h0 | h0 | h0 | h0
  all_goals (
   repeat' (first
    | (refine call_con (x := intV j) rfl (by kernel_rfl) (fun r w' hR => hj ▸ mod_ref k 7 w' (by decide)) ?_; rw [h0]; conv => whnf)
    | (refine ⟨⟨by decide, by decide⟩, ?_⟩; conv => whnf)
    | (refine call_single (lqI j) ⟨by omega, hqop2⟩ hqi a b ha hb (by rw [h0]; rfl) ?_; rw [← hMa, ← hL]; conv => whnf)
    | (refine ⟨?_, trivial⟩; conv => whnf)
    | (refine ⟨?_, ?_, trivial⟩ <;> conv => whnf)
    | refine atq_mid () (holdE ?_)
    | fail))
  all_goals refine Or.inl (ent_ren [0, 2, 3, 4, 5, 6, 7, 8] (aI rfl (aI rfl (aI rfl (aI rfl trivial)))) ?_ rfl hbs rfl rfl rfl)
  all_goals exact (aI ((Exists.intro _ (aI rfl sM))) (aI ((Exists.intro _ (aI rfl (aI rfl (Or.inl (ren_cpu _ _ (by rfl)).symm))))) (aI ((Exists.intro _ (aI rfl sM))) (aI ((Exists.intro _ (aI rfl (aI rfl (Or.inl (renL_vals _ _).symm))))) (aI ((Exists.intro _ (aI rfl (aI rfl (Or.inl (renL_vals _ _).symm))))) (aI ((Exists.intro _ (aI rfl (aI rfl (Or.inl (renL_vals _ _).symm))))) (aI ((Exists.intro _ (aI rfl (aI rfl (Or.inl (renL_vals _ _).symm))))) (aI ((Exists.intro _ (aI rfl (aI rfl (Or.inl (renL_vals _ _).symm))))) trivial))))))))
 refine satq_seqN ?_
 conv => whnf
 refine call_single qAdd0 (by decide) (by unfold word; decide) a b ha hb rfl ?_
 rw [← hMz, ← hL]
 conv => whnf

 have hmb : ∀ i, i < 6 → (.cells w2T [.v (u32V a), .v (u32V b)] :: (cpuU 1 L 1536 6 Ma ++ cpuU 8 L 1536 6 Mz))[9 + i]? = (memS 9 1536 6 Mz)[i]? := fun i hi => by
  rcases (by omega : i = 0 ∨ i = 1 ∨ i = 2 ∨ i = 3 ∨ i = 4 ∨ i = 5) with rfl | rfl | rfl | rfl | rfl | rfl <;> rfl
 have hmc : ∀ i, i < 6 → (.cells w2T [.v (u32V a), .v (u32V b)] :: (cpuU 1 L 1536 6 Ma ++ (cpuU 8 L 1536 6 Mb ++ cpuU 15 L 1536 6 Mz)))[16 + i]? = (memS 16 1536 6 Mz)[i]? := fun i hi => by
  rcases (by omega : i = 0 ∨ i = 1 ∨ i = 2 ∨ i = 3 ∨ i = 4 ∨ i = 5) with rfl | rfl | rfl | rfl | rfl | rfl <;> rfl
 refine satq_mid (α := Unit) (fun _ => [(0, one (u32V x)), (5, .p (.c (.ref 0 0))), (7, one (.bool true)), (9, .p (.c (.ref 1 0))), (10, .p (.c (.ref 8 0)))]) (fun _ => .cells w2T [.v (u32V a), .v (u32V b)] :: (cpuU 1 L 1536 6 Ma ++ cpuU 8 L 1536 6 Mb)) ?_ fun _ => ?_
 ·refine satq_vcN ?_
  conv => whnf
  refine sat_anyG (.q 0 (.q 1 (.q 2 (.q 4 (.q 5 (.alt 3 (.alt 6 (.alt 7 .done .no) .no) (.alt 6 (.alt 3 (.alt 7 .done .no) .no) .no))))))) mixed (by kernel_rfl) (by kernel_rfl) ?_
  conv => whnf
  refine ⟨by decide, y, (Int.tmod_eq_emod_of_nonneg hx.1).trans hy.symm, ?_⟩
  conv => whnf
  have hMat : ∀ X : List CV, (L.map CV.v ++ X)[24 + 0]? = X[0]? := fun X => cpu_at hLl X 0
  repeat' (first
   | exact atq_mid () (ent_same rfl (aI rfl (aI rfl (aI rfl (aI rfl (aI rfl trivial))))) (aI sM (aI sM (aI sM (aI sM (aI sM (aI sM (aI sM (aI sM (aI sM (aI sM (aI sM (aI sM (aI sM (aI sM (aI sM trivial))))))))))))))))
   | (refine call_con (x := strV (putL y)) rfl (by kernel_rfl) (fun r w' hR => put_walk y w' (by unfold word; omega)) ?_; conv => whnf)
   | (refine call_memW (pre := []) (suf := [one (intV 1), one (strV (putL y))]) 9 1536 6 Mz Mb (.tuple #[]) hmb rfl rfl (by kernel_rfl) (fun w g gs hk hU => by rw [hMb]; exact mem_setCode Mz 1536 6 1 (putL y) w g gs hU hzk (by decide) (putTo_bytes _ _) (by rw [show (putL y).length = 4 from putTo_length _ _]; decide)) ?_; conv => whnf)
   | (erw [hMat [.ref (8 + 1) 0]]; conv => whnf)
   | (refine ⟨?_, trivial⟩; conv => whnf)
   | (refine ⟨?_, ?_, trivial⟩ <;> conv => whnf))
 refine satq_seqN ?_
 conv => whnf
 refine call_single qAdd0 (by decide) (by unfold word; decide) a b ha hb rfl ?_
 rw [← hMz, ← hL]
 conv => whnf
 refine satq_seqN ?_
 conv => whnf
 erw [cpu_at hLl [.ref (15 + 1) 0] 0]
 conv => whnf
 refine call_memW (pre := []) (suf := [one (intV 1), one (intV 3)]) 16 1536 6 Mz Mc (.tuple #[]) hmc rfl rfl (by kernel_rfl) (fun w g gs hk hU => by rw [hMc]; exact mem_protect Mz 1536 6 1 3 w g gs hU hzk (by decide) (by decide) (by decide)) ?_
 conv => whnf
 refine satq_mid (α := Unit) (fun _ => [(0, one (u32V x)), (7, one (.bool true)), (9, .p (.c (.ref 0 0))), (10, .p (.c (.ref 7 0))), (11, .p (.c (.ref 14 0))), (12, .p (.c (.ref 21 0)))]) (fun _ => l3U L L L Ma Mb Mc) ?_ fun _ => ?_
 ·refine satq_vcN ?_
  conv => whnf
  refine atq_mid () (ent_ren [1, 2, 3, 4, 5, 6, 7, 8, 9, 10, 11, 12, 13, 14, 15, 16, 17, 18, 19, 20, 21, 22] (aI rfl (aI rfl (aI rfl (aI rfl (aI rfl (aI rfl trivial)))))) ?_ rfl (l3_bnd L L L Ma Mb Mc) rfl rfl rfl)
  exact (aI ((Exists.intro _ (aI rfl (aI rfl (Or.inl (ren_cpu _ _ (by rfl)).symm))))) (aI ((Exists.intro _ (aI rfl sM))) (aI ((Exists.intro _ (aI rfl (aI rfl (Or.inl (renL_vals _ _).symm))))) (aI ((Exists.intro _ (aI rfl (aI rfl (Or.inl (renL_vals _ _).symm))))) (aI ((Exists.intro _ (aI rfl (aI rfl (Or.inl (renL_vals _ _).symm))))) (aI ((Exists.intro _ (aI rfl (aI rfl (Or.inl (renL_vals _ _).symm))))) (aI ((Exists.intro _ (aI rfl (aI rfl (Or.inl (renL_vals _ _).symm))))) (aI ((Exists.intro _ (aI rfl (aI rfl (Or.inl (ren_cpu _ _ (by rfl)).symm))))) (aI ((Exists.intro _ (aI rfl sM))) (aI ((Exists.intro _ (aI rfl (aI rfl (Or.inl (renL_vals _ _).symm))))) (aI ((Exists.intro _ (aI rfl (aI rfl (Or.inl (renL_vals _ _).symm))))) (aI ((Exists.intro _ (aI rfl (aI rfl (Or.inl (renL_vals _ _).symm))))) (aI ((Exists.intro _ (aI rfl (aI rfl (Or.inl (renL_vals _ _).symm))))) (aI ((Exists.intro _ (aI rfl (aI rfl (Or.inl (renL_vals _ _).symm))))) (aI ((Exists.intro _ (aI rfl (aI rfl (Or.inl (ren_cpu _ _ (by rfl)).symm))))) (aI ((Exists.intro _ (aI rfl sM))) (aI ((Exists.intro _ (aI rfl (aI rfl (Or.inl (renL_vals _ _).symm))))) (aI ((Exists.intro _ (aI rfl (aI rfl (Or.inl (renL_vals _ _).symm))))) (aI ((Exists.intro _ (aI rfl (aI rfl (Or.inl (renL_vals _ _).symm))))) (aI ((Exists.intro _ (aI rfl (aI rfl (Or.inl (renL_vals _ _).symm))))) (aI ((Exists.intro _ (aI rfl (aI rfl (Or.inl (renL_vals _ _).symm))))) (aI ((Exists.intro _ (aI rfl sM))) trivial))))))))))))))))))))))

 have hu24 : ∀ (us : List Value), us.length = 24 → ∀ u : Value, (us ++ [u])[24]? = some u := fun us h u => by rw [List.getElem?_append_right (by omega), h]; rfl
 refine satq_mid (α := { c : St × MemP // c.2.ok 1536 6 }) (fun _ => [(0, one (u32V x)), (7, one (.bool true)), (9, .p (.c (.ref 0 0)))]) (fun c => cpuU 0 (stL c.1.1 []) 1536 6 c.1.2) ?_ fun c => ?_
 ·refine satq_seqN ?_
  conv => whnf
  refine satq_block ?_
  refine satq_loop (α := { z : Nat × (St × MemP) × (St × MemP) × (St × MemP) // z.1 ≤ 3 ∧ z.2.1.2.ok 1536 6 ∧ z.2.2.1.2.ok 1536 6 ∧ z.2.2.2.2.ok 1536 6 ∧ (z.1 ≤ 0 → Stops z.2.1.1 z.2.1.2) ∧ (z.1 ≤ 1 → Stops z.2.2.1.1 z.2.2.1.2) ∧ (z.1 ≤ 2 → Stops z.2.2.2.1 z.2.2.2.2) }) (fun z => [(0, one (u32V x)), (7, one (.bool true)), (9, .p (.c (.ref 0 0))), (10, .p (.c (.ref 7 0))), (11, .p (.c (.ref 14 0))), (12, .p (.c (.ref 21 0))), (13, one (intV (z.1.1 : Int)))]) (fun z => l3U (stL z.1.2.1.1 []) (stL z.1.2.2.1.1 []) (stL z.1.2.2.2.1 []) z.1.2.1.2 z.1.2.2.1.2 z.1.2.2.2.2) (fun z => 3 - z.1.1)
   ⟨(0, (sinS a b, Ma), (sinS a b, Mb), (sinS a b, Mc)), by show 0 ≤ 3; decide, sa.mem, sb.mem, sc.mem, fun _ => sa, fun _ => sb, fun _ => sc⟩ (ent_same rfl (aI rfl (aI rfl (aI rfl (aI rfl (aI rfl (aI rfl (aI rfl trivial))))))) (aI ((aI rfl (Or.inl (by rw [hL])))) (aI sM (aI sM (aI sM (aI sM (aI sM (aI sM (aI ((aI rfl (Or.inl (by rw [hL])))) (aI sM (aI sM (aI sM (aI sM (aI sM (aI sM (aI ((aI rfl (Or.inl (by rw [hL])))) (aI sM (aI sM (aI sM (aI sM (aI sM (aI sM (aI sM trivial))))))))))))))))))))))) fun z => ?_
  clear sa sb sc hMa hMb hMc hMz hzk hj hj7 hqv hqop hqop2 hqi hL hLl
  obtain ⟨⟨j, ⟨s1, M1⟩, ⟨s2, M2⟩, ⟨s3, M3⟩⟩, hj3, hm1, hm2, hm3, h1, h2, h3⟩ := z
  dsimp only at hj3 hm1 hm2 hm3 h1 h2 h3 ⊢
  obtain ⟨L1, hL1⟩ : ∃ L, L = stL s1 [] := ⟨_, rfl⟩
  obtain ⟨L2, hL2⟩ : ∃ L, L = stL s2 [] := ⟨_, rfl⟩
  obtain ⟨L3, hL3⟩ : ∃ L, L = stL s3 [] := ⟨_, rfl⟩
  have hL1l : L1.length = 24 := by rw [hL1]; rfl
  have hL2l : L2.length = 24 := by rw [hL2]; rfl
  have hL3l : L3.length = 24 := by rw [hL3]; rfl
  rw [← hL1, ← hL2, ← hL3]
  rcases (by omega : j = 0 ∨ j = 1 ∨ j = 2 ∨ j = 3) with rfl | rfl | rfl | rfl

  ·have hstop : Stops s1 M1 := h1 (Nat.le_refl _)
   obtain ⟨hr1, hr2, hr3⟩ := hstop.run 9
   have hMk : M1.ok 1536 6 := hstop.mem
   have hpc := hstop.pc
   obtain ⟨bl, hbl⟩ : ∃ bl, bl = liftM M1 s1.pc 9 := ⟨_, rfl⟩
   rw [← hbl] at hr3
   have hb2 := hbl
   rw [hpc] at hb2
   refine satq_seqN ?_
   conv => whnf
   (repeat ((first | apply k1 | apply k2 | apply k3 | apply k4 | refine k5 (by decide) ?_ | refine k6 (by decide) ?_); conv => whnf))
   refine satq_in (satq_block ?_)
   refine satq_seqN ?_
   conv => whnf
   (refine ⟨⟨by omega, by omega⟩, ?_⟩; (conv=>whnf))
   refine satq_as (f' := [(0, one (u32V x)), (7, one (.bool true)), (9, .p (.c (.ref 0 0))), (10, .p (.c (.ref 7 0))), (11, .p (.c (.ref 14 0))), (12, .p (.c (.ref 21 0))), (13, one (intV ((0 : Nat) : Int))), (14, .p (.c (.ref 0 0)))]) (S' := l3T L1 L2 L3 M1 M2 M3) (ent_same rfl (aI rfl (aI rfl (aI rfl (aI rfl (aI rfl (aI rfl (aI rfl (aI rfl trivial)))))))) (aI sM (aI sM (aI sM (aI sM (aI sM (aI sM (aI sM (aI sM (aI sM (aI sM (aI sM (aI sM (aI sM (aI sM (aI sM (aI sM (aI sM (aI sM (aI sM (aI sM (aI sM (aI sM (aI sM trivial)))))))))))))))))))))))) ?_
   refine satq_plain (α := Unit) (fun _ => [(0, one (u32V x)), (7, one (.bool true)), (9, .p (.c (.ref 0 0))), (10, .p (.c (.ref 7 0))), (11, .p (.c (.ref 14 0))), (12, .p (.c (.ref 21 0))), (13, one (intV ((0 : Nat) : Int))), (14, .p (.c (.ref 0 0))), (15, .p (.c (.ref 23 0))), (16, one (.bool true))]) (fun _ => .cells blT [.row 1, .row 2, .row 3] :: blkRows bl) (fun r w3 hR3 => ?_) fun _ => ?_
   ·obtain ⟨g', qs', hg', hO'⟩ := hR3.objsAt 0 (cpuU 0 L1 1536 6 M1) (cpuU 0 L1 1536 6 M1) (by simp) (fun i hi => by rcases (by have : i < 7 := hi; omega : i = 0 ∨ i = 1 ∨ i = 2 ∨ i = 3 ∨ i = 4 ∨ i = 5 ∨ i = 6) with rfl | rfl | rfl | rfl | rfl | rfl | rfl <;> rfl) (cpuU_sh 0 L1 1536 6 M1) (cpuU_ob L1 1536 6 M1)
    obtain ⟨h1', qs, hg, hO⟩ := cpu_plain hO'
    obtain ⟨bc, _, hbc, _⟩ := hR3.own 0 _ rfl
    obtain ⟨bd, _, hbd, _⟩ := hR3.own 7 _ rfl
    obtain ⟨be, _, hbe, _⟩ := hR3.own 14 _ rfl
    obtain ⟨ba, va, hba, hba1, hba2⟩ := hR3.own 21 _ rfl
    have hva := denL_vals_inv (us := [u32V 256, u32V 256, u32V 256]) hba2
    rw [hva] at hba1
    refine ⟨[(0, one (u32V x)), (7, one (.bool true)), (9, one (ptrV bc)), (10, one (ptrV bd)), (11, one (ptrV be)), (12, one (ptrV ba)), (13, one (intV ((0 : Nat) : Int))), (14, one (ptrV g'))], fun _ => [(0, one (u32V x)), (7, one (.bool true)), (9, one (ptrV bc)), (10, one (ptrV bd)), (11, one (ptrV be)), (12, one (ptrV ba)), (13, one (intV ((0 : Nat) : Int))), (14, one (ptrV g')), (15, .p (.c (.ref 0 0))), (16, one (.bool true))], fun a hf => frDen ⟨slot_same hf 0 rfl, slot_same hf 7 rfl, slot_plain hf 9 rfl hbc, slot_plain hf 10 rfl hbd, slot_plain hf 11 rfl hbe, slot_plain hf 12 rfl hba, slot_same hf 13 rfl, slot_plain hf 14 rfl hg', trivial⟩, fun _ a s hf => frDen ⟨slot_same hf 0 rfl, slot_same hf 7 rfl, slot_back hf 9 hbc (by show 0 < 23; omega) rfl, slot_back hf 10 hbd (by show 7 < 23; omega) rfl, slot_back hf 11 hbe (by show 14 < 23; omega) rfl, slot_back hf 12 hba (by show 21 < 23; omega) rfl, slot_same hf 13 rfl, slot_back hf 14 hg' (by show 0 < 23; omega) rfl, slot_up (c := .ref 0 0) hf 15 rfl, slot_same hf 16 rfl, trivial⟩, ?_⟩
    refine satq_vcN ?_
    conv => whnf
    refine sat_anyG (.q 0 (.q 1 (.q 2 (.q 3 (.q 4 (.q 5 (.q 6 (.alt 7 (.q 8 (.alt 9 (.alt 10 (.alt 11 (.alt 12 (.alt 13 .done .no) .no) .no) (.alt 11 (.alt 10 (.alt 12 (.alt 13 .done .no) .no) (.alt 12 (.alt 10 (.alt 13 .done .no) .no) .no)) .no)) (.alt 10 (.alt 9 (.alt 11 (.alt 12 (.alt 13 .done .no) .no) .no) (.alt 11 (.alt 9 (.alt 12 (.alt 13 .done .no) .no) .no) .no)) (.alt 11 (.alt 9 (.alt 10 (.alt 12 (.alt 13 .done .no) .no) (.alt 12 (.alt 10 (.alt 13 .done .no) .no) .no)) (.alt 10 (.alt 9 (.alt 12 (.alt 13 .done .no) .no) .no) .no)) .no)))) (.alt 11 (.alt 7 (.q 8 (.alt 9 (.alt 10 (.alt 12 (.alt 13 .done .no) .no) (.alt 12 (.alt 10 (.alt 13 .done .no) .no) .no)) (.alt 10 (.alt 9 (.alt 12 (.alt 13 .done .no) .no) .no) .no))) .no) .no))))))))) mixed (by kernel_rfl) (by kernel_rfl) ?_
    conv => whnf
    refine q_index_ptr (size := 1) ba 0 3 0 rfl rfl rfl rfl rfl rfl (by decide) (by decide) ?_
    conv => whnf
    refine ⟨u32V 256, block_cells (off := 0) (us := [u32V 256, u32V 256, u32V 256]) hba1 rfl, ?_⟩
    conv => whnf
    refine ⟨_, block_cells (off := 24) hg (hu24 L1 hL1l _), ?_⟩
    conv => whnf
    repeat' (first
     | (refine call_liftedP 256 9 hO hMk (by decide) (by unfold word; decide) ?_; rw [← hb2]; conv => whnf)
     | (refine ⟨?_, trivial⟩; conv => whnf)
     | (refine ⟨?_, ?_, trivial⟩ <;> conv => whnf)
     | (refine ⟨?_, ?_, ?_, trivial⟩ <;> conv => whnf)
     | refine atq_mid () (holdE ?_)
     | fail)
    all_goals first
     | exact Or.inl (ent_same rfl (aI rfl (aI rfl (aI rfl (aI rfl (aI rfl (aI rfl (aI rfl (aI rfl (aI rfl (aI rfl trivial)))))))))) (aI sM (aI ((aI rfl (aI rfl (aI rfl rfl)))) (aI ((aI rfl (aI rfl (aI rfl rfl)))) (aI ((aI rfl (aI rfl (aI rfl rfl)))) trivial)))))
     | exact Or.inl (ent_ren [3, 0, 1, 2] (aI rfl (aI rfl (aI rfl (aI rfl (aI rfl (aI rfl (aI rfl (aI rfl (aI rfl (aI rfl trivial)))))))))) (aI ((Exists.intro _ (aI rfl sM))) (aI ((Exists.intro _ (aI rfl (aI rfl (aI rfl (aI rfl rfl)))))) (aI ((Exists.intro _ (aI rfl (aI rfl (aI rfl (aI rfl rfl)))))) (aI ((Exists.intro _ (aI rfl (aI rfl (aI rfl (aI rfl rfl)))))) trivial)))) rfl rfl rfl rfl rfl)
     | fail
   refine satq_as (f' := [(0, one (u32V x)), (7, one (.bool true)), (9, .p (.c (.ref 0 0))), (10, .p (.c (.ref 7 0))), (11, .p (.c (.ref 14 0))), (12, .p (.c (.ref 21 0))), (13, one (intV ((0 : Nat) : Int))), (14, .p (.c (.ref 0 0))), (15, .p (.c (.ref 23 0))), (16, one (.bool true))]) (S' := l3T L1 L2 L3 M1 M2 M3 ++ (.cells blT [.row 24, .row 25, .row 26] :: blkRows bl)) (ent_same rfl (aI rfl (aI rfl (aI rfl (aI rfl (aI rfl (aI rfl (aI rfl (aI rfl (aI rfl (aI rfl trivial)))))))))) (aI sM (aI sM (aI sM (aI sM (aI sM (aI sM (aI sM (aI sM (aI sM (aI sM (aI sM (aI sM (aI sM (aI sM (aI sM (aI sM (aI sM (aI sM (aI sM (aI sM (aI sM (aI sM (aI sM (aI sM (aI ((aI rfl (aI rfl (aI rfl rfl)))) (aI ((aI rfl (aI rfl (aI rfl rfl)))) (aI ((aI rfl (aI rfl (aI rfl rfl)))) trivial)))))))))))))))))))))))))))) ?_
   refine satq_seqN ?_
   conv => whnf
   (repeat ((first | apply k1 | apply k2 | apply k3 | apply k4 | refine k5 (by decide) ?_ | refine k6 (by decide) ?_); conv => whnf))
   obtain ⟨Lo, hLo⟩ : ∃ Lo, Lo = outL (outR (runM M1 s1 9)) := ⟨_, rfl⟩
   have hLol : (Lo.map CV.v).length = 32 := by rw [hLo]; rfl
   refine satq_seqN ?_
   conv => whnf
   refine call_agrees 0 1536 6 24 25 26 s1 M1 9 bl L1 hbl hL1 (fun i hi => ?_) hstop.st (by rw [hstop.steps]; decide) hMk (by omega) rfl rfl rfl (by omega) fun s' M' hs' hs'' hM' => ?_
   ·rcases (by omega : i = 0 ∨ i = 1 ∨ i = 2 ∨ i = 3 ∨ i = 4 ∨ i = 5 ∨ i = 6) with rfl | rfl | rfl | rfl | rfl | rfl | rfl <;> rfl
   rw [← hLo]
   have hLo1 : ∀ S, onesL S (Lo.map CV.v) = true := fun S => hLo ▸ onesL_out S _
   have hLo0 : (Lo.map CV.v)[0]? = some (.v (.bool true)) := by rw [hLo]; show some (CV.v (.bool (runM M1 s1 9).leaves)) = _; rw [hr1]
   have hLo2 : (Lo.map CV.v)[2]? = some (.v (intV 0)) := by rw [hLo]; show some (CV.v (intV ((runM M1 s1 9).done : Int))) = _; rw [hr2]; rfl
   obtain ⟨L', hL'⟩ : ∃ L', L' = stL s' [] := ⟨_, rfl⟩
   rw [← hL']
   conv => whnf
   erw [beq_len hLol]
   conv => whnf
   erw [hLo1]
   conv => whnf
   erw [hLol]
   conv => whnf
   refine satq_as (f' := [(0, one (u32V x)), (7, one (.bool true)), (9, .p (.c (.ref 0 0))), (10, .p (.c (.ref 7 0))), (11, .p (.c (.ref 14 0))), (12, .p (.c (.ref 21 0))), (13, one (intV ((0 : Nat) : Int))), (15, .p (.c (.ref 23 0))), (17, one (.bool true)), (18, .p (.c (.ref 27 0)))]) (S' := l3T L' L2 L3 M' M2 M3 ++ (.cells blT [.row 24, .row 25, .row 26] :: (blkRows bl ++ ([.cells 55 (Lo.map .v)] : List Ow)))) (ent_same rfl (aI rfl (aI rfl (aI rfl (aI rfl (aI rfl (aI rfl (aI rfl (aI rfl (aI rfl (aI rfl trivial)))))))))) (aI sM (aI sM (aI sM (aI sM (aI sM (aI sM (aI sM (aI sM (aI sM (aI sM (aI sM (aI sM (aI sM (aI sM (aI sM (aI sM (aI sM (aI sM (aI sM (aI sM (aI sM (aI sM (aI sM (aI sM (aI ((aI rfl (aI rfl (aI rfl rfl)))) (aI ((aI rfl (aI rfl (aI rfl rfl)))) (aI ((aI rfl (aI rfl (aI rfl rfl)))) (aI ((aI rfl (Or.inl (setAll_same (show (List.map CV.v (outL ⟨false, 0, 0, 0, List.replicate 28 0⟩)).length = (Lo.map CV.v).length from hLol.symm))))) trivial))))))))))))))))))))))))))))) ?_
   refine satq_vcN ?_
   conv => whnf
   (repeat ((first | apply k1 | apply k2 | apply k3 | apply k4 | refine k5 (by decide) ?_ | refine k6 (by decide) ?_); conv => whnf))
   erw [hLo0]
   conv => whnf
   (repeat ((first | apply k1 | apply k2 | apply k3 | apply k4 | refine k5 (by decide) ?_ | refine k6 (by decide) ?_); conv => whnf))
   erw [hLo2]
   conv => whnf
   (repeat ((first | apply k1 | apply k2 | apply k3 | apply k4 | refine k5 (by decide) ?_ | refine k6 (by decide) ?_); conv => whnf))
   erw [hr3]
   conv => whnf
   (repeat ((first | apply k1 | apply k2 | apply k3 | apply k4 | refine k5 (by decide) ?_ | refine k6 (by decide) ?_); conv => whnf))
   refine atq_block (atq_on ?_)
   refine satq_vcN ?_
   conv => whnf
   refine ⟨(1 : Nat), wr64 (by omega), ?_⟩
   conv => whnf
   exact atq_next ⟨(1, (s', M'), (s2, M2), (s3, M3)), by show 1 ≤ 3; decide, hM', hm2, hm3, fun h => absurd (show 1 ≤ 0 from h) (by decide), fun _ => h2 (by omega), fun _ => h3 (by omega)⟩ (ent_drop (aI rfl (aI rfl (aI rfl (aI rfl (aI rfl (aI rfl (aI rfl trivial))))))) (aI ((aI rfl (Or.inl (by rw [hL'])))) (aI sM (aI sM (aI sM (aI sM (aI sM (aI sM (aI ((aI rfl (Or.inl (by rw [hL2])))) (aI sM (aI sM (aI sM (aI sM (aI sM (aI sM (aI ((aI rfl (Or.inl (by rw [hL3])))) (aI sM (aI sM (aI sM (aI sM (aI sM (aI sM (aI sM trivial)))))))))))))))))))))) rfl (l3_grp _ _ _ _ _ _)) (by show 3 - 1 < 3 - 0; omega)

  ·have hstop : Stops s2 M2 := h2 (Nat.le_refl _)
   obtain ⟨hr1, hr2, hr3⟩ := hstop.run 9
   have hMk : M2.ok 1536 6 := hstop.mem
   have hpc := hstop.pc
   obtain ⟨bl, hbl⟩ : ∃ bl, bl = liftM M2 s2.pc 9 := ⟨_, rfl⟩
   rw [← hbl] at hr3
   have hb2 := hbl
   rw [hpc] at hb2
   refine satq_seqN ?_
   conv => whnf
   (repeat ((first | apply k1 | apply k2 | apply k3 | apply k4 | refine k5 (by decide) ?_ | refine k6 (by decide) ?_); conv => whnf))
   refine satq_in (satq_block ?_)
   refine satq_seqN ?_
   conv => whnf
   (refine ⟨⟨by omega, by omega⟩, ?_⟩; (conv=>whnf))
   refine satq_as (f' := [(0, one (u32V x)), (7, one (.bool true)), (9, .p (.c (.ref 0 0))), (10, .p (.c (.ref 7 0))), (11, .p (.c (.ref 14 0))), (12, .p (.c (.ref 21 0))), (13, one (intV ((1 : Nat) : Int))), (14, .p (.c (.ref 7 0)))]) (S' := l3T L1 L2 L3 M1 M2 M3) (ent_same rfl (aI rfl (aI rfl (aI rfl (aI rfl (aI rfl (aI rfl (aI rfl (aI rfl trivial)))))))) (aI sM (aI sM (aI sM (aI sM (aI sM (aI sM (aI sM (aI sM (aI sM (aI sM (aI sM (aI sM (aI sM (aI sM (aI sM (aI sM (aI sM (aI sM (aI sM (aI sM (aI sM (aI sM (aI sM trivial)))))))))))))))))))))))) ?_
   refine satq_plain (α := Unit) (fun _ => [(0, one (u32V x)), (7, one (.bool true)), (9, .p (.c (.ref 0 0))), (10, .p (.c (.ref 7 0))), (11, .p (.c (.ref 14 0))), (12, .p (.c (.ref 21 0))), (13, one (intV ((1 : Nat) : Int))), (14, .p (.c (.ref 7 0))), (15, .p (.c (.ref 23 0))), (16, one (.bool true))]) (fun _ => .cells blT [.row 1, .row 2, .row 3] :: blkRows bl) (fun r w3 hR3 => ?_) fun _ => ?_
   ·obtain ⟨g', qs', hg', hO'⟩ := hR3.objsAt 7 (cpuU 0 L2 1536 6 M2) (cpuU 7 L2 1536 6 M2) (by simp) (fun i hi => by rcases (by have : i < 7 := hi; omega : i = 0 ∨ i = 1 ∨ i = 2 ∨ i = 3 ∨ i = 4 ∨ i = 5 ∨ i = 6) with rfl | rfl | rfl | rfl | rfl | rfl | rfl <;> rfl) (cpuU_sh 7 L2 1536 6 M2) (cpuU_ob L2 1536 6 M2)
    obtain ⟨h1', qs, hg, hO⟩ := cpu_plain hO'
    obtain ⟨bc, _, hbc, _⟩ := hR3.own 0 _ rfl
    obtain ⟨bd, _, hbd, _⟩ := hR3.own 7 _ rfl
    obtain ⟨be, _, hbe, _⟩ := hR3.own 14 _ rfl
    obtain ⟨ba, va, hba, hba1, hba2⟩ := hR3.own 21 _ rfl
    have hva := denL_vals_inv (us := [u32V 256, u32V 256, u32V 256]) hba2
    rw [hva] at hba1
    refine ⟨[(0, one (u32V x)), (7, one (.bool true)), (9, one (ptrV bc)), (10, one (ptrV bd)), (11, one (ptrV be)), (12, one (ptrV ba)), (13, one (intV ((1 : Nat) : Int))), (14, one (ptrV g'))], fun _ => [(0, one (u32V x)), (7, one (.bool true)), (9, one (ptrV bc)), (10, one (ptrV bd)), (11, one (ptrV be)), (12, one (ptrV ba)), (13, one (intV ((1 : Nat) : Int))), (14, one (ptrV g')), (15, .p (.c (.ref 0 0))), (16, one (.bool true))], fun a hf => frDen ⟨slot_same hf 0 rfl, slot_same hf 7 rfl, slot_plain hf 9 rfl hbc, slot_plain hf 10 rfl hbd, slot_plain hf 11 rfl hbe, slot_plain hf 12 rfl hba, slot_same hf 13 rfl, slot_plain hf 14 rfl hg', trivial⟩, fun _ a s hf => frDen ⟨slot_same hf 0 rfl, slot_same hf 7 rfl, slot_back hf 9 hbc (by show 0 < 23; omega) rfl, slot_back hf 10 hbd (by show 7 < 23; omega) rfl, slot_back hf 11 hbe (by show 14 < 23; omega) rfl, slot_back hf 12 hba (by show 21 < 23; omega) rfl, slot_same hf 13 rfl, slot_back hf 14 hg' (by show 7 < 23; omega) rfl, slot_up (c := .ref 0 0) hf 15 rfl, slot_same hf 16 rfl, trivial⟩, ?_⟩
    refine satq_vcN ?_
    conv => whnf
    refine sat_anyG (.q 0 (.q 1 (.q 2 (.q 3 (.q 4 (.q 5 (.q 6 (.alt 7 (.q 8 (.alt 9 (.alt 10 (.alt 11 (.alt 12 (.alt 13 .done .no) .no) .no) (.alt 11 (.alt 10 (.alt 12 (.alt 13 .done .no) .no) (.alt 12 (.alt 10 (.alt 13 .done .no) .no) .no)) .no)) (.alt 10 (.alt 9 (.alt 11 (.alt 12 (.alt 13 .done .no) .no) .no) (.alt 11 (.alt 9 (.alt 12 (.alt 13 .done .no) .no) .no) .no)) (.alt 11 (.alt 9 (.alt 10 (.alt 12 (.alt 13 .done .no) .no) (.alt 12 (.alt 10 (.alt 13 .done .no) .no) .no)) (.alt 10 (.alt 9 (.alt 12 (.alt 13 .done .no) .no) .no) .no)) .no)))) (.alt 11 (.alt 7 (.q 8 (.alt 9 (.alt 10 (.alt 12 (.alt 13 .done .no) .no) (.alt 12 (.alt 10 (.alt 13 .done .no) .no) .no)) (.alt 10 (.alt 9 (.alt 12 (.alt 13 .done .no) .no) .no) .no))) .no) .no))))))))) mixed (by kernel_rfl) (by kernel_rfl) ?_
    conv => whnf
    refine q_index_ptr (size := 1) ba 0 3 1 rfl rfl rfl rfl rfl rfl (by decide) (by decide) ?_
    conv => whnf
    refine ⟨u32V 256, block_cells (off := 1) (us := [u32V 256, u32V 256, u32V 256]) hba1 rfl, ?_⟩
    conv => whnf
    refine ⟨_, block_cells (off := 24) hg (hu24 L2 hL2l _), ?_⟩
    conv => whnf
    repeat' (first
     | (refine call_liftedP 256 9 hO hMk (by decide) (by unfold word; decide) ?_; rw [← hb2]; conv => whnf)
     | (refine ⟨?_, trivial⟩; conv => whnf)
     | (refine ⟨?_, ?_, trivial⟩ <;> conv => whnf)
     | (refine ⟨?_, ?_, ?_, trivial⟩ <;> conv => whnf)
     | refine atq_mid () (holdE ?_)
     | fail)
    all_goals first
     | exact Or.inl (ent_same rfl (aI rfl (aI rfl (aI rfl (aI rfl (aI rfl (aI rfl (aI rfl (aI rfl (aI rfl (aI rfl trivial)))))))))) (aI sM (aI ((aI rfl (aI rfl (aI rfl rfl)))) (aI ((aI rfl (aI rfl (aI rfl rfl)))) (aI ((aI rfl (aI rfl (aI rfl rfl)))) trivial)))))
     | exact Or.inl (ent_ren [3, 0, 1, 2] (aI rfl (aI rfl (aI rfl (aI rfl (aI rfl (aI rfl (aI rfl (aI rfl (aI rfl (aI rfl trivial)))))))))) (aI ((Exists.intro _ (aI rfl sM))) (aI ((Exists.intro _ (aI rfl (aI rfl (aI rfl (aI rfl rfl)))))) (aI ((Exists.intro _ (aI rfl (aI rfl (aI rfl (aI rfl rfl)))))) (aI ((Exists.intro _ (aI rfl (aI rfl (aI rfl (aI rfl rfl)))))) trivial)))) rfl rfl rfl rfl rfl)
     | fail
   refine satq_as (f' := [(0, one (u32V x)), (7, one (.bool true)), (9, .p (.c (.ref 0 0))), (10, .p (.c (.ref 7 0))), (11, .p (.c (.ref 14 0))), (12, .p (.c (.ref 21 0))), (13, one (intV ((1 : Nat) : Int))), (14, .p (.c (.ref 7 0))), (15, .p (.c (.ref 23 0))), (16, one (.bool true))]) (S' := l3T L1 L2 L3 M1 M2 M3 ++ (.cells blT [.row 24, .row 25, .row 26] :: blkRows bl)) (ent_same rfl (aI rfl (aI rfl (aI rfl (aI rfl (aI rfl (aI rfl (aI rfl (aI rfl (aI rfl (aI rfl trivial)))))))))) (aI sM (aI sM (aI sM (aI sM (aI sM (aI sM (aI sM (aI sM (aI sM (aI sM (aI sM (aI sM (aI sM (aI sM (aI sM (aI sM (aI sM (aI sM (aI sM (aI sM (aI sM (aI sM (aI sM (aI sM (aI ((aI rfl (aI rfl (aI rfl rfl)))) (aI ((aI rfl (aI rfl (aI rfl rfl)))) (aI ((aI rfl (aI rfl (aI rfl rfl)))) trivial)))))))))))))))))))))))))))) ?_
   refine satq_seqN ?_
   conv => whnf
   (repeat ((first | apply k1 | apply k2 | apply k3 | apply k4 | refine k5 (by decide) ?_ | refine k6 (by decide) ?_); conv => whnf))
   obtain ⟨Lo, hLo⟩ : ∃ Lo, Lo = outL (outR (runM M2 s2 9)) := ⟨_, rfl⟩
   have hLol : (Lo.map CV.v).length = 32 := by rw [hLo]; rfl
   refine satq_seqN ?_
   conv => whnf
   refine call_agrees 7 1536 6 24 25 26 s2 M2 9 bl L2 hbl hL2 (fun i hi => ?_) hstop.st (by rw [hstop.steps]; decide) hMk (by omega) rfl rfl rfl (by omega) fun s' M' hs' hs'' hM' => ?_
   ·rcases (by omega : i = 0 ∨ i = 1 ∨ i = 2 ∨ i = 3 ∨ i = 4 ∨ i = 5 ∨ i = 6) with rfl | rfl | rfl | rfl | rfl | rfl | rfl <;> rfl
   rw [← hLo]
   have hLo1 : ∀ S, onesL S (Lo.map CV.v) = true := fun S => hLo ▸ onesL_out S _
   have hLo0 : (Lo.map CV.v)[0]? = some (.v (.bool true)) := by rw [hLo]; show some (CV.v (.bool (runM M2 s2 9).leaves)) = _; rw [hr1]
   have hLo2 : (Lo.map CV.v)[2]? = some (.v (intV 0)) := by rw [hLo]; show some (CV.v (intV ((runM M2 s2 9).done : Int))) = _; rw [hr2]; rfl
   obtain ⟨L', hL'⟩ : ∃ L', L' = stL s' [] := ⟨_, rfl⟩
   rw [← hL']
   conv => whnf
   erw [beq_len hLol]
   conv => whnf
   erw [hLo1]
   conv => whnf
   erw [hLol]
   conv => whnf
   refine satq_as (f' := [(0, one (u32V x)), (7, one (.bool true)), (9, .p (.c (.ref 0 0))), (10, .p (.c (.ref 7 0))), (11, .p (.c (.ref 14 0))), (12, .p (.c (.ref 21 0))), (13, one (intV ((1 : Nat) : Int))), (15, .p (.c (.ref 23 0))), (17, one (.bool true)), (18, .p (.c (.ref 27 0)))]) (S' := l3T L1 L' L3 M1 M' M3 ++ (.cells blT [.row 24, .row 25, .row 26] :: (blkRows bl ++ ([.cells 55 (Lo.map .v)] : List Ow)))) (ent_same rfl (aI rfl (aI rfl (aI rfl (aI rfl (aI rfl (aI rfl (aI rfl (aI rfl (aI rfl (aI rfl trivial)))))))))) (aI sM (aI sM (aI sM (aI sM (aI sM (aI sM (aI sM (aI sM (aI sM (aI sM (aI sM (aI sM (aI sM (aI sM (aI sM (aI sM (aI sM (aI sM (aI sM (aI sM (aI sM (aI sM (aI sM (aI sM (aI ((aI rfl (aI rfl (aI rfl rfl)))) (aI ((aI rfl (aI rfl (aI rfl rfl)))) (aI ((aI rfl (aI rfl (aI rfl rfl)))) (aI ((aI rfl (Or.inl (setAll_same (show (List.map CV.v (outL ⟨false, 0, 0, 0, List.replicate 28 0⟩)).length = (Lo.map CV.v).length from hLol.symm))))) trivial))))))))))))))))))))))))))))) ?_
   refine satq_vcN ?_
   conv => whnf
   (repeat ((first | apply k1 | apply k2 | apply k3 | apply k4 | refine k5 (by decide) ?_ | refine k6 (by decide) ?_); conv => whnf))
   erw [hLo0]
   conv => whnf
   (repeat ((first | apply k1 | apply k2 | apply k3 | apply k4 | refine k5 (by decide) ?_ | refine k6 (by decide) ?_); conv => whnf))
   erw [hLo2]
   conv => whnf
   (repeat ((first | apply k1 | apply k2 | apply k3 | apply k4 | refine k5 (by decide) ?_ | refine k6 (by decide) ?_); conv => whnf))
   erw [hr3]
   conv => whnf
   (repeat ((first | apply k1 | apply k2 | apply k3 | apply k4 | refine k5 (by decide) ?_ | refine k6 (by decide) ?_); conv => whnf))
   refine atq_block (atq_on ?_)
   refine satq_vcN ?_
   conv => whnf
   refine ⟨(2 : Nat), wr64 (by omega), ?_⟩
   conv => whnf
   exact atq_next ⟨(2, (s1, M1), (s', M'), (s3, M3)), by show 2 ≤ 3; decide, hm1, hM', hm3, fun h => absurd (show 2 ≤ 0 from h) (by decide), fun h => absurd (show 2 ≤ 1 from h) (by decide), fun _ => h3 (by omega)⟩ (ent_drop (aI rfl (aI rfl (aI rfl (aI rfl (aI rfl (aI rfl (aI rfl trivial))))))) (aI ((aI rfl (Or.inl (by rw [hL1])))) (aI sM (aI sM (aI sM (aI sM (aI sM (aI sM (aI ((aI rfl (Or.inl (by rw [hL'])))) (aI sM (aI sM (aI sM (aI sM (aI sM (aI sM (aI ((aI rfl (Or.inl (by rw [hL3])))) (aI sM (aI sM (aI sM (aI sM (aI sM (aI sM (aI sM trivial)))))))))))))))))))))) rfl (l3_grp _ _ _ _ _ _)) (by show 3 - 2 < 3 - 1; omega)

  ·have hstop : Stops s3 M3 := h3 (Nat.le_refl _)
   obtain ⟨hr1, hr2, hr3⟩ := hstop.run 9
   have hMk : M3.ok 1536 6 := hstop.mem
   have hpc := hstop.pc
   obtain ⟨bl, hbl⟩ : ∃ bl, bl = liftM M3 s3.pc 9 := ⟨_, rfl⟩
   rw [← hbl] at hr3
   have hb2 := hbl
   rw [hpc] at hb2
   refine satq_seqN ?_
   conv => whnf
   (repeat ((first | apply k1 | apply k2 | apply k3 | apply k4 | refine k5 (by decide) ?_ | refine k6 (by decide) ?_); conv => whnf))
   refine satq_in (satq_block ?_)
   refine satq_seqN ?_
   conv => whnf
   (refine ⟨⟨by omega, by omega⟩, ?_⟩; (conv=>whnf))
   refine satq_as (f' := [(0, one (u32V x)), (7, one (.bool true)), (9, .p (.c (.ref 0 0))), (10, .p (.c (.ref 7 0))), (11, .p (.c (.ref 14 0))), (12, .p (.c (.ref 21 0))), (13, one (intV ((2 : Nat) : Int))), (14, .p (.c (.ref 14 0)))]) (S' := l3T L1 L2 L3 M1 M2 M3) (ent_same rfl (aI rfl (aI rfl (aI rfl (aI rfl (aI rfl (aI rfl (aI rfl (aI rfl trivial)))))))) (aI sM (aI sM (aI sM (aI sM (aI sM (aI sM (aI sM (aI sM (aI sM (aI sM (aI sM (aI sM (aI sM (aI sM (aI sM (aI sM (aI sM (aI sM (aI sM (aI sM (aI sM (aI sM (aI sM trivial)))))))))))))))))))))))) ?_
   refine satq_plain (α := Unit) (fun _ => [(0, one (u32V x)), (7, one (.bool true)), (9, .p (.c (.ref 0 0))), (10, .p (.c (.ref 7 0))), (11, .p (.c (.ref 14 0))), (12, .p (.c (.ref 21 0))), (13, one (intV ((2 : Nat) : Int))), (14, .p (.c (.ref 14 0))), (15, .p (.c (.ref 23 0))), (16, one (.bool true))]) (fun _ => .cells blT [.row 1, .row 2, .row 3] :: blkRows bl) (fun r w3 hR3 => ?_) fun _ => ?_
   ·obtain ⟨g', qs', hg', hO'⟩ := hR3.objsAt 14 (cpuU 0 L3 1536 6 M3) (cpuU 14 L3 1536 6 M3) (by simp) (fun i hi => by rcases (by have : i < 7 := hi; omega : i = 0 ∨ i = 1 ∨ i = 2 ∨ i = 3 ∨ i = 4 ∨ i = 5 ∨ i = 6) with rfl | rfl | rfl | rfl | rfl | rfl | rfl <;> rfl) (cpuU_sh 14 L3 1536 6 M3) (cpuU_ob L3 1536 6 M3)
    obtain ⟨h1', qs, hg, hO⟩ := cpu_plain hO'
    obtain ⟨bc, _, hbc, _⟩ := hR3.own 0 _ rfl
    obtain ⟨bd, _, hbd, _⟩ := hR3.own 7 _ rfl
    obtain ⟨be, _, hbe, _⟩ := hR3.own 14 _ rfl
    obtain ⟨ba, va, hba, hba1, hba2⟩ := hR3.own 21 _ rfl
    have hva := denL_vals_inv (us := [u32V 256, u32V 256, u32V 256]) hba2
    rw [hva] at hba1
    refine ⟨[(0, one (u32V x)), (7, one (.bool true)), (9, one (ptrV bc)), (10, one (ptrV bd)), (11, one (ptrV be)), (12, one (ptrV ba)), (13, one (intV ((2 : Nat) : Int))), (14, one (ptrV g'))], fun _ => [(0, one (u32V x)), (7, one (.bool true)), (9, one (ptrV bc)), (10, one (ptrV bd)), (11, one (ptrV be)), (12, one (ptrV ba)), (13, one (intV ((2 : Nat) : Int))), (14, one (ptrV g')), (15, .p (.c (.ref 0 0))), (16, one (.bool true))], fun a hf => frDen ⟨slot_same hf 0 rfl, slot_same hf 7 rfl, slot_plain hf 9 rfl hbc, slot_plain hf 10 rfl hbd, slot_plain hf 11 rfl hbe, slot_plain hf 12 rfl hba, slot_same hf 13 rfl, slot_plain hf 14 rfl hg', trivial⟩, fun _ a s hf => frDen ⟨slot_same hf 0 rfl, slot_same hf 7 rfl, slot_back hf 9 hbc (by show 0 < 23; omega) rfl, slot_back hf 10 hbd (by show 7 < 23; omega) rfl, slot_back hf 11 hbe (by show 14 < 23; omega) rfl, slot_back hf 12 hba (by show 21 < 23; omega) rfl, slot_same hf 13 rfl, slot_back hf 14 hg' (by show 14 < 23; omega) rfl, slot_up (c := .ref 0 0) hf 15 rfl, slot_same hf 16 rfl, trivial⟩, ?_⟩
    refine satq_vcN ?_
    conv => whnf
    refine sat_anyG (.q 0 (.q 1 (.q 2 (.q 3 (.q 4 (.q 5 (.q 6 (.alt 7 (.q 8 (.alt 9 (.alt 10 (.alt 11 (.alt 12 (.alt 13 .done .no) .no) .no) (.alt 11 (.alt 10 (.alt 12 (.alt 13 .done .no) .no) (.alt 12 (.alt 10 (.alt 13 .done .no) .no) .no)) .no)) (.alt 10 (.alt 9 (.alt 11 (.alt 12 (.alt 13 .done .no) .no) .no) (.alt 11 (.alt 9 (.alt 12 (.alt 13 .done .no) .no) .no) .no)) (.alt 11 (.alt 9 (.alt 10 (.alt 12 (.alt 13 .done .no) .no) (.alt 12 (.alt 10 (.alt 13 .done .no) .no) .no)) (.alt 10 (.alt 9 (.alt 12 (.alt 13 .done .no) .no) .no) .no)) .no)))) (.alt 11 (.alt 7 (.q 8 (.alt 9 (.alt 10 (.alt 12 (.alt 13 .done .no) .no) (.alt 12 (.alt 10 (.alt 13 .done .no) .no) .no)) (.alt 10 (.alt 9 (.alt 12 (.alt 13 .done .no) .no) .no) .no))) .no) .no))))))))) mixed (by kernel_rfl) (by kernel_rfl) ?_
    conv => whnf
    refine q_index_ptr (size := 1) ba 0 3 2 rfl rfl rfl rfl rfl rfl (by decide) (by decide) ?_
    conv => whnf
    refine ⟨u32V 256, block_cells (off := 2) (us := [u32V 256, u32V 256, u32V 256]) hba1 rfl, ?_⟩
    conv => whnf
    refine ⟨_, block_cells (off := 24) hg (hu24 L3 hL3l _), ?_⟩
    conv => whnf
    repeat' (first
     | (refine call_liftedP 256 9 hO hMk (by decide) (by unfold word; decide) ?_; rw [← hb2]; conv => whnf)
     | (refine ⟨?_, trivial⟩; conv => whnf)
     | (refine ⟨?_, ?_, trivial⟩ <;> conv => whnf)
     | (refine ⟨?_, ?_, ?_, trivial⟩ <;> conv => whnf)
     | refine atq_mid () (holdE ?_)
     | fail)
    all_goals first
     | exact Or.inl (ent_same rfl (aI rfl (aI rfl (aI rfl (aI rfl (aI rfl (aI rfl (aI rfl (aI rfl (aI rfl (aI rfl trivial)))))))))) (aI sM (aI ((aI rfl (aI rfl (aI rfl rfl)))) (aI ((aI rfl (aI rfl (aI rfl rfl)))) (aI ((aI rfl (aI rfl (aI rfl rfl)))) trivial)))))
     | exact Or.inl (ent_ren [3, 0, 1, 2] (aI rfl (aI rfl (aI rfl (aI rfl (aI rfl (aI rfl (aI rfl (aI rfl (aI rfl (aI rfl trivial)))))))))) (aI ((Exists.intro _ (aI rfl sM))) (aI ((Exists.intro _ (aI rfl (aI rfl (aI rfl (aI rfl rfl)))))) (aI ((Exists.intro _ (aI rfl (aI rfl (aI rfl (aI rfl rfl)))))) (aI ((Exists.intro _ (aI rfl (aI rfl (aI rfl (aI rfl rfl)))))) trivial)))) rfl rfl rfl rfl rfl)
     | fail
   refine satq_as (f' := [(0, one (u32V x)), (7, one (.bool true)), (9, .p (.c (.ref 0 0))), (10, .p (.c (.ref 7 0))), (11, .p (.c (.ref 14 0))), (12, .p (.c (.ref 21 0))), (13, one (intV ((2 : Nat) : Int))), (14, .p (.c (.ref 14 0))), (15, .p (.c (.ref 23 0))), (16, one (.bool true))]) (S' := l3T L1 L2 L3 M1 M2 M3 ++ (.cells blT [.row 24, .row 25, .row 26] :: blkRows bl)) (ent_same rfl (aI rfl (aI rfl (aI rfl (aI rfl (aI rfl (aI rfl (aI rfl (aI rfl (aI rfl (aI rfl trivial)))))))))) (aI sM (aI sM (aI sM (aI sM (aI sM (aI sM (aI sM (aI sM (aI sM (aI sM (aI sM (aI sM (aI sM (aI sM (aI sM (aI sM (aI sM (aI sM (aI sM (aI sM (aI sM (aI sM (aI sM (aI sM (aI ((aI rfl (aI rfl (aI rfl rfl)))) (aI ((aI rfl (aI rfl (aI rfl rfl)))) (aI ((aI rfl (aI rfl (aI rfl rfl)))) trivial)))))))))))))))))))))))))))) ?_
   refine satq_seqN ?_
   conv => whnf
   (repeat ((first | apply k1 | apply k2 | apply k3 | apply k4 | refine k5 (by decide) ?_ | refine k6 (by decide) ?_); conv => whnf))
   obtain ⟨Lo, hLo⟩ : ∃ Lo, Lo = outL (outR (runM M3 s3 9)) := ⟨_, rfl⟩
   have hLol : (Lo.map CV.v).length = 32 := by rw [hLo]; rfl
   refine satq_seqN ?_
   conv => whnf
   refine call_agrees 14 1536 6 24 25 26 s3 M3 9 bl L3 hbl hL3 (fun i hi => ?_) hstop.st (by rw [hstop.steps]; decide) hMk (by omega) rfl rfl rfl (by omega) fun s' M' hs' hs'' hM' => ?_
   ·rcases (by omega : i = 0 ∨ i = 1 ∨ i = 2 ∨ i = 3 ∨ i = 4 ∨ i = 5 ∨ i = 6) with rfl | rfl | rfl | rfl | rfl | rfl | rfl <;> rfl
   rw [← hLo]
   have hLo1 : ∀ S, onesL S (Lo.map CV.v) = true := fun S => hLo ▸ onesL_out S _
   have hLo0 : (Lo.map CV.v)[0]? = some (.v (.bool true)) := by rw [hLo]; show some (CV.v (.bool (runM M3 s3 9).leaves)) = _; rw [hr1]
   have hLo2 : (Lo.map CV.v)[2]? = some (.v (intV 0)) := by rw [hLo]; show some (CV.v (intV ((runM M3 s3 9).done : Int))) = _; rw [hr2]; rfl
   obtain ⟨L', hL'⟩ : ∃ L', L' = stL s' [] := ⟨_, rfl⟩
   rw [← hL']
   conv => whnf
   erw [beq_len hLol]
   conv => whnf
   erw [hLo1]
   conv => whnf
   erw [hLol]
   conv => whnf
   refine satq_as (f' := [(0, one (u32V x)), (7, one (.bool true)), (9, .p (.c (.ref 0 0))), (10, .p (.c (.ref 7 0))), (11, .p (.c (.ref 14 0))), (12, .p (.c (.ref 21 0))), (13, one (intV ((2 : Nat) : Int))), (15, .p (.c (.ref 23 0))), (17, one (.bool true)), (18, .p (.c (.ref 27 0)))]) (S' := l3T L1 L2 L' M1 M2 M' ++ (.cells blT [.row 24, .row 25, .row 26] :: (blkRows bl ++ ([.cells 55 (Lo.map .v)] : List Ow)))) (ent_same rfl (aI rfl (aI rfl (aI rfl (aI rfl (aI rfl (aI rfl (aI rfl (aI rfl (aI rfl (aI rfl trivial)))))))))) (aI sM (aI sM (aI sM (aI sM (aI sM (aI sM (aI sM (aI sM (aI sM (aI sM (aI sM (aI sM (aI sM (aI sM (aI sM (aI sM (aI sM (aI sM (aI sM (aI sM (aI sM (aI sM (aI sM (aI sM (aI ((aI rfl (aI rfl (aI rfl rfl)))) (aI ((aI rfl (aI rfl (aI rfl rfl)))) (aI ((aI rfl (aI rfl (aI rfl rfl)))) (aI ((aI rfl (Or.inl (setAll_same (show (List.map CV.v (outL ⟨false, 0, 0, 0, List.replicate 28 0⟩)).length = (Lo.map CV.v).length from hLol.symm))))) trivial))))))))))))))))))))))))))))) ?_
   refine satq_vcN ?_
   conv => whnf
   (repeat ((first | apply k1 | apply k2 | apply k3 | apply k4 | refine k5 (by decide) ?_ | refine k6 (by decide) ?_); conv => whnf))
   erw [hLo0]
   conv => whnf
   (repeat ((first | apply k1 | apply k2 | apply k3 | apply k4 | refine k5 (by decide) ?_ | refine k6 (by decide) ?_); conv => whnf))
   erw [hLo2]
   conv => whnf
   (repeat ((first | apply k1 | apply k2 | apply k3 | apply k4 | refine k5 (by decide) ?_ | refine k6 (by decide) ?_); conv => whnf))
   erw [hr3]
   conv => whnf
   (repeat ((first | apply k1 | apply k2 | apply k3 | apply k4 | refine k5 (by decide) ?_ | refine k6 (by decide) ?_); conv => whnf))
   refine atq_block (atq_on ?_)
   refine satq_vcN ?_
   conv => whnf
   refine ⟨(3 : Nat), wr64 (by omega), ?_⟩
   conv => whnf
   exact atq_next ⟨(3, (s1, M1), (s2, M2), (s', M')), by show 3 ≤ 3; decide, hm1, hm2, hM', fun h => absurd (show 3 ≤ 0 from h) (by decide), fun h => absurd (show 3 ≤ 1 from h) (by decide), fun h => absurd (show 3 ≤ 2 from h) (by decide)⟩ (ent_drop (aI rfl (aI rfl (aI rfl (aI rfl (aI rfl (aI rfl (aI rfl trivial))))))) (aI ((aI rfl (Or.inl (by rw [hL1])))) (aI sM (aI sM (aI sM (aI sM (aI sM (aI sM (aI ((aI rfl (Or.inl (by rw [hL2])))) (aI sM (aI sM (aI sM (aI sM (aI sM (aI sM (aI ((aI rfl (Or.inl (by rw [hL'])))) (aI sM (aI sM (aI sM (aI sM (aI sM (aI sM (aI sM trivial)))))))))))))))))))))) rfl (l3_grp _ _ _ _ _ _)) (by show 3 - 3 < 3 - 2; omega)

  ·refine satq_seqN ?_
   conv => whnf
   (repeat ((first | apply k1 | apply k2 | apply k3 | apply k4 | refine k5 (by decide) ?_ | refine k6 (by decide) ?_); conv => whnf))
   exact atq_out (atq_exit (atq_mid ⟨(s1, M1), hm1⟩ (ent_drop (aI rfl (aI rfl (aI rfl trivial))) (aI ((aI rfl (Or.inl (by rw [hL1])))) (aI sM (aI sM (aI sM (aI sM (aI sM (aI sM trivial))))))) rfl (cpu_grp (stL s1 []) 1536 6 M1))))
 obtain ⟨⟨s, M⟩, hM⟩ := c
 dsimp only at hM ⊢
 clear sa sb sc hMa hMb hMc hMz hzk hj hj7 hqv hqop hqop2 hqi hL hLl
 obtain ⟨L, hL⟩ : ∃ L, L = stL s [] := ⟨_, rfl⟩
 have hLl : L.length = 24 := by rw [hL]; rfl
 rw [← hL]
 obtain ⟨z, hz⟩ : ∃ z, z = 257 + x % 3 := ⟨_, rfl⟩
 have hzw : word z := by unfold word; omega
 obtain ⟨bl, hbl⟩ : ∃ bl, bl = liftM M z 9 := ⟨_, rfl⟩
 obtain ⟨ho1, ho2⟩ := odd_lift (M := M) (a := z) (by omega) hzw 9
 obtain ⟨hbk, hbv, _⟩ := liftM_ok hM z 9
 rw [← hbl] at ho1 ho2 hbk hbv
 have hbn : bl.at_.length = 1 := by rw [ho2]; rfl
 have hmem : ∀ i, i < 6 → (cpuU 0 L 1536 6 M)[1 + i]? = (memS 1 1536 6 M)[i]? := fun i hi => by have := cpu_mem L 1536 6 M [] i hi; rwa [List.append_nil] at this
 refine satq_seqN ?_
 conv => whnf
 refine ⟨by decide, x % 3, Int.tmod_eq_emod_of_nonneg hx.1, ?_⟩
 conv => whnf
 refine ⟨z, by rw [wr32]; omega, ?_⟩
 conv => whnf
 erw [cpu_at hLl [.ref (0 + 1) 0] 0]
 conv => whnf
 refine call_lifted 1 1536 6 M z 9 hmem hM (by decide) hzw ?_
 rw [← hbl]
 conv => whnf
 refine satq_vcN ?_
 conv => whnf
 (repeat ((first | apply k1 | apply k2 | apply k3 | apply k4 | refine k5 (by decide) ?_ | refine k6 (by decide) ?_); conv => whnf))
 rw [hbn]
 conv => whnf
 (repeat ((first | apply k1 | apply k2 | apply k3 | apply k4 | refine k5 (by decide) ?_ | refine k6 (by decide) ?_); conv => whnf))
 refine call_evalNil 7 8 9 bl z (List.replicate 28 0) ⟨rfl, fun x hx => by rw [List.eq_of_mem_replicate hx]; exact word0⟩ hbk hbv ho1 ho2 (by rw [hbn]; rfl) rfl rfl ?_
 conv => whnf
 (repeat ((first | apply k1 | apply k2 | apply k3 | apply k4 | refine k5 (by decide) ?_ | refine k6 (by decide) ?_); conv => whnf))
 refine atq_ret ?_
 conv => whnf
 exact fin_val rfl fun w2 hB => ⟨rfl, hB⟩
end Go.Proofs.YtnhdcclpjildjaaGreat
