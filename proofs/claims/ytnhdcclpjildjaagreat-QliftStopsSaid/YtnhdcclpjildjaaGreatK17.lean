/- Walks: two memories of the same content; states compared; parts of the cells of a machine. -/
import Derived.Test.YtnhdcclpjildjaaGreatK16
namespace Go.Proofs.YtnhdcclpjildjaaGreat
open Go.RowKit

set_option maxRecDepth 100000 in
theorem mem_same2 (M N : MemP) (n p : Nat) (w : World) (g h : Nat) (gs hs : List Nat) (hU : ObjsAt w (g :: gs) (memS 0 n p M)) (hV : ObjsAt w (h :: hs) (memS 0 n p N)) (hM : M.ok n p) (hN : N.ok n p) (hd : N.data = M.data) (hi : N.image = M.image) (hr : N.rights = M.rights) :
  Calls Tryz.prog 49 #[.pointer (some ⟨g, 0, none⟩), .pointer (some ⟨h, 0, none⟩)] w fun e w' => e = .returned (.bool true) ∧ Below w.heap.size w w' := by
 obtain ⟨g1, g5, A⟩ := memAt_of hU
 obtain ⟨h1, h5, B⟩ := memAt_of hV
 have hnp := hM.np
 have hpm := hM.pmax
 refine calls_val [.pointer (some ⟨g, 0, none⟩), .pointer (some ⟨h, 0, none⟩)] Tryz.func49 Tryz.ntmps49 rfl (by simp) ?_
 conv => whnf
 refine sat_quiet mixed (by kernel_rfl) ?_
 conv => whnf
 refine ⟨_, A.rights, ?_⟩
 conv => whnf
 refine ⟨_, B.rights, ?_⟩
 conv => whnf
 refine ⟨fun hc => absurd hc (by simp), fun _ => ?_⟩
 conv => whnf
 refine ⟨{ j : Nat // j ≤ p }, fun y => [(0, one (.pointer (some ⟨g, 0, none⟩))), (1, one (.pointer (some ⟨h, 0, none⟩))), (5, one (.int .i64 (y.1 : Int)))], fun y => [], fun y => p - y.1, ⟨⟨0, by omega⟩, ent_same rfl (aI rfl (aI rfl (aI rfl trivial))) trivial⟩, fun y => ?_⟩
 obtain ⟨j, hj⟩ := y
 dsimp only
 conv => whnf
 refine ⟨_, A.rights, ?_⟩
 conv => whnf
 refine ⟨fun hc => ?_, fun hc => ?_⟩
 ·have hlt : j < p := by simpa using hc
  obtain ⟨x, hx⟩ : ∃ x, M.rights[j]? = some x := ⟨_, List.getElem?_eq_getElem (by rw [hM.lr]; exact hlt)⟩
  conv => whnf
  refine sat_quiet mixed (by kernel_rfl) ?_
  conv => whnf
  refine ⟨_, A.rights, ?_⟩
  conv => whnf
  refine ⟨⟨by omega, by omega⟩, ?_⟩
  conv => whnf
  refine ⟨_, A.rig j x hx, ?_⟩
  conv => whnf
  refine ⟨_, B.rights, ?_⟩
  conv => whnf
  refine ⟨⟨by omega, by omega⟩, ?_⟩
  conv => whnf
  refine ⟨_, B.rig j x (by rw [hr]; exact hx), ?_⟩
  conv => whnf
  refine ⟨fun hc => absurd hc (by simp), fun _ => ?_⟩
  conv => whnf
  refine ⟨_, wr64 (by omega), ?_⟩
  conv => whnf
  exact ⟨⟨j + 1, by omega⟩, ent_drop (aI rfl (aI rfl (aI rfl trivial))) trivial rfl rfl, by show p - (j + 1) < p - j; omega⟩
 have hje : p = j := by simp at hc; omega
 subst hje
 conv => whnf
 refine ⟨_, _, ent_refl, ?_⟩
 conv => whnf
 refine ⟨{ j : Nat // j ≤ n }, fun y => [(0, one (.pointer (some ⟨g, 0, none⟩))), (1, one (.pointer (some ⟨h, 0, none⟩))), (6, one (.int .i64 (y.1 : Int)))], fun y => [], fun y => n - y.1, ⟨⟨0, by omega⟩, ent_same rfl (aI rfl (aI rfl (aI rfl trivial))) trivial⟩, fun y => ?_⟩
 obtain ⟨j, hj⟩ := y
 dsimp only
 conv => whnf
 refine ⟨_, A.data, ?_⟩
 conv => whnf
 refine ⟨fun hc => ?_, fun hc => ?_⟩
 ·have hlt : j < n := by simpa using hc
  obtain ⟨x, hx⟩ : ∃ x, M.data[j]? = some x := ⟨_, List.getElem?_eq_getElem (by rw [hM.ld]; exact hlt)⟩
  conv => whnf
  refine sat_anyG (.q 0 (.q 1 (.q 2 (.q 3 (.q 4 (.q 5 (.q 6 (.q 7 (.q 8 (.q 9 (.q 10 (.q 11 (.q 12 (.q 13 (.q 14 (.q 15 (.q 16 (.q 17 (.q 18 (.q 20 (.q 21 (.q 22 (.alt 19 (.alt 23 (.q 24 (.q 25 .done)) .no) .no))))))))))))))))))))))) mixed (by kernel_rfl) (by kernel_rfl) ?_
  conv => whnf
  refine ⟨_, A.data, ?_⟩
  conv => whnf
  refine ⟨⟨by omega, by omega⟩, ?_⟩
  conv => whnf
  refine ⟨_, A.dat j x hx, ?_⟩
  conv => whnf
  refine ⟨_, B.data, ?_⟩
  conv => whnf
  refine ⟨⟨by omega, by omega⟩, ?_⟩
  conv => whnf
  refine ⟨_, B.dat j x (by rw [hd]; exact hx), ?_⟩
  conv => whnf
  rw [show (x != x) = false by simp]
  have hw : word (j : Int) := by unfold word; omega
  have hcd : N.code = M.code := by funext z; unfold MemP.code; rw [hi]
  have hcodeN := fun (w : World) (g : Nat) (gs : List Nat) (hU : ObjsAt w (g :: gs) (memS 0 n p N)) => mem_code N n p (j : Int) w g gs hU hN hw (by omega)
  rw [hcd] at hcodeN
  have hcode := fun (w : World) (g : Nat) (gs : List Nat) (hU : ObjsAt w (g :: gs) (memS 0 n p M)) => mem_code M n p (j : Int) w g gs hU hM hw (by omega)
  conv => whnf
  refine ⟨(j : Int), by rw [wr32]; omega, ?_⟩
  conv => whnf
  refine ⟨(j : Int), by rw [wr32]; omega, ?_⟩
  conv => whnf
  refine ⟨?_, trivial⟩
  conv => whnf
  refine call_memP rfl (by kernel_rfl) hU (fun w' hU' => hcode w' g gs hU') ?_
  conv => whnf
  refine ⟨?_, trivial⟩
  conv => whnf
  refine call_memP rfl (by kernel_rfl) hV (fun w' hU' => hcodeN w' h hs hU') ?_
  conv => whnf
  rw [show (M.code (j : Int) != M.code (j : Int)) = false by simp]
  conv => whnf
  refine ⟨fun hc => absurd hc (by decide), fun _ => ?_⟩
  conv => whnf
  refine ⟨_, wr64 (by omega), ?_⟩
  conv => whnf
  exact ⟨⟨j + 1, by omega⟩, ent_drop (aI rfl (aI rfl (aI rfl trivial))) trivial rfl rfl, by show n - (j + 1) < n - j; omega⟩
 have hje : j = n := by simp at hc; omega
 subst hje
 conv => whnf
 refine ⟨_, _, ent_refl, ?_⟩
 conv => whnf
 exact fin_val rfl fun w' hB => ⟨rfl, hB⟩

theorem st_fields : (Tryz.prog.fieldsOf 39).toList = [fld "PC" 35 0 0, fld "R" 36 1 4, fld "F" 35 17 68, fld "C" 37 18 72, fld "Steps" 3 22 88, fld "Due" 3 23 96] := by kernel_rfl
theorem part_regs (xs : Array Value) (w : World) : (part 36 xs 1).run Tryz.prog w = .ok (.agg (xs.extract 1 17)) w := by kernel_rfl
theorem part_ctl (xs : Array Value) (w : World) : (part 37 xs 18).run Tryz.prog w = .ok (.agg (xs.extract 18 22)) w := by kernel_rfl
theorem st_equal (s : St) (w : World) : (Op.equalIn 10000 39 (stV s) (stV s)).run Tryz.prog w = .ok true w := by
 rw [run_equalIn_agg _ _ _ _ _ (by kernel_rfl) (by kernel_rfl), st_fields]
 obtain ⟨xs, hxs⟩ : ∃ xs : Array Value, xs = (stL s []).toArray := ⟨_, rfl⟩
 rw [← hxs]
 have p0 : (part 35 xs 0).run Tryz.prog w = .ok (.int .u32 s.pc) w := run_part_plain w (by kernel_rfl) (by rw [hxs]; rfl)
 have p2 : (part 35 xs 17).run Tryz.prog w = .ok (.int .u32 s.f) w := run_part_plain w (by kernel_rfl) (by rw [hxs]; rfl)
 have p4 : (part 3 xs 22).run Tryz.prog w = .ok (intV s.steps) w := run_part_plain w (by kernel_rfl) (by rw [hxs]; rfl)
 have p5 : (part 3 xs 23).run Tryz.prog w = .ok (intV s.due) w := run_part_plain w (by kernel_rfl) (by rw [hxs]; rfl)
 have p1 := part_regs xs w
 have p3 := part_ctl xs w
 have hr : xs.extract 1 17 = #[u32V (s.R 0), u32V (s.R 1), u32V (s.R 2), u32V (s.R 3), u32V (s.R 4), u32V (s.R 5), u32V (s.R 6), u32V (s.R 7), u32V (s.R 8), u32V (s.R 9), u32V (s.R 10), u32V (s.R 11), u32V (s.R 12), u32V (s.R 13), u32V (s.R 14), u32V (s.R 15)] := by rw [hxs]; rfl
 have hc : xs.extract 18 22 = #[u32V s.c0, u32V s.c1, u32V s.c2, u32V s.c3] := by rw [hxs]; rfl
 rw [hr] at p1; rw [hc] at p3
 have ei : ∀ z : Int, (Op.equalIn 9999 3 (.int .i64 z) (.int .i64 z)).run Tryz.prog w = .ok (z == z) w := fun z => run_equalIn_int w 9998 _ _ _ z z Tryz.underlying3
 have eu : ∀ z : Int, (Op.equalIn 9999 35 (.int .u32 z) (.int .u32 z)).run Tryz.prog w = .ok (z == z) w := fun z => run_equalIn_int w 9998 _ _ _ z z Tryz.underlying35
 obtain ⟨inf, hinf⟩ := Option.isSome_iff_exists.1 (show (Tryz.prog.info? 35).isSome = true by kernel_rfl)
 have e1 : (Op.equalIn 9999 36 (.agg #[u32V (s.R 0), u32V (s.R 1), u32V (s.R 2), u32V (s.R 3), u32V (s.R 4), u32V (s.R 5), u32V (s.R 6), u32V (s.R 7), u32V (s.R 8), u32V (s.R 9), u32V (s.R 10), u32V (s.R 11), u32V (s.R 12), u32V (s.R 13), u32V (s.R 14), u32V (s.R 15)]) (.agg #[u32V (s.R 0), u32V (s.R 1), u32V (s.R 2), u32V (s.R 3), u32V (s.R 4), u32V (s.R 5), u32V (s.R 6), u32V (s.R 7), u32V (s.R 8), u32V (s.R 9), u32V (s.R 10), u32V (s.R 11), u32V (s.R 12), u32V (s.R 13), u32V (s.R 14), u32V (s.R 15)])).run Tryz.prog w = .ok true w := by
  rw [run_equalIn_array (P := Tryz.prog) w 9998 _ _ Tryz.underlying36 hinf]
  refine items_same 9997 _ w _ fun i hi => ?_
  have hi : i < 16 := by simpa using hi
  rcases (by omega : i = 0 ∨ i = 1 ∨ i = 2 ∨ i = 3 ∨ i = 4 ∨ i = 5 ∨ i = 6 ∨ i = 7 ∨ i = 8 ∨ i = 9 ∨ i = 10 ∨ i = 11 ∨ i = 12 ∨ i = 13 ∨ i = 14 ∨ i = 15) with rfl | rfl | rfl | rfl | rfl | rfl | rfl | rfl | rfl | rfl | rfl | rfl | rfl | rfl | rfl | rfl <;> exact ⟨_, rfl⟩
 have e3 : (Op.equalIn 9999 37 (.agg #[u32V s.c0, u32V s.c1, u32V s.c2, u32V s.c3]) (.agg #[u32V s.c0, u32V s.c1, u32V s.c2, u32V s.c3])).run Tryz.prog w = .ok true w := by
  rw [run_equalIn_array (P := Tryz.prog) w 9998 _ _ Tryz.underlying37 hinf]
  refine items_same 9997 _ w _ fun i hi => ?_
  have hi : i < 4 := by simpa using hi
  rcases (by omega : i = 0 ∨ i = 1 ∨ i = 2 ∨ i = 3) with rfl | rfl | rfl | rfl <;> exact ⟨_, rfl⟩
 rw [eqFields_cons (f := fld "PC" 35 0 0) (by simp [fld]) p0 p0 ((eu s.pc).trans (by rw [beq_self_eq_true]))]
 rw [eqFields_cons (f := fld "R" 36 1 4) (by simp [fld]) p1 p1 e1]
 rw [eqFields_cons (f := fld "F" 35 17 68) (by simp [fld]) p2 p2 ((eu s.f).trans (by rw [beq_self_eq_true]))]
 rw [eqFields_cons (f := fld "C" 37 18 72) (by simp [fld]) p3 p3 e3]
 rw [eqFields_cons (f := fld "Steps" 3 22 88) (by simp [fld]) p4 p4 ((ei s.steps).trans (by rw [beq_self_eq_true]))]
 rw [eqFields_cons (f := fld "Due" 3 23 96) (by simp [fld]) p5 p5 ((ei s.due).trans (by rw [beq_self_eq_true]))]
 simp only [Op.eqFields, Sem.run_pure]
theorem st_neq (s : St) (w : World) : (binOp .neq 39 (stV s) (stV s)).run Tryz.prog w = .ok (.bool false) w := by
 rw [run_neq_struct, st_equal s]; rfl
theorem q_neq_st {w0 : World} {G : Gs} {S : List Ow} {f : Fr} {o : Oper} {K : AV → Prop} {x y : Operand} {t' : TypeId} {L : List Value} (s : St) (hL : L = stL s []) (hop : o.op = .binOp .neq 39 x y t') (hx : f.ev x = .p (.agg (L.map .v))) (hy : f.ev y = .p (.agg (L.map .v))) (hk : K (one (.bool false))) : QRun Tryz.prog w0 G S f o K := by
 subst hL
 refine ⟨_, hk, fun r a hf => ?_⟩
 have h1 := hf.ev x
 have h2 := hf.ev y
 rw [hx] at h1; rw [hy] at h2
 have e1 := AV.val_den (val_agg _) h1
 have e2 := AV.val_den (val_agg _) h2
 refine ⟨_, den_one _ _, fun w hR => ?_⟩
 have hg := run_eqGuard_agg (P := Tryz.prog) w .neq 39 x y (stL s []).toArray (stL s []).toArray (by kernel_rfl)
 have hb := st_neq s w
 simp only [execOp, hop, e1, e2, Sem.run_bind, hg, Result.andThen_ok, hb, Sem.run_pure]
theorem cpu_cut {L : List Value} (h : L.length = 24) (X : List CV) : cut (L.map CV.v ++ X) 0 24 = some (L.map .v) := by
 have hl : (L.map CV.v).length = 24 := by rw [List.length_map]; exact h
 have hb : Nat.ble (0 + 24) (L.map CV.v ++ X).length = true := Nat.ble_eq_true_of_le (by rw [List.length_append]; omega)
 simp only [cut, hb]
 rw [List.drop_zero, List.take_append_of_le_length (by omega), List.take_of_length_le (by omega)]
theorem cpu_at {L : List Value} (h : L.length = 24) (X : List CV) (k : Nat) : (L.map CV.v ++ X)[24 + k]? = X[k]? := by
 have hl : (L.map CV.v).length = 24 := by rw [List.length_map]; exact h
 rw [List.getElem?_append_right (by omega), hl, show 24 + k - 24 = k by omega]
theorem cpu_pre {L : List Value} (h : L.length = 24) (X : List CV) {k : Nat} (hk : k < 24) : (L.map CV.v ++ X)[k]? = (L.map CV.v)[k]? := by
 have hl : (L.map CV.v).length = 24 := by rw [List.length_map]; exact h
 rw [List.getElem?_append_left (by omega)]
theorem cpu_put {L L' : List Value} (h : L.length = 24) (h' : L'.length = 24) (X : List CV) : setAll (L.map CV.v ++ X) 0 (L'.map .v) = L'.map .v ++ X := by
 have hl : (L.map CV.v).length = 24 := by rw [List.length_map]; exact h
 have hl' : (L'.map CV.v).length = 24 := by rw [List.length_map]; exact h'
 rw [setAll_take (L'.map .v) (L.map .v) 0 (by omega) 24 (by omega) X, setAll_same (by omega)]
theorem cut_vars {x : Outc} (h : x.vars.length = 28) : cut (outC x) (0 + 4) 28 = some (varsC x.vars) := by
 have hb : Nat.ble (0 + 4 + 28) (outC x).length = true := Nat.ble_eq_true_of_le (by simp [h])
 simp only [cut, hb]
 show some ((varsC x.vars).take 28) = _
 rw [List.take_of_length_le (by simp [h])]
theorem avals_2st (L : List Value) : avals [one (intV 2), .p (.agg (L.map .v))] = some [intV 2, .agg L.toArray] := by
 simp only [avals, AV.val, Pc.val, valL_vals L, CV.val]
theorem avals_2stv (L : List Value) (vs : List Int) : avals [one (intV 2), .p (.agg (L.map .v)), .p (.agg (varsC vs))] = some [intV 2, .agg L.toArray, varsV vs] := by
 simp only [avals, AV.val, Pc.val, valL_vals, CV.val]
theorem avals_evl (x y z : Value) (vs : List Int) : avals [.p (.agg [.v x, .v y, .v z]), .p (.agg (varsC vs))] = some [.agg #[x, y, z], varsV vs] := by
 simp only [avals, AV.val, Pc.val, valL_vals, valL, CV.val]
theorem avals_1st (L : List Value) : avals [.p (.agg (L.map .v))] = some [.agg L.toArray] := by
 simp only [avals, AV.val, Pc.val, valL_vals]
end Go.Proofs.YtnhdcclpjildjaaGreat
namespace Go.Proofs.YtnhdcclpjildjaaGreat
open Go.RowKit

abbrev stC (s : St) (T : List Value) : List CV := (stL s T).map CV.v
theorem stC_congr {s : St} {R R' : Int → Int} (h : ∀ j, 0 ≤ j → j < 16 → R j = R' j) : stC { s with R := R } [] = stC { s with R := R' } [] := congrArg (List.map CV.v) (stL_congr h [])
theorem stC_set {s : St} {R : Int → Int} {X : List CV} {j : Int} (x : Int) (hX : X = stC { s with R := R } []) (h0 : 0 ≤ j) (h1 : j < 16) : setAll X (0 + 1 + j.toNat * 1) [.v (u32V x)] = stC { s with R := regU R j x } [] := by
 rw [hX]; exact st_setR { s with R := R } [] x h0 h1
def lvR (V : Int → Int) : Int → Int := fun j => if j = 0 then 0 else V j
set_option maxRecDepth 100000 in
set_option maxHeartbeats 2000000 in
theorem leave_walk (s : St) (vs : List Int) (hvs : VarsOk vs) (w : World) : Calls Tryz.prog 48 #[intV 2, stV s, varsV vs] w fun e w' => e = .returned (stV { s with R := lvR (getV vs), f := 0 }) ∧ Below w.heap.size w w' := by
 obtain ⟨L, hL⟩ : ∃ L, L = stL s [] := ⟨_, rfl⟩
 have hLl : (L.map CV.v).length = 24 := by rw [hL]; rfl
 rw [show stV s = .agg L.toArray by rw [hL]]
 refine calls_satq [intV 2, .agg L.toArray, varsV vs] Tryz.func48 Tryz.ntmps48 rfl (by simp) ?_
 refine satq_seqN ?_
 conv => whnf
 refine satq_seqN ?_
 conv => whnf
 (repeat ((first | apply k1 | apply k2 | apply k3 | apply k4 | refine k5 (by decide) ?_ | refine k6 (by decide) ?_); conv => whnf))
 obtain ⟨Z0, hZ0⟩ : ∃ Z0 : List CV, Z0 = stC ⟨0, fun _ => 0, 0, 0, 0, 0, 0, 0, 0⟩ [] := ⟨_, rfl⟩
 have hZ0l : Z0.length = 24 := by rw [hZ0]; rfl
 refine satq_mid (α := { x : (Int → Int) × List CV // (∀ i, 0 ≤ i → i < 16 → x.1 i = lvR (getV vs) i) ∧ x.2 = stC { s with R := x.1 } [] }) (fun _ => [(0, one (intV 2)), (4, .p (.c (.ref 0 0))), (5, .p (.c (.ref 1 0))), (6, .p (.c (.ref 2 0)))]) (fun x => [.cells stT x.1.2, .cells 53 (varsC vs), .cells stT Z0]) ?_ fun x => ?_
 ·refine satq_seqN ?_
  conv => whnf
  refine satq_block ?_
  refine satq_loop (α := { x : Nat × (Int → Int) × List CV // x.1 ≤ 16 ∧ (∀ i, 0 ≤ i → i < (x.1 : Int) → x.2.1 i = lvR (getV vs) i) ∧ x.2.2 = stC { s with R := x.2.1 } [] }) (fun x => [(0, one (intV 2)), (4, .p (.c (.ref 0 0))), (5, .p (.c (.ref 1 0))), (6, .p (.c (.ref 2 0))), (7, one (intV (x.1.1 : Int)))]) (fun x => [.cells stT x.1.2.2, .cells 53 (varsC vs), .cells stT Z0]) (fun x => 16 - x.1.1)
   ⟨(0, s.R, stC s []), by omega, fun i h0 h1 => by have h1 : i < ((0 : Nat) : Int) := h1; omega, rfl⟩ (ent_same rfl (aI rfl (aI rfl (aI rfl (aI rfl (aI rfl trivial))))) (aI ((aI rfl (Or.inl (by rw [hL])))) (aI sM (aI ((aI rfl (Or.inl (by rw [hZ0]; rfl)))) trivial)))) fun x => ?_
  obtain ⟨⟨j, R, X⟩, hj, hR, hX⟩ := x
  dsimp only at hj hR hX ⊢
  have hXl : X.length = 24 := by rw [hX]; rfl
  refine satq_seqN ?_
  conv => whnf
  refine ⟨fun hc => ?_, fun hc => ?_⟩
  ·have hlt : j < 16 := by simp at hc; omega
   conv => whnf
   refine satq_in (satq_block ?_)
   refine satq_mid (α := { X : List CV // X = stC { s with R := regU R (j : Int) 0 } [] }) (fun _ => [(0, one (intV 2)), (4, .p (.c (.ref 0 0))), (5, .p (.c (.ref 1 0))), (6, .p (.c (.ref 2 0))), (7, one (intV (j : Int)))]) (fun x => [.cells stT x.1, .cells 53 (varsC vs), .cells stT Z0]) ?_ fun y => ?_
   ·refine satq_vcN ?_
    conv => whnf
    (refine ⟨⟨by omega, by omega⟩, ?_⟩; (conv=>whnf))
    erw [len_ble X hXl (m := 0 + 1 + (j : Int).toNat * 1 + 1) (by omega)]
    conv => whnf
    erw [len_big X hXl (by omega)]
    conv => whnf
    exact atq_mid ⟨_, stC_set 0 hX (by omega) (by omega)⟩ (ent_same rfl (aI rfl (aI rfl (aI rfl (aI rfl (aI rfl trivial))))) (aI sM (aI sM (aI sM trivial))))
   obtain ⟨Y, hY⟩ := y
   dsimp only
   have hYl : Y.length = 24 := by rw [hY]; rfl
   refine satq_seqN ?_
   conv => whnf
   (repeat ((first | apply k1 | apply k2 | apply k3 | apply k4 | refine k5 (by decide) ?_ | refine k6 (by decide) ?_); conv => whnf))
   by_cases h0 : j = 0
   ·subst h0
    refine satq_cond rfl (fun h => absurd h (by decide)) fun _ => ?_
    refine satq_skip (atq_block (atq_on ?_))
    refine satq_vcN ?_
    conv => whnf
    refine ⟨_, wr64 (by omega), ?_⟩
    conv => whnf
    exact atq_next ⟨(1, regU R 0 0, Y), by show (1 : Nat) ≤ 16; omega, fun i h0 h1 => by
     have h1 : i < ((1 : Nat) : Int) := h1
     obtain rfl : i = 0 := by omega
     rfl, hY⟩ (ent_same rfl (aI rfl (aI rfl (aI rfl (aI rfl (aI rfl trivial))))) (aI sM (aI sM (aI sM trivial)))) (by show 16 - 1 < 16 - 0; omega)
   ·refine satq_cond rfl (fun _ => ?_) fun h => absurd h (by simp; omega)
    refine satq_vcN ?_
    conv => whnf
    (refine ⟨⟨by omega, by omega⟩, ?_⟩; (conv=>whnf))
    erw [var_at hvs (i := (j : Int)) (by omega)]
    conv => whnf
    (refine ⟨⟨by omega, by omega⟩, ?_⟩; (conv=>whnf))
    erw [len_ble Y hYl (m := 0 + 1 + (j : Int).toNat * 1 + 1) (by omega)]
    conv => whnf
    erw [len_big Y hYl (by omega)]
    conv => whnf
    refine atq_block (atq_on ?_)
    refine satq_vcN ?_
    conv => whnf
    refine ⟨_, wr64 (by omega), ?_⟩
    conv => whnf
    exact atq_next ⟨(j + 1, regU (regU R (j : Int) 0) (j : Int) (getV vs (j : Int)), _), by show j + 1 ≤ 16; omega, fun i i0 i1 => by
     have i1 : i < ((j + 1 : Nat) : Int) := i1
     show (if i = (j : Int) then getV vs (j : Int) else if i = (j : Int) then 0 else R i) = lvR (getV vs) i
     by_cases he : i = (j : Int)
     ·rw [if_pos he, he]; unfold lvR; rw [if_neg (by omega)]
     ·rw [if_neg he, if_neg he]; exact hR i i0 (by omega), stC_set (getV vs (j : Int)) hY (by omega) (by omega)⟩ (ent_same rfl (aI rfl (aI rfl (aI rfl (aI rfl (aI rfl trivial))))) (aI sM (aI sM (aI sM trivial)))) (by show 16 - (j + 1) < 16 - j; omega)
  ·have he : j = 16 := by simp at hc; omega
   subst he
   conv => whnf
   exact atq_out (atq_exit (atq_mid ⟨(R, X), hR, hX⟩ (ent_same rfl (aI rfl (aI rfl (aI rfl (aI rfl trivial)))) (aI sM (aI sM (aI sM trivial))))))
 obtain ⟨⟨R, X⟩, hR, hX⟩ := x
 dsimp only at hR hX ⊢
 have hXl : X.length = 24 := by rw [hX]; rfl
 refine satq_mid (α := { X : List CV // X = stC { s with R := lvR (getV vs), f := 0 } [] }) (fun _ => [(0, one (intV 2)), (4, .p (.c (.ref 0 0))), (5, .p (.c (.ref 1 0))), (6, .p (.c (.ref 2 0)))]) (fun x => [.cells stT x.1, .cells 53 (varsC vs), .cells stT Z0]) ?_ fun y => ?_
 ·refine satq_vcN ?_
  conv => whnf
  erw [len_ble X hXl (m := 0 + 17 + 1) (by omega)]
  conv => whnf
  erw [len_big X hXl (by omega)]
  conv => whnf
  exact atq_mid ⟨_, by rw [hX, stC_congr (s := s) hR]; rfl⟩ (ent_same rfl (aI rfl (aI rfl (aI rfl (aI rfl trivial)))) (aI sM (aI sM (aI sM trivial))))
 obtain ⟨Y, hY⟩ := y
 dsimp only
 have hYl : Y.length = 24 := by rw [hY]; rfl
 have hY1 : ∀ S, onesL S Y = true := fun S => by rw [hY]; rfl
 refine satq_vcN ?_
 conv => whnf
 (repeat ((first | apply k1 | apply k2 | apply k3 | apply k4 | refine k5 (by decide) ?_ | refine k6 (by decide) ?_); conv => whnf))
 erw [cut_all hYl]
 conv => whnf
 erw [beq_len hYl]
 conv => whnf
 erw [hY1]
 conv => whnf
 erw [len_ble Z0 hZ0l (m := 0 + Y.length) (by omega)]
 conv => whnf
 erw [len_big Z0 hZ0l (by omega)]
 conv => whnf
 erw [setAll_same (by rw [hYl, hZ0l])]
 refine atq_ret ?_
 conv => whnf
 erw [cut_all hYl]
 conv => whnf
 rw [hY]
 exact fin_val (val_agg _) fun w2 hB => ⟨rfl, hB⟩
end Go.Proofs.YtnhdcclpjildjaaGreat
namespace Go.Proofs.YtnhdcclpjildjaaGreat
open Go.RowKit

structure Tl where
 a : List Value
 b : List Value
 c : List Value
 d : List Value
 e : List Value
def MemP.tl (M : MemP) (t : Tl) : MemP := { M with td := t.a, ti := t.b, tod := t.c, toi := t.d, tr := t.e }
theorem tl_ok {M : MemP} {n p : Nat} (hM : M.ok n p) (t : Tl) : (M.tl t).ok n p := ⟨hM.ld, hM.li, hM.lr, hM.lod, hM.loi, hM.np, hM.pmax, hM.db, hM.ib, hM.rb⟩
theorem tl_fet (M : MemP) (t : Tl) : (M.tl t).fet = M.fet := rfl
theorem bad_tl (M : MemP) (t : Tl) (a r : Int) : ∀ i k : Nat, (M.tl t).bad a r i k = M.bad a r i k
 | _, 0 => rfl
 | i, k + 1 => by
  unfold MemP.bad
  rw [bad_tl M t a r (i + 1) k]; rfl
theorem load_tl (M : MemP) (t : Tl) (a : Int) : ∀ i k : Nat, (M.tl t).load a i k = M.load a i k
 | _, 0 => rfl
 | i, k + 1 => by
  unfold MemP.load
  rw [load_tl M t a (i + 1) k]; rfl
theorem store_tl (t : Tl) (a : Int) : ∀ (i k : Nat) (x : Int) (M : MemP), MemP.store a i k x (M.tl t) = (MemP.store a i k x M).tl t
 | _, 0, _, _ => rfl
 | i, k + 1, x, M => store_tl t a (i + 1) k (x / 256) (M.put ((a + i) % 4294967296) (x % 256))
theorem storeM_tl (M : MemP) (t : Tl) (a : Int) (m : Nat) (x : Int) : (M.tl t).storeM a m x = (M.storeM a m x).tl t := by
 unfold MemP.storeM
 rw [bad_tl]
 cases M.bad a 2 0 m with
 | none => exact store_tl t a 0 m x M
 | some y => rfl
theorem store_keep (a : Int) : ∀ (i k : Nat) (x : Int) (M : MemP), (MemP.store a i k x M).image = M.image ∧ (MemP.store a i k x M).rights = M.rights ∧ (MemP.store a i k x M).data.length = M.data.length
 | _, 0, _, _ => ⟨rfl, rfl, rfl⟩
 | i, k + 1, x, M => by
  obtain ⟨h1, h2, h3⟩ := store_keep a (i + 1) k (x / 256) (M.put ((a + i) % 4294967296) (x % 256))
  exact ⟨h1, h2, h3.trans List.length_set⟩
theorem fet_of {M M' : MemP} (h1 : M'.image = M.image) (h2 : M'.rights = M.rights) (h3 : M'.data.length = M.data.length) : M'.fet = M.fet := by
 funext a
 unfold MemP.fet MemP.right MemP.code
 rw [h1, h2, h3]
theorem storeM_fet (M : MemP) (a : Int) (m : Nat) (x : Int) : (M.storeM a m x).fet = M.fet := by
 unfold MemP.storeM
 split
 ·obtain ⟨h1, h2, h3⟩ := store_keep a 0 m x M
  exact fet_of h1 h2 h3
 ·rfl
def tlQ (t : Tl) (y : (Int → Int) × Int × MemP) : (Int → Int) × Int × MemP := (y.1, y.2.1, y.2.2.tl t)
theorem stepQ_tl (i : QI) (a : Int) (R : Int → Int) (M : MemP) (t : Tl) : stepQ i a R (M.tl t) = (stepQ i a R M).map (tlQ t) := by
 unfold stepQ
 by_cases c0 : i.op = 10 ∧ R i.b = 0
 ·rw [if_pos c0, if_pos c0]; rfl
 rw [if_neg c0, if_neg c0]
 by_cases c1 : qCode i.op ≠ 0
 ·rw [if_pos c1, if_pos c1]; rfl
 rw [if_neg c1, if_neg c1]
 by_cases c2 : i.op = 41
 ·rw [if_pos c2, if_pos c2]; rfl
 rw [if_neg c2, if_neg c2]
 by_cases c3 : i.op = 23
 ·rw [if_pos c3, if_pos c3, bad_tl, load_tl]; cases M.bad ((R i.a + i.imm) % 4294967296) 1 0 4 <;> rfl
 rw [if_neg c3, if_neg c3]
 by_cases c4 : i.op = 24
 ·rw [if_pos c4, if_pos c4, bad_tl, load_tl]; cases M.bad ((R i.a + i.imm) % 4294967296) 1 0 1 <;> rfl
 rw [if_neg c4, if_neg c4]
 by_cases c5 : i.op = 25
 ·rw [if_pos c5, if_pos c5, bad_tl, storeM_tl]; cases M.bad ((R i.a + i.imm) % 4294967296) 2 0 4 <;> rfl
 rw [if_neg c5, if_neg c5]
 by_cases c6 : i.op = 26
 ·rw [if_pos c6, if_pos c6, bad_tl, storeM_tl]; cases M.bad ((R i.a + i.imm) % 4294967296) 2 0 1 <;> rfl
 rw [if_neg c6, if_neg c6]
 by_cases c7 : i.op = 27
 ·rw [if_pos c7, if_pos c7]; rfl
 rw [if_neg c7, if_neg c7]
 by_cases c8 : i.op = 40
 ·rw [if_pos c8, if_pos c8]; rfl
 rw [if_neg c8, if_neg c8]
 by_cases c9 : 32 ≤ i.op ∧ i.op ≤ 37
 ·rw [if_pos c9, if_pos c9]; rfl
 rw [if_neg c9, if_neg c9]
 rfl
theorem runQ_tl (F : Int → Option QI) (pc : Int) (n : Nat) (t : Tl) : ∀ (fuel k : Nat) (R : Int → Int) (M : MemP), runQ F pc n fuel k R (M.tl t) = ⟨(runQ F pc n fuel k R M).leaves, (runQ F pc n fuel k R M).done, (runQ F pc n fuel k R M).pc, (runQ F pc n fuel k R M).R, (runQ F pc n fuel k R M).M.tl t⟩
 | 0, k, R, M => rfl
 | fuel + 1, k, R, M => by
  rw [runQ_succ, runQ_succ, stepQ_tl]
  cases stepQ (qAt F (qAddr pc k)) (qAddr pc k) R M with
  | none => rfl
  | some y =>
   obtain ⟨R', nx, M'⟩ := y
   dsimp only [Option.map, tlQ]
   cases qTail (qAt F (qAddr pc k)) (qAddr pc k) with
   | some _ => rfl
   | none =>
    dsimp only
    by_cases hk : k + 1 = n
    ·rw [if_pos hk, if_pos hk]
    ·rw [if_neg hk, if_neg hk]
     exact runQ_tl F pc n t fuel (k + 1) R' M'
theorem upd_word {R : Int → Int} (hR : ∀ j, 0 ≤ j → j < 16 → word (R j)) (d : Int) {x : Int} (hx : word x) (j : Int) (h0 : 0 ≤ j) (h1 : j < 16) : word (updR R d x j) := by
 unfold updR
 split
 ·exact hR j h0 h1
 ·show word (if j = d then x else R j)
  split
  ·exact hx
  ·exact hR j h0 h1
theorem upd_zero {R : Int → Int} (h0 : R 0 = 0) (d x : Int) : updR R d x 0 = 0 := by
 unfold updR
 split
 ·exact h0
 ·show (if (0 : Int) = d then x else R 0) = 0
  rw [if_neg (by omega)]; exact h0
theorem stepQ_facts {i : QI} (hi : i.ok) {a : Int} {R : Int → Int} {M : MemP} {n p : Nat} (hR : ∀ j, 0 ≤ j → j < 16 → word (R j)) (h0 : R 0 = 0) (hM : M.ok n p) {R' : Int → Int} {nx : Int} {M' : MemP} (h : stepQ i a R M = some (R', nx, M')) : word nx ∧ (∀ j, 0 ≤ j → j < 16 → word (R' j)) ∧ R' 0 = 0 ∧ M'.ok n p ∧ M'.fet = M.fet ∧ i.op < 48 := by
 unfold stepQ at h
 by_cases c0 : i.op = 10 ∧ R i.b = 0
 ·rw [if_pos c0] at h
  cases h
 rw [if_neg c0] at h
 by_cases c1 : qCode i.op ≠ 0
 ·rw [if_pos c1] at h
  injection h with h; injection h with h1 h2; injection h2 with h2 h3; subst h1; subst h2; subst h3; exact ⟨cut32_word _, fun j h0 h1 => upd_word hR _ (wordOp_word (hR _ hi.a.1 hi.a.2) (by split; exact hi.imm; exact hR _ hi.b.1 hi.b.2)) j h0 h1, upd_zero h0 _ _, hM, rfl, by have := qCode_zero.1 c1; omega⟩
 rw [if_neg c1] at h
 by_cases c2 : i.op = 41
 ·rw [if_pos c2] at h
  injection h with h; injection h with h1 h2; injection h2 with h2 h3; subst h1; subst h2; subst h3; exact ⟨cut32_word _, fun j h0 h1 => upd_word hR _ (cut32_word _) j h0 h1, upd_zero h0 _ _, hM, rfl, by omega⟩
 rw [if_neg c2] at h
 by_cases c3 : i.op = 23
 ·rw [if_pos c3] at h
  cases hb : M.bad ((R i.a + i.imm) % 4294967296) 1 0 4 with
  | some y => rw [hb] at h; cases h
  | none => rw [hb] at h; injection h with h; injection h with h1 h2; injection h2 with h2 h3; subst h1; subst h2; subst h3; exact ⟨cut32_word _, fun j h0 h1 => upd_word hR _ (load_word _ _ _ _) j h0 h1, upd_zero h0 _ _, hM, rfl, by omega⟩
 rw [if_neg c3] at h
 by_cases c4 : i.op = 24
 ·rw [if_pos c4] at h
  cases hb : M.bad ((R i.a + i.imm) % 4294967296) 1 0 1 with
  | some y => rw [hb] at h; cases h
  | none => rw [hb] at h; injection h with h; injection h with h1 h2; injection h2 with h2 h3; subst h1; subst h2; subst h3; exact ⟨cut32_word _, fun j h0 h1 => upd_word hR _ (load_word _ _ _ _) j h0 h1, upd_zero h0 _ _, hM, rfl, by omega⟩
 rw [if_neg c4] at h
 by_cases c5 : i.op = 25
 ·rw [if_pos c5] at h
  cases hb : M.bad ((R i.a + i.imm) % 4294967296) 2 0 4 with
  | some y => rw [hb] at h; cases h
  | none => rw [hb] at h; injection h with h; injection h with h1 h2; injection h2 with h2 h3; subst h1; subst h2; subst h3; exact ⟨cut32_word _, hR, h0, storeM_ok hM _ _ (hR _ hi.d.1 hi.d.2).1, storeM_fet _ _ _ _, by omega⟩
 rw [if_neg c5] at h
 by_cases c6 : i.op = 26
 ·rw [if_pos c6] at h
  cases hb : M.bad ((R i.a + i.imm) % 4294967296) 2 0 1 with
  | some y => rw [hb] at h; cases h
  | none => rw [hb] at h; injection h with h; injection h with h1 h2; injection h2 with h2 h3; subst h1; subst h2; subst h3; exact ⟨cut32_word _, hR, h0, storeM_ok hM _ _ (hR _ hi.d.1 hi.d.2).1, storeM_fet _ _ _ _, by omega⟩
 rw [if_neg c6] at h
 by_cases c7 : i.op = 27
 ·rw [if_pos c7] at h
  injection h with h; injection h with h1 h2; injection h2 with h2 h3; subst h1; subst h2; subst h3; exact ⟨by unfold word; omega, fun j h0 h1 => upd_word hR _ (cut32_word _) j h0 h1, upd_zero h0 _ _, hM, rfl, by omega⟩
 rw [if_neg c7] at h
 by_cases c8 : i.op = 40
 ·rw [if_pos c8] at h
  injection h with h; injection h with h1 h2; injection h2 with h2 h3; subst h1; subst h2; subst h3; exact ⟨cut32_word _, fun j h0 h1 => upd_word hR _ (cut32_word _) j h0 h1, upd_zero h0 _ _, hM, rfl, by omega⟩
 rw [if_neg c8] at h
 by_cases c9 : 32 ≤ i.op ∧ i.op ≤ 37
 ·rw [if_pos c9] at h
  injection h with h; injection h with h1 h2; injection h2 with h2 h3; subst h1; subst h2; subst h3; exact ⟨by split <;> exact cut32_word _, hR, h0, hM, rfl, by omega⟩
 rw [if_neg c9] at h
 cases h
structure RunOk (M0 : MemP) (n p : Nat) (R : Int → Int) (a : Int) (M : MemP) : Prop where
 pc : word a
 reg : ∀ j, 0 ≤ j → j < 16 → word (R j)
 zero : R 0 = 0
 mem : M.ok n p
 fet : M.fet = M0.fet
theorem iter_ok {F : Int → Option QI} (hF : ∀ a i, F a = some i → i.ok) {M0 : MemP} {n p : Nat} : ∀ (m : Nat) {R : Int → Int} {a : Int} {M : MemP}, RunOk M0 n p R a M → ∀ {y : (Int → Int) × Int × MemP}, iterQ F m R a M = some y → RunOk M0 n p y.1 y.2.1 y.2.2
 | 0, R, a, M, h, y, hy => by
  injection hy with hy; subst hy; exact h
 | m + 1, R, a, M, h, y, hy => by
  rw [iterQ_succ] at hy
  cases hs : stepQ (qAt F a) a R M with
  | none => rw [hs] at hy; cases hy
  | some z =>
   obtain ⟨R', nx, M'⟩ := z
   rw [hs] at hy
   obtain ⟨h1, h2, h3, h4, h5, _⟩ := stepQ_facts (qAt_ok hF a) h.reg h.zero h.mem hs
   exact iter_ok hF m ⟨h1, h2, h3, h4, h5.trans h.fet⟩ hy
theorem iter_snoc {F : Int → Option QI} : ∀ (m : Nat) (R : Int → Int) (a : Int) (M : MemP), iterQ F (m + 1) R a M = (iterQ F m R a M).bind fun y => stepQ (qAt F y.2.1) y.2.1 y.1 y.2.2
 | 0, R, a, M => by
  rw [iterQ_succ]
  show _ = stepQ (qAt F a) a R M
  cases stepQ (qAt F a) a R M with
  | none => rfl
  | some z => rfl
 | m + 1, R, a, M => by
  rw [iterQ_succ]
  conv => rhs; rw [iterQ_succ]
  cases stepQ (qAt F a) a R M with
  | none => rfl
  | some z => exact iter_snoc m z.1 z.2.1 z.2.2
theorem iter_pre {F : Int → Option QI} {R : Int → Int} {a : Int} {M : MemP} : ∀ (d j : Nat), j ≤ d → ∀ {y : (Int → Int) × Int × MemP}, iterQ F d R a M = some y → ∃ z, iterQ F j R a M = some z
 | 0, j, hj, y, h => by
  obtain rfl : j = 0 := by omega
  exact ⟨y, h⟩
 | d + 1, j, hj, y, h => by
  by_cases he : j = d + 1
  ·subst he; exact ⟨y, h⟩
  ·rw [iter_snoc] at h
   cases hd : iterQ F d R a M with
   | none => rw [hd] at h; cases h
   | some z => exact iter_pre d j (by omega) hd
theorem step_zero (a : Int) (R : Int → Int) (M : MemP) : stepQ ⟨0, 0, 0, 0, 0⟩ a R M = none := rfl
theorem step_some {F : Int → Option QI} {a : Int} {R : Int → Int} {M : MemP} {y : (Int → Int) × Int × MemP} (h : stepQ (qAt F a) a R M = some y) : ∃ i, F a = some i ∧ qAt F a = i := by
 cases hF : F a with
 | none =>
  unfold qAt at h
  rw [hF] at h
  exact absurd h (by rw [Option.getD_none, step_zero]; exact fun h => by cases h)
 | some i => exact ⟨i, rfl, by unfold qAt; rw [hF]; rfl⟩
def gL (R : Int → Int) : List Int := (List.range 28).map fun j : Nat => if j < 16 then R (j : Int) else 0
theorem gL_len (R : Int → Int) : (gL R).length = 28 := by unfold gL; rw [List.length_map, List.length_range]
theorem gL_get (R : Int → Int) {j : Int} (h0 : 0 ≤ j) (h1 : j < 16) : getV (gL R) j = R j := by
 unfold getV gL
 rw [List.getElem?_map, List.getElem?_range (by omega)]
 show (if j.toNat < 16 then R (j.toNat : Int) else 0) = R j
 rw [if_pos (by omega), Int.toNat_of_nonneg h0]
theorem gL_ok {R : Int → Int} (hR : ∀ j, 0 ≤ j → j < 16 → word (R j)) : VarsOk (gL R) := by
 refine ⟨gL_len R, fun x hx => ?_⟩
 obtain ⟨j, hj, rfl⟩ := List.mem_map.1 hx
 split
 ·exact hR _ (by omega) (by omega)
 ·exact word0
theorem guests_det {vs : List Int} {R : Int → Int} (h : RegOk vs R) (h2 : ∀ j, 16 ≤ j → j < 19 → getV vs j = 0) : guestsL vs = gL R := by
 have hl := h.vars.len
 have hg : ∀ j : Nat, j < 28 → vs[j]? = some (getV vs (j : Int)) := fun j hj => by
  unfold getV
  rw [Int.toNat_natCast, List.getElem?_eq_getElem (by omega)]; rfl
 refine List.ext_getElem? fun j => ?_
 unfold guestsL gL
 rw [hl, List.getElem?_map]
 rcases Nat.lt_or_ge j 28 with hj | hj
 ·rw [List.getElem?_range hj, Option.map_some]
  by_cases h19 : j < 19
  ·rw [List.getElem?_append_left (by rw [List.length_take]; omega), List.getElem?_take, if_pos h19, hg j hj]
   by_cases h16 : j < 16
   ·rw [if_pos h16, h.regs (j : Int) (by omega) (by omega)]
   ·rw [if_neg h16, h2 (j : Int) (by omega) (by omega)]
  ·rw [List.getElem?_append_right (by rw [List.length_take]; omega), List.getElem?_replicate, List.length_take, if_pos (by omega), if_neg (by omega)]
 ·rw [List.getElem?_eq_none (l := List.range 28) (by rw [List.length_range]; exact hj), List.getElem?_eq_none (by rw [List.length_append, List.length_take, List.length_replicate]; omega)]; rfl
def outR (r : RunR) : Outc := ⟨r.leaves, if r.leaves = true then (r.done : Int) else 0, r.done, r.pc, gL r.R⟩
def runM (M : MemP) (s : St) (most : Int) : RunR := runQ (readQ M.fet) s.pc (limN most) (limN most) 0 s.R M
theorem lift_out {M : MemP} {n p : Nat} (hM : M.ok n p) {s : St} (hs : s.ok) (most : Int) (t : Tl) :
  evalBlk (liftM M s.pc most) (entL s.R 16) (M.tl t) = ⟨outR (runM M s most), (runM M s most).M.tl t⟩ ∧ ((runM M s most).leaves = false → (runM M s most).done = (liftM M s.pc most).at_.length) ∧ ((runM M s most).leaves = true → (runM M s most).done < (liftM M s.pc most).at_.length) := by
 have hF : ∀ a i, readQ M.fet a = some i → i.ok := fun a i h => readQ_ok (fun a b h => fet_byte hM a b h) h
 obtain ⟨l1, l2⟩ := limN_ok most
 obtain ⟨vs, h1, h2, h3, h4, h5⟩ := liftQ_eval hF s.pc l1 l2 (entL s.R 16) s.R (M.tl t) (enter_reg hs)
 rw [runQ_tl] at h1 h3 h4 h5
 refine ⟨?_, h4, h5⟩
 have hg := guests_det h1 (fun j j0 j1 => by
  rw [h2 j j0 j1]
  rcases (by omega : j = 16 ∨ j = 17 ∨ j = 18) with rfl | rfl | rfl <;> rfl)
 show evalBlk (liftQ (readQ M.fet) s.pc (limN most)) (entL s.R 16) (M.tl t) = _
 rw [h3]
 unfold RunR.out outR
 rw [hg]
 rfl
end Go.Proofs.YtnhdcclpjildjaaGreat
