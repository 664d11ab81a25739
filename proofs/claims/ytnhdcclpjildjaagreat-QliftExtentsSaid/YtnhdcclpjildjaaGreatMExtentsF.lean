/- Walks: whether an instruction is simple; the state enters the variables, and leaves them. -/
import Derived.Test.YtnhdcclpjildjaaGreatMExtentsE
namespace Go.Proofs.YtnhdcclpjildjaaGreat
open Go.RowKit

theorem readQ_op {M : MemP} {n p : Nat} (hM : M.ok n p) {pc : Int} {i : QI} (h : readQ M.fet pc = some i) : i.ok ∧ (qForm i.op).is = true := by
 have hF := fun a b (h : M.fet a = some b) => fet_byte hM a b h
 refine ⟨readQ_ok hF h, ?_⟩
 unfold readQ at h
 split at h
 ·cases hr : readN M.fet pc 4 with
  | none => rw [hr] at h; cases h
  | some x =>
   rw [hr] at h
   exact (validQ_parts (decQ_valid h).1).1
 ·cases h
set_option maxRecDepth 100000 in
set_option maxHeartbeats 8000000 in
theorem simple_walk (M : MemP) (n p : Nat) (pc : Int) (w : World) (g : Nat) (gs : List Nat) (hU : ObjsAt w (g :: gs) (memS 0 n p M)) (hM : M.ok n p) (hpc : word pc) :
  Calls Tryz.prog 44 #[u32V pc, .pointer (some ⟨g, 0, none⟩)] w fun e w' => e = .returned (.bool (M.simp pc)) ∧ ObjsAt w' (g :: gs) (memS 0 n p M) ∧ GrownBys w w' (g :: gs) := by
 obtain ⟨g0, g1, g2, g3, g4, g5, hg⟩ := six_blocks hU
 injection hg with hg0 hgs
 subst hgs; subst hg0
 refine calls_objs_satq [one (u32V pc), .p (.c (.ref 0 0))] [u32V pc, .pointer (some ⟨g, 0, none⟩)] Tryz.func44 Tryz.ntmps44 rfl (by simp) hU ⟨_, _, rfl, den_one _ _, _, _, rfl, den_mk_ref rfl, rfl⟩ ?_
 have hz := fk_zero (M := M) hpc
 refine satq_seqN ?_
 conv => whnf
 refine satq_seqN ?_
 conv => whnf
 refine call_memR (pre := [one (u32V pc)]) (suf := []) 0 n p M (fetV6 ((readQ M.fet pc).getD QI.zero) (M.fk pc) (M.fi pc)) (fun i hi => by rw [Nat.zero_add]) rfl rfl (by kernel_rfl) (fun w' g gs hk hU => fetch6_walk M n p pc w' g gs hU hM hpc) ?_
 unfold MemP.simp
 generalize M.fk pc = k at hz ⊢
 cases hr : readQ M.fet pc with
 | none =>
  rw [hr] at hz
  have hk : ¬ k = 0 := by simpa using hz
  conv => whnf
  refine satq_seqN ?_
  conv => whnf
  refine ⟨fun _ => ?_, fun hc => absurd hc (by simpa using hk)⟩
  conv => whnf
  refine atq_ret ?_
  conv => whnf
  exact fin_objs rfl rfl (fun i o h => sub_append i o h) (memS_ob n p M) fun w' h1 h2 => ⟨rfl, h1, h2⟩
 | some i =>
  have hi := (readQ_op hM hr).1.op
  rw [hr] at hz
  have hk : k = 0 := by simpa using hz
  subst hk
  obtain ⟨op, d, a, b, imm⟩ := i
  dsimp only at hi
  rw [Option.getD_some]
  conv => whnf
  refine satq_seqN ?_
  conv => whnf
  (repeat ((first | apply k1 | apply k2 | apply k3 | apply k4 | refine k5 (by decide) ?_ | refine k6 (by decide) ?_); conv => whnf))
  by_cases hlt : op < 48
  ·have hs : simpleQ op = true := by unfold simpleQ; simpa using hlt
   have e8 : (op == 48) = false := by simp; omega
   have e9 : (op == 49) = false := by simp; omega
   have e0 : (op == 50) = false := by simp; omega
   have e1 : (op == 51) = false := by simp; omega
   have e2 : (op == 52) = false := by simp; omega
   have e3 : (op == 53) = false := by simp; omega
   have e4 : (op == 54) = false := by simp; omega
   refine satq_vcN ?_
   conv => whnf
   refine ⟨fun h => absurd h (by rw [e8]; decide), fun _ => ?_⟩
   conv => whnf
   refine ⟨fun h => absurd h (by rw [e9]; decide), fun _ => ?_⟩
   conv => whnf
   refine ⟨fun h => absurd h (by rw [e0]; decide), fun _ => ?_⟩
   conv => whnf
   refine ⟨fun h => absurd h (by rw [e1]; decide), fun _ => ?_⟩
   conv => whnf
   refine ⟨fun h => absurd h (by rw [e2]; decide), fun _ => ?_⟩
   conv => whnf
   refine ⟨fun h => absurd h (by rw [e3]; decide), fun _ => ?_⟩
   conv => whnf
   rw [e4]
   (repeat ((first | apply k1 | apply k2 | apply k3 | apply k4 | refine k5 (by decide) ?_ | refine k6 (by decide) ?_); conv => whnf))
   refine atq_ret ?_
   conv => whnf
   exact fin_objs rfl rfl (fun i o h => sub_append i o h) (memS_ob n p M) fun w' h1 h2 => ⟨by show _ = Ending.returned (.bool (simpleQ op)); rw [hs], h1, h2⟩
  ·have hform := (readQ_op hM hr).2
   have h2 := is_ops hform
   dsimp only at h2
   rcases (by omega : op = 48 ∨ op = 49 ∨ op = 50 ∨ op = 51 ∨ op = 52 ∨ op = 53 ∨ op = 54) with rfl | rfl | rfl | rfl | rfl | rfl | rfl
   all_goals
    refine satq_vcN ?_
    conv => whnf
    (repeat ((first | apply k1 | apply k2 | apply k3 | apply k4 | refine k5 (by decide) ?_ | refine k6 (by decide) ?_); conv => whnf))
    refine atq_ret ?_
    conv => whnf
    exact fin_objs rfl rfl (fun i o h => sub_append i o h) (memS_ob n p M) fun w' h1 h2 => ⟨rfl, h1, h2⟩
end Go.Proofs.YtnhdcclpjildjaaGreat
namespace Go.Proofs.YtnhdcclpjildjaaGreat
open Go.RowKit

abbrev regU (R : Int → Int) (d x : Int) : Int → Int := fun j => if j = d then x else R j
theorem st_setR (s : St) (T : List Value) {j : Int} (x : Int) (h0 : 0 ≤ j) (h1 : j < 16) : setAll ((stL s T).map CV.v) (0 + 1 + j.toNat * 1) [.v (u32V x)] = (stL { s with R := regU s.R j x } T).map .v := by
 rcases (by omega : j = 0 ∨ j = 1 ∨ j = 2 ∨ j = 3 ∨ j = 4 ∨ j = 5 ∨ j = 6 ∨ j = 7 ∨ j = 8 ∨ j = 9 ∨ j = 10 ∨ j = 11 ∨ j = 12 ∨ j = 13 ∨ j = 14 ∨ j = 15) with rfl | rfl | rfl | rfl | rfl | rfl | rfl | rfl | rfl | rfl | rfl | rfl | rfl | rfl | rfl | rfl <;> rfl
theorem len_ble (l : List CV) {n m : Nat} (hl : l.length = n) (h : m ≤ n) : Nat.ble m l.length = true := Nat.ble_eq_true_of_le (by omega)
theorem len_big (l : List CV) {n : Nat} (hl : l.length = n) (h : 8 < n) : Nat.ble l.length 8 = false := by rw [hl]; exact ble_no h
end Go.Proofs.YtnhdcclpjildjaaGreat
namespace Go.Proofs.YtnhdcclpjildjaaGreat
open Go.RowKit

abbrev stC (s : St) (T : List Value) : List CV := (stL s T).map CV.v
theorem stC_set {s : St} {R : Int → Int} {X : List CV} {j : Int} (x : Int) (hX : X = stC { s with R := R } []) (h0 : 0 ≤ j) (h1 : j < 16) : setAll X (0 + 1 + j.toNat * 1) [.v (u32V x)] = stC { s with R := regU R j x } [] := by
 rw [hX]; exact st_setR { s with R := R } [] x h0 h1
end Go.Proofs.YtnhdcclpjildjaaGreat
namespace Go.Proofs.YtnhdcclpjildjaaGreat
open Go.RowKit

theorem cpu_put {L L' : List Value} (h : L.length = 24) (h' : L'.length = 24) (X : List CV) : setAll (L.map CV.v ++ X) 0 (L'.map .v) = L'.map .v ++ X := by
 have hl : (L.map CV.v).length = 24 := by rw [List.length_map]; exact h
 have hl' : (L'.map CV.v).length = 24 := by rw [List.length_map]; exact h'
 rw [setAll_take (L'.map .v) (L.map .v) 0 (by omega) 24 (by omega) X, setAll_same (by omega)]
theorem avals_1st (L : List Value) : avals [.p (.agg (L.map .v))] = some [.agg L.toArray] := by
 simp only [avals, AV.val, Pc.val, valL_vals]
end Go.Proofs.YtnhdcclpjildjaaGreat
namespace Go.Proofs.YtnhdcclpjildjaaGreat
open Go.RowKit

theorem seven_blocks {w : World} {gs : List Nat} {n p : Nat} {us : List Value} {M : MemP} (h : ObjsAt w gs (cpuU 0 us n p M)) : ∃ g0 g1 g2 g3 g4 g5 g6, gs = [g0, g1, g2, g3, g4, g5, g6] := by
 have := h.len
 match gs, this with
 | [g0, g1, g2, g3, g4, g5, g6], _ => exact ⟨g0, g1, g2, g3, g4, g5, g6, rfl⟩
end Go.Proofs.YtnhdcclpjildjaaGreat
namespace Go.Proofs.YtnhdcclpjildjaaGreat
open Go.RowKit

theorem bytesA_drop (l : List Int) (k : Nat) : (bytesA l).extract k (bytesA l).size = bytesA (l.drop k) := by
 have h : ((bytesA l).extract k (bytesA l).size).data = (bytesA (l.drop k)).data := by
  apply Array.ext'
  rw [bytesA_list, ByteArray.data_extract, Array.toList_extract, List.extract_eq_take_drop, bytesA_list, ← List.map_drop]
  exact List.take_of_length_le (by rw [List.length_map, List.length_drop, bytesA_size]; omega)
 exact ByteArray.ext h
theorem q_slice_str {P : Program} {w0 : World} {G : Gs} {S : List Ow} {f : Fr} {o : Oper} {K : AV → Prop} {t : TypeId} {x y : Operand} {q : IntKind} (l : List Int) (k : Nat) (hop : o.op = .slice t x (some y) none none) (ht : P.underlying t = some .string) (hx : f.ev x = one (strV l)) (hy : f.ev y = one (.int q (k : Int))) (hk : k ≤ l.length) (hK : K (one (strV (l.drop k)))) : QRun P w0 G S f o K := by
 refine ⟨_, hK, fun r a hf => ?_⟩
 have h1 := hf.ev x
 have h2 := hf.ev y
 rw [hx] at h1
 rw [hy] at h2
 refine ⟨_, rfl, fun w hR => ?_⟩
 have hs : (bytesA l).size = l.length := bytesA_size l
 simp [execOp, hop, den_v h1, den_v h2, Instr.sliceAt, Instr.slice, underlying, ht, strV, Instr.sliceBounds, Instr.sliceBound, asIntOf, hs, hk, ← bytesA_drop]
theorem cpu_grpG (g g1 g2 g3 g4 g5 g6 : Nat) (us : List Value) (n p : Nat) (M : MemP) : grpOk ⟨[g, g1, g2, g3, g4, g5, g6], []⟩ (cpuU 0 us n p M) = true := by
 show sbnd 7 (cpuU 0 us n p M) = true
 have h : bndL 7 (us.map .v ++ [.ref 1 0]) = true := by
  induction us with
  | nil => rfl
  | cons u us ih => simpa only [List.map_cons, List.cons_append, bndL, CV.bnd] using ih
 simp only [sbnd, Ow.bnd, bndL_vals, bndL, CV.bnd, h]
 rfl
set_option maxRecDepth 100000 in
set_option maxHeartbeats 2000000 in
theorem set_cpu (s : St) (h0 : 0 ≤ s.steps) (hd : s.due = 0) (us : List Value) (hus : us.length = 24) (M : MemP) (n p : Nat) (w : World) (g : Nat) (gs : List Nat) (hU : ObjsAt w (g :: gs) (cpuU 0 us n p M)) :
  Calls Tryz.prog 38 #[.pointer (some ⟨g, 0, none⟩), stV s] w fun e w' => e = .returned (.tuple #[]) ∧ ObjsAt w' (g :: gs) (cpuU 0 (stL { s with R := regU s.R 0 0, f := 0 } []) n p M) ∧ GrownBys w w' (g :: gs) := by
 obtain ⟨g0, g1, g2, g3, g4, g5, g6, hg⟩ := seven_blocks hU
 injection hg with hg0 hgs
 subst hgs; subst hg0
 obtain ⟨L, hL⟩ : ∃ L, L = stL s [] := ⟨_, rfl⟩
 have hLS : StC L := by rw [hL]; exact stC_of s
 rw [show stV s = .agg L.toArray by rw [hL]]
 refine calls_objs_satq [.p (.c (.ref 0 0)), .p (.agg (L.map .v))] [.pointer (some ⟨g, 0, none⟩), .agg L.toArray] Tryz.func38 Tryz.ntmps38 rfl (by simp) hU ⟨_, _, rfl, den_mk_ref rfl, _, _, rfl, AV.of_den _ (.agg L.toArray), rfl⟩ ?_
 have hLl : (L.map CV.v).length = 24 := hLS.clen
 have hX0 : L.map CV.v = stC s [] := by rw [hL]
 refine satq_seqN ?_
 conv => whnf
 refine satq_mid (α := { X : List CV // X = stC { s with R := regU s.R 0 0 } [] }) (fun _ => [(0, .p (.c (.ref 0 0))), (3, .p (.c (.ref 7 0)))]) (fun x => cpuU 0 us n p M ++ ([.cells stT x.1] : List Ow)) ?_ fun x => ?_
 ·refine satq_vcN ?_
  conv => whnf
  (refine ⟨⟨by omega, by omega⟩, ?_⟩; (conv=>whnf))
  erw [len_ble _ hLl (m := 0 + 1 + (0 : Int).toNat * 1 + 1) (by omega)]
  conv => whnf
  erw [len_big _ hLl (by omega)]
  conv => whnf
  exact atq_mid ⟨_, rfl⟩ (ent_same rfl (aI rfl (aI rfl trivial)) (aI sM (aI sM (aI sM (aI sM (aI sM (aI sM (aI sM (aI ((aI rfl (Or.inl (stC_set (j := 0) 0 hX0 (by omega) (by omega))))) trivial)))))))))
 obtain ⟨X, hX⟩ := x
 dsimp only
 have hXl : X.length = 24 := by rw [hX]; rfl
 refine satq_mid (α := { X : List CV // X = stC { s with R := regU s.R 0 0, f := 0 } [] }) (fun _ => [(0, .p (.c (.ref 0 0))), (3, .p (.c (.ref 7 0)))]) (fun x => cpuU 0 us n p M ++ ([.cells stT x.1] : List Ow)) ?_ fun x => ?_
 ·refine satq_vcN ?_
  conv => whnf
  erw [len_ble _ hXl (m := 0 + 17 + 1) (by omega)]
  conv => whnf
  erw [len_big _ hXl (by omega)]
  conv => whnf
  exact atq_mid ⟨_, rfl⟩ (ent_same rfl (aI rfl (aI rfl trivial)) (aI sM (aI sM (aI sM (aI sM (aI sM (aI sM (aI sM (aI ((aI rfl (Or.inl (by rw [hX]; rfl)))) trivial)))))))))
 clear hX hXl X
 obtain ⟨X, hX⟩ := x
 dsimp only
 have hXl : X.length = 24 := by rw [hX]; rfl
 have h22 : X[0 + 22]? = some (.v (intV s.steps)) := by rw [hX]; rfl
 have h23 : X[0 + 23]? = some (.v (intV s.due)) := by rw [hX]; rfl
 refine satq_mid (α := Unit) (fun _ => [(0, .p (.c (.ref 0 0))), (3, .p (.c (.ref 7 0)))]) (fun _ => cpuU 0 us n p M ++ ([.cells stT X] : List Ow)) ?_ fun _ => ?_
 ·refine satq_vcN ?_
  conv => whnf
  erw [h22]
  conv => whnf
  refine op_max rfl rfl rfl rfl ?_
  rw [if_neg (by omega)]
  conv => whnf
  erw [len_ble _ hXl (m := 0 + 22 + 1) (by omega)]
  conv => whnf
  erw [len_big _ hXl (by omega)]
  conv => whnf
  exact atq_mid () (ent_same rfl (aI rfl (aI rfl trivial)) (aI sM (aI sM (aI sM (aI sM (aI sM (aI sM (aI sM (aI ((aI rfl (Or.inl (by rw [hX]; rfl)))) trivial)))))))))
 refine satq_mid (α := Unit) (fun _ => [(0, .p (.c (.ref 0 0))), (3, .p (.c (.ref 7 0)))]) (fun _ => cpuU 0 us n p M ++ ([.cells stT X] : List Ow)) ?_ fun _ => ?_
 ·refine satq_vcN ?_
  conv => whnf
  erw [h23]
  conv => whnf
  refine op_max rfl rfl rfl rfl ?_
  rw [if_neg (by omega)]
  conv => whnf
  erw [len_ble _ hXl (m := 0 + 23 + 1) (by omega)]
  conv => whnf
  erw [len_big _ hXl (by omega)]
  conv => whnf
  exact atq_mid () (ent_same rfl (aI rfl (aI rfl trivial)) (aI sM (aI sM (aI sM (aI sM (aI sM (aI sM (aI sM (aI ((aI rfl (Or.inl (by rw [hX]; rfl)))) trivial)))))))))
 obtain ⟨sf, hsf⟩ : ∃ sf : St, sf = { s with R := regU s.R 0 0, f := 0 } := ⟨_, rfl⟩
 obtain ⟨Lf, hLf⟩ : ∃ Lf, Lf = stL sf [] := ⟨_, rfl⟩
 have hLfS : StC Lf := by rw [hLf]; exact stC_of sf
 have hXf : X = Lf.map .v := by rw [hX, hLf, hsf]
 have hCl : (us.map CV.v ++ [CV.ref 1 0]).length = 25 := by rw [List.length_append, List.length_map, hus]; rfl
 clear hX hXl h22 h23
 subst hXf
 rw [← hsf, ← hLf]
 refine satq_vcN ?_
 conv => whnf
 erw [cut_all hLfS.clen]
 conv => whnf
 erw [beq_len hLfS.clen]
 conv => whnf
 erw [hLfS.one]
 conv => whnf
 erw [len_ble _ hCl (m := 0 + (Lf.map CV.v).length) (by rw [hLfS.clen]; omega)]
 conv => whnf
 erw [len_big _ hCl (by omega)]
 conv => whnf
 refine atq_as (f' := []) (S' := cpuU 0 Lf n p M) (ent_drop trivial (aI ((aI rfl (Or.inl (cpu_put (by rw [hus]) hLfS.len _)))) (aI sM (aI sM (aI sM (aI sM (aI sM (aI sM trivial))))))) rfl (cpu_grpG g g1 g2 g3 g4 g5 g6 Lf n p M)) (atq_end ?_)
 conv => whnf
 exact fin_objs rfl rfl (fun i o h => h) (cpuU_ob Lf n p M) fun w' h1 h2 => ⟨rfl, h1, h2⟩
end Go.Proofs.YtnhdcclpjildjaaGreat
namespace Go.Proofs.YtnhdcclpjildjaaGreat
open Go.RowKit

theorem zero_ok7 : (MemP.zero 7).ok 1792 7 := mem_zero_ok (p := 7) (by omega)
def LaidR (w : World) : Ending → World → Prop := fun e w' => ∃ g gs s M, e = .returned (ptrV g) ∧ s.ok ∧ s.pc = 256 ∧ s.steps < 1000 ∧ M.ok 1792 7 ∧ NewObjs w w' (g :: gs) (cpuU 0 (stL s []) 1792 7 M)
theorem fin_objsR {w0 : World} {g : Nat} {gs : List Nat} {S U : List Ow} {R : Ending → World → Prop} (hlen : U.length = (g :: gs).length) (hU : ∀ (i : Nat) (o : Ow), U[i]? = some o → S[i]? = some o) (hob : ObAll (g :: gs).length U) (h : ∀ w, ObjsAt w (g :: gs) U → GrownBys w0 w (g :: gs) → R (.returned (ptrV g)) w) : Fin w0 ⟨g :: gs, []⟩ S (.p (.c (.ref 0 0))) R := by
 refine ⟨fun r w u hR hd => ?_⟩
 obtain ⟨b, hb, rfl⟩ := den_ref hd
 rw [hR.first 0 g rfl] at hb
 injection hb with hb
 subst hb
 exact h w (hR.objs hlen hU hob) hR.growns
theorem putS_pre {S V : List Ow} (hl : V.length ≤ S.length) : ∀ (i : Nat) (o : Ow), V[i]? = some o → (putS S 0 V)[i]? = some o := fun i o h => by
 have hi : i < V.length := by
  rcases Nat.lt_or_ge i V.length with h1 | h1
  ·exact h1
  ·rw [List.getElem?_eq_none h1] at h; cases h
 rw [putS_get _ _ _ _ (by omega), if_pos (by omega)]
 exact h
theorem newObjs_then {w w1 w2 w' : World} {gs : List Nat} {U U' : List Ow} (hB : Below w.heap.size w w1) (hn : NewObjs w1 w2 gs U) (h1 : ObjsAt w' gs U') (h2 : GrownBys w2 w' gs) : NewObjs w w' gs U' := by
 have hBB : Below w.heap.size w w2 := hB.trans (hn.below.mono hB.size)
 refine ⟨h1, fun g hg => Nat.le_trans hB.size (hn.fresh g hg), h2.os.trans hBB.os, h2.tape.trans hBB.tape, h2.output.trans hBB.output, Nat.le_trans hBB.size h2.size, fun k hk => ?_⟩
 refine (h2.block k (Nat.lt_of_lt_of_le hk hBB.size) fun hm => ?_).trans (hBB.block k hk)
 have := hn.fresh k hm
 have := hB.size
 omega
abbrev fourT : TypeId := 23
theorem stC_setS {s : St} {X : List CV} {j : Int} (x : Int) (hX : X = stC s []) (h0 : 0 ≤ j) (h1 : j < 16) : setAll X (0 + 1 + j.toNat * 1) [.v (u32V x)] = stC { s with R := regU s.R j x } [] := stC_set (R := s.R) x hX h0 h1
theorem four_at {a b c d : Int} {k : Int} (h : 0 ≤ k ∧ k < 4) : ∃ x, [CV.v (intV a), .v (intV b), .v (intV c), .v (intV d)][k.toNat * 1]? = some (.v (intV x)) ∧ x ∈ [a, b, c, d] := by
 rcases (by omega : k = 0 ∨ k = 1 ∨ k = 2 ∨ k = 3) with rfl | rfl | rfl | rfl
 ·exact ⟨a, rfl, by simp⟩
 ·exact ⟨b, rfl, by simp⟩
 ·exact ⟨c, rfl, by simp⟩
 ·exact ⟨d, rfl, by simp⟩
theorem seven_at {x y : Int} (hx : 0 ≤ x ∧ x < 8) (hy : 0 ≤ y ∧ y < 8) {q : Nat} (h : q < 7) : ∃ z, [CV.v (intV 0), .v (intV 7), .v (intV 7), .v (intV 3), .v (intV 3), .v (intV x), .v (intV y)][0 + (q : Int).toNat * 1]? = some (.v (intV z)) ∧ 0 ≤ z ∧ z < 8 := by
 rcases (by omega : q = 0 ∨ q = 1 ∨ q = 2 ∨ q = 3 ∨ q = 4 ∨ q = 5 ∨ q = 6) with rfl | rfl | rfl | rfl | rfl | rfl | rfl
 ·exact ⟨0, rfl, by omega⟩
 ·exact ⟨7, rfl, by omega⟩
 ·exact ⟨7, rfl, by omega⟩
 ·exact ⟨3, rfl, by omega⟩
 ·exact ⟨3, rfl, by omega⟩
 ·exact ⟨x, rfl, hx⟩
 ·exact ⟨y, rfl, hy⟩
set_option maxRecDepth 100000 in
set_option maxHeartbeats 8000000 in
theorem laid_walk (w : World) (A : Option Addr) (n c : Nat) (n0 n1 n2 n3 : Int) (hn : n < 9223372036854775808) (hA : ProgAt w A n) : Calls Tryz.prog 14 #[.slice A n c, .agg #[intV n0, intV n1, intV n2, intV n3]] w (LaidR w) := by
 unfold LaidR
 refine calls_satq [.slice A n c, .agg #[intV n0, intV n1, intV n2, intV n3]] Tryz.func14 Tryz.ntmps14 rfl (by simp) ?_
 refine satq_seqN ?_
 conv => whnf
 refine satq_in (satq_jumpG 0 rfl rfl rfl ?_)
 conv => whnf
 refine ⟨by kernel_rfl, fun r w1 us hR hd => ?_⟩
 obtain rfl := avals_den (xs := [intV ((7 : Nat) : Int)]) rfl hd
 have hB := hR.toBelow
 obtain ⟨b3, vs0, e1, e2, e3⟩ := hR.own 0 _ rfl
 obtain rfl := denL_vals_inv (us := [intV n0, intV n1, intV n2, intV n3]) e3
 refine (cpu_new 7 w1 (by omega)).mono fun e w2 ⟨g, gs, he, hn2⟩ => ?_
 have hB2 := hn2.below
 have hq3 : w2.heap[b3]? = some (.cells #[intV n0, intV n1, intV n2, intV n3] fourT (0, 0)) := (hB2.block b3 (heap_lt e2)).trans e2
 have hBB : Below w.heap.size w w2 := hB.trans (hB2.mono hB.size)
 obtain ⟨g0, g1, g2, g3, g4, g5, g6, hgs⟩ := seven_blocks hn2.at_
 injection hgs with hg0 hgs
 subst hgs; subst hg0
 refine ⟨_, .p (.c (.ref 0 0)), w2, ⟨[g, g1, g2, g3, g4, g5, g6], []⟩, [(0, one (.slice A n c)), (3, one (ptrV b3))], cpuU 0 stZ 1792 7 (MemP.zero 7), envOf [g, g1, g2, g3, g4, g5, g6], he, rel_objs hn2.at_, fun a hf => frDen ⟨slot_same hf 0 rfl, slot_plain hf 3 rfl e1, trivial⟩, den_mk_ref rfl, ?_⟩
 conv => whnf
 refine atq_on ?_
 have hz := zero_ok7
 obtain ⟨M0, hM0⟩ : ∃ M0, M0 = MemP.zero 7 := ⟨_, rfl⟩
 rw [← hM0] at hz ⊢
 refine satq_seqN ?_
 conv => whnf
 refine call_ex (fun v => ∃ l : List Int, v = strV l ∧ l.length ≤ 400 ∧ ∀ x ∈ l, 0 ≤ x ∧ x < 256) rfl (by kernel_rfl) (fun r w' hR => words_walk w' A n c hn (hA.keep (Nat.le_trans hBB.size hR.size) fun k hk => (hR.old k (Nat.lt_of_lt_of_le hk hBB.size) fun hm => by
  rcases hm with hm | hm
  ·have := hn2.fresh k hm
   have := hB.size
   omega
  ·cases hm).trans (hBB.block k hk))) fun v hv => ?_
 obtain ⟨l, rfl, hl, hlb⟩ := hv
 conv => whnf
 have hm0 := cpu_mem stZ 1792 7 M0 []
 refine satq_seqN ?_
 conv => whnf
 refine call_memW (pre := []) (suf := [one (u32V 256), one (strV l)]) 1 1792 7 M0 _ (.tuple #[]) hm0 rfl rfl (by kernel_rfl) (fun w g gs hk hU => mem_pokeAt M0 1792 7 _ _ w g gs hU hz (by unfold word; decide) hlb (by omega) (by omega)) ?_
 obtain ⟨M1, hM1⟩ : ∃ M1, M1 = M0.pokeAt 256 l l.length := ⟨_, rfl⟩
 have hk1 : M1.ok 1792 7 := by rw [hM1]; exact pokeAt_ok hz _ hlb _ (Nat.le_refl _)
 rw [← hM1]
 conv => whnf
 refine satq_as (f' := [(3, one (ptrV b3)), (5, .p (.c (.ref 0 0))), (6, one (strV l))]) (S' := cpuU 0 stZ 1792 7 M1) (ent_same rfl (aI rfl (aI rfl (aI rfl trivial))) (aI sM (aI sM (aI sM (aI sM (aI sM (aI sM (aI sM trivial)))))))) ?_
 have hm1 := cpu_mem stZ 1792 7 M1 []
 refine satq_seqN ?_
 conv => whnf
 refine call_memW (pre := []) (suf := [one (intV ((1 : Nat) : Int)), one (strV l)]) 1 1792 7 M1 _ (.tuple #[]) hm1 rfl rfl (by kernel_rfl) (fun w g gs hk hU => mem_setCode M1 1792 7 1 _ w g gs hU hk1 (by omega) hlb (by omega)) ?_
 obtain ⟨M2, hM2⟩ : ∃ M2, M2 = M1.codeTo 1 l (min l.length 256) := ⟨_, rfl⟩
 have hk2 : M2.ok 1792 7 := by rw [hM2]; exact codeTo_ok hk1 1 hlb _
 rw [← hM2]
 conv => whnf
 refine satq_as (f' := [(3, one (ptrV b3)), (5, .p (.c (.ref 0 0))), (6, one (strV l))]) (S' := cpuU 0 stZ 1792 7 M2) (ent_same rfl (aI rfl (aI rfl (aI rfl trivial))) (aI sM (aI sM (aI sM (aI sM (aI sM (aI sM (aI sM trivial)))))))) ?_
 have hm2 := cpu_mem stZ 1792 7 M2 []
 refine satq_mid (α := { M : MemP // M.ok 1792 7 }) (fun _ => [(3, one (ptrV b3)), (5, .p (.c (.ref 0 0)))]) (fun x => cpuU 0 stZ 1792 7 x.1) ?_ fun x => ?_
 ·refine satq_seqN ?_
  conv => whnf
  refine q_len_str l rfl rfl rfl ?_
  conv => whnf
  refine satq_vcN ?_
  conv => whnf
  refine ⟨fun hc => ?_, fun hc => ?_⟩
  ·have hgt : 256 < l.length := by simp at hc; omega
   conv => whnf
   refine sat_tail 6 mixed (by kernel_rfl) ?_
   conv => whnf
   refine q_slice_str l 256 rfl rfl rfl rfl (by omega) ?_
   conv => whnf
   have hdb : ∀ x ∈ l.drop 256, 0 ≤ x ∧ x < 256 := fun x hx => hlb x (List.mem_of_mem_drop hx)
   refine call_memW (pre := []) (suf := [one (intV ((2 : Nat) : Int)), one (strV (l.drop 256))]) 1 1792 7 M2 _ (.tuple #[]) hm2 rfl rfl (by kernel_rfl) (fun w g gs hk hU => mem_setCode M2 1792 7 2 _ w g gs hU hk2 (by omega) hdb (by rw [List.length_drop]; omega)) ?_
   obtain ⟨M3, hM3⟩ : ∃ M3, M3 = M2.codeTo 2 (l.drop 256) (min (l.drop 256).length 256) := ⟨_, rfl⟩
   have hk3 : M3.ok 1792 7 := by rw [hM3]; exact codeTo_ok hk2 2 hdb _
   rw [← hM3]
   conv => whnf
   exact atq_mid ⟨M3, hk3⟩ (ent_same rfl (aI rfl (aI rfl trivial)) (aI sM (aI sM (aI sM (aI sM (aI sM (aI sM (aI sM trivial))))))))
  ·conv => whnf
   exact atq_mid ⟨M2, hk2⟩ (ent_same rfl (aI rfl (aI rfl trivial)) (aI sM (aI sM (aI sM (aI sM (aI sM (aI sM (aI sM trivial))))))))
 obtain ⟨M3, hk3⟩ := x
 dsimp only
 have hfr : b3 ∉ (⟨[g, g1, g2, g3, g4, g5, g6], []⟩ : Gs) := fun hm => by
  rcases hm with hm | hm
  ·have := hn2.fresh b3 hm
   have := heap_lt e2
   omega
  ·cases hm
 have hcF : ∀ k x, [intV n0, intV n1, intV n2, intV n3][k]? = some x → CellsAt w2 (Gs.flat ⟨[g, g1, g2, g3, g4, g5, g6], []⟩) b3 k [x] := fun k x hx => cells_one (heap_lt hq3) (fun hm => hfr (flat_mem.1 hm)) (by simp [World.cell?, hq3, hx])
 have hcU : ∀ k x, [intV n0, intV n1, intV n2, intV n3][k]? = some x → CellsAt w2 ⟨[g, g1, g2, g3, g4, g5, g6], []⟩ b3 k [x] := fun k x hx => unflat (hcF k x hx)
 refine satq_mid (α := Unit) (fun _ => [(3, one (ptrV b3)), (5, .p (.c (.ref 0 0))), (7, .p (.c (.ref 7 0)))]) (fun _ => cpuU 0 stZ 1792 7 M3 ++ ([.cells 93 [.v (intV 0), .v (intV 7), .v (intV 7), .v (intV 3), .v (intV 3), .v (intV (n0 % 8)), .v (intV (n1 % 8))]] : List Ow)) ?_ fun _ => ?_
 ·refine satq_vcN ?_
  conv => whnf
  refine sat_anyG (.q 0 (.q 1 (.q 3 (.q 4 (.alt 2 (.alt 5 (.alt 6 (.alt 7 (.alt 8 .done .no) .no) (.alt 7 (.alt 6 (.alt 8 .done .no) .no) .no)) (.alt 7 (.alt 5 (.alt 6 (.alt 8 .done .no) .no) .no) .no)) (.alt 7 (.alt 2 (.alt 5 (.alt 6 (.alt 8 .done .no) .no) .no) .no) .no)))))) mixed (by kernel_rfl) (by kernel_rfl) ?_
  conv => whnf
  refine q_index_ptr (size := 1) b3 0 4 0 rfl rfl rfl rfl rfl rfl (by decide) (by decide) ?_
  conv => whnf
  refine ⟨intV n0, hcF 0 _ rfl, ?_⟩
  conv => whnf
  refine q_index_ptr (size := 1) b3 0 4 1 rfl rfl rfl rfl rfl rfl (by decide) (by decide) ?_
  conv => whnf
  refine ⟨intV n1, hcF 1 _ rfl, ?_⟩
  conv => whnf
  refine ⟨?_, ?_, trivial⟩
  ·conv => whnf
   refine call_con (x := intV (n0 % 8)) rfl (by kernel_rfl) (fun r w' hR => mod_ref n0 8 w' (by decide)) ?_
   conv => whnf
   refine ⟨?_, ?_, trivial⟩
   ·conv => whnf
    refine call_con (x := intV (n1 % 8)) rfl (by kernel_rfl) (fun r w' hR => mod_ref n1 8 w' (by decide)) ?_
    conv => whnf
    refine ⟨?_, ?_, trivial⟩
    ·conv => whnf
     refine ⟨?_, trivial⟩
     conv => whnf
     refine ⟨?_, trivial⟩
     conv => whnf
     exact atq_mid () (ent_same rfl (aI rfl (aI rfl (aI rfl trivial))) (aI sM (aI sM (aI sM (aI sM (aI sM (aI sM (aI sM (aI sM trivial)))))))))
    ·conv => whnf
     refine ⟨?_, trivial⟩
     conv => whnf
     refine ⟨?_, trivial⟩
     conv => whnf
     exact atq_mid () (ent_same rfl (aI rfl (aI rfl (aI rfl trivial))) (aI sM (aI sM (aI sM (aI sM (aI sM (aI sM (aI sM (aI sM trivial)))))))))
   ·conv => whnf
    refine ⟨?_, trivial⟩
    conv => whnf
    refine call_con (x := intV (n1 % 8)) rfl (by kernel_rfl) (fun r w' hR => mod_ref n1 8 w' (by decide)) ?_
    conv => whnf
    refine ⟨?_, trivial⟩
    conv => whnf
    refine ⟨?_, trivial⟩
    conv => whnf
    exact atq_mid () (ent_same rfl (aI rfl (aI rfl (aI rfl trivial))) (aI sM (aI sM (aI sM (aI sM (aI sM (aI sM (aI sM (aI sM trivial)))))))))
  ·conv => whnf
   refine ⟨?_, trivial⟩
   conv => whnf
   refine call_con (x := intV (n0 % 8)) rfl (by kernel_rfl) (fun r w' hR => mod_ref n0 8 w' (by decide)) ?_
   conv => whnf
   refine ⟨?_, trivial⟩
   conv => whnf
   refine call_con (x := intV (n1 % 8)) rfl (by kernel_rfl) (fun r w' hR => mod_ref n1 8 w' (by decide)) ?_
   conv => whnf
   refine ⟨?_, trivial⟩
   conv => whnf
   refine ⟨?_, trivial⟩
   conv => whnf
   exact atq_mid () (ent_same rfl (aI rfl (aI rfl (aI rfl trivial))) (aI sM (aI sM (aI sM (aI sM (aI sM (aI sM (aI sM (aI sM trivial)))))))))
 refine satq_mid (α := { M : MemP // M.ok 1792 7 }) (fun _ => [(3, one (ptrV b3)), (5, .p (.c (.ref 0 0)))]) (fun x => cpuU 0 stZ 1792 7 x.1) ?_ fun x => ?_
 ·refine satq_seqN ?_
  conv => whnf
  refine satq_block ?_
  refine satq_loop (α := { x : Nat × MemP // x.1 ≤ 7 ∧ x.2.ok 1792 7 }) (fun x => [(3, one (ptrV b3)), (5, .p (.c (.ref 0 0))), (7, .p (.c (.ref 7 0))), (8, one (intV (x.1.1 : Int)))]) (fun x => cpuU 0 stZ 1792 7 x.1.2 ++ ([.cells 93 [.v (intV 0), .v (intV 7), .v (intV 7), .v (intV 3), .v (intV 3), .v (intV (n0 % 8)), .v (intV (n1 % 8))]] : List Ow)) (fun x => 7 - x.1.1)
   ⟨(0, M3), by show 0 ≤ 7; omega, hk3⟩ (ent_same rfl (aI rfl (aI rfl (aI rfl (aI rfl trivial)))) (aI sM (aI sM (aI sM (aI sM (aI sM (aI sM (aI sM (aI sM trivial))))))))) fun x => ?_
  obtain ⟨⟨q, Q⟩, hq, hQ⟩ := x
  dsimp only at hq hQ ⊢
  have hmq := cpu_mem stZ 1792 7 Q ([.cells 93 [.v (intV 0), .v (intV 7), .v (intV 7), .v (intV 3), .v (intV 3), .v (intV (n0 % 8)), .v (intV (n1 % 8))]])
  refine satq_seqN ?_
  conv => whnf
  refine ⟨fun hc => ?_, fun hc => ?_⟩
  ·have hlt : q < 7 := by simp at hc; omega
   obtain ⟨z, hz1, hz2⟩ := seven_at (x := n0 % 8) (y := n1 % 8) (by omega) (by omega) hlt
   conv => whnf
   refine satq_in (satq_block ?_)
   refine satq_vcN ?_
   conv => whnf
   refine sat_tail 8 mixed (by kernel_rfl) ?_
   conv => whnf
   (refine ⟨⟨by omega, by omega⟩, ?_⟩; (conv=>whnf))
   erw [hz1]
   conv => whnf
   refine call_memW (pre := []) (suf := [one (intV (q : Int)), one (intV z)]) 1 1792 7 Q _ (.tuple #[]) hmq rfl rfl (by kernel_rfl) (fun w g gs hk hU => mem_protect Q 1792 7 q z w g gs hU hQ hlt (by omega) hz2) ?_
   conv => whnf
   refine atq_block (atq_on ?_)
   refine satq_vcN ?_
   conv => whnf
   refine ⟨(q : Int) + 1, wr64 (by omega), ?_⟩
   conv => whnf
   exact atq_next ⟨(q + 1, Q.protect q z), by show q + 1 ≤ 7; omega, protect_ok hQ q hz2⟩ (ent_same rfl (aI rfl (aI rfl (aI rfl (aI rfl trivial)))) (aI sM (aI sM (aI sM (aI sM (aI sM (aI sM (aI sM (aI sM trivial))))))))) (by show 7 - (q + 1) < 7 - q; omega)
  ·have he : q = 7 := by simp at hc; omega
   conv => whnf
   exact atq_out (atq_exit (atq_mid ⟨Q, hQ⟩ (ent_drop (aI rfl (aI rfl trivial)) (aI sM (aI sM (aI sM (aI sM (aI sM (aI sM (aI sM trivial))))))) rfl (cpu_grpG g g1 g2 g3 g4 g5 g6 stZ 1792 7 Q))))
 obtain ⟨M4, hk4⟩ := x
 dsimp only
 refine satq_mid (α := { M : MemP // M.ok 1792 7 }) (fun _ => [(3, one (ptrV b3)), (5, .p (.c (.ref 0 0)))]) (fun x => cpuU 0 stZ 1792 7 x.1) ?_ fun x => ?_
 ·refine satq_seqN ?_
  conv => whnf
  refine satq_block ?_
  refine satq_loop (α := { x : Nat × MemP // x.1 ≤ 64 ∧ x.2.ok 1792 7 }) (fun x => [(3, one (ptrV b3)), (5, .p (.c (.ref 0 0))), (9, one (intV (768 + (x.1.1 : Int))))]) (fun x => cpuU 0 stZ 1792 7 x.1.2) (fun x => 64 - x.1.1)
   ⟨(0, M4), by show 0 ≤ 64; omega, hk4⟩ (ent_same rfl (aI rfl (aI rfl (aI rfl trivial))) (aI sM (aI sM (aI sM (aI sM (aI sM (aI sM (aI sM trivial)))))))) fun x => ?_
  obtain ⟨⟨q, Q⟩, hq, hQ⟩ := x
  dsimp only at hq hQ ⊢
  refine satq_seqN ?_
  conv => whnf
  refine ⟨fun hc => ?_, fun hc => ?_⟩
  ·have hlt : q < 64 := by simp at hc; omega
   conv => whnf
   refine satq_mid (α := { M : MemP // M.ok 1792 7 }) (fun _ => [(3, one (ptrV b3)), (5, .p (.c (.ref 0 0))), (9, one (intV (768 + (q : Int))))]) (fun x => cpuU 0 stZ 1792 7 x.1) ?_ fun y => ?_
   ·refine satq_block ?_
    refine satq_vcN ?_
    conv => whnf
    refine sat_anyG (.q 0 (.q 1 (.q 2 (.q 4 (.q 5 (.q 6 (.q 7 (.q 8 (.q 9 (.q 10 (.q 11 (.q 12 (.alt 3 (.alt 13 (.alt 14 (.alt 15 .done .no) .no) .no) (.alt 13 (.alt 3 (.alt 14 (.alt 15 .done .no) .no) (.alt 14 (.alt 3 (.alt 15 .done .no) .no) .no)) .no)))))))))))))) mixed (by kernel_rfl) (by kernel_rfl) ?_
    conv => whnf
    refine ⟨768 + (q : Int), by rw [wr32]; omega, ?_⟩
    conv => whnf
    refine ⟨(768 + (q : Int)) * (768 + (q : Int)), wr64 ?_, ?_⟩
    ·have h1 : 768 + (q : Int) ≤ 832 := by omega
     have h2 : 0 ≤ 768 + (q : Int) := by omega
     have h3 : (768 + (q : Int)) * (768 + (q : Int)) ≤ 832 * 832 := Int.mul_le_mul h1 h1 h2 (by decide)
     have h4 : 0 ≤ (768 + (q : Int)) * (768 + (q : Int)) := Int.mul_nonneg h2 h2
     omega
    conv => whnf
    refine q_index_ptr (size := 1) b3 0 4 2 rfl rfl rfl rfl rfl rfl (by decide) (by decide) ?_
    conv => whnf
    refine ⟨intV n2, hcF 2 _ rfl, ?_⟩
    conv => whnf
    refine ex_gen fun m hm => ?_
    conv => whnf
    refine ex_gen fun b hb => ?_
    conv => whnf
    have hbr : 0 ≤ b ∧ b < 256 := by
     rw [← hb]
     show 0 ≤ m % 256 ∧ m % 256 < 256
     omega
    have hbb : ∀ x ∈ [b], 0 ≤ x ∧ x < 256 := fun x hx => by
     rw [List.mem_singleton.1 hx]; exact hbr
    refine ⟨?_, ?_, trivial⟩
    ·conv => whnf
     refine ⟨?_, trivial⟩
     conv => whnf
     refine ⟨?_, trivial⟩
     conv => whnf
     refine q_conv_str 7 1 1 [b] rfl rfl rfl rfl rfl rfl rfl ?_
     conv => whnf
     refine ⟨?_, trivial⟩
     conv => whnf
     refine call_memW (pre := []) (suf := [one (u32V (768 + (q : Int))), one (strV [b])]) 1 1792 7 Q _ (.tuple #[]) (cpu_mem stZ 1792 7 Q _) rfl rfl (by kernel_rfl) (fun w g gs hk hU => mem_pokeAt Q 1792 7 _ _ w g gs hU hQ (by unfold word; omega) hbb (by show 1 ≤ 1000000; decide) (by omega)) ?_
     conv => whnf
     exact atq_block (atq_mid ⟨_, pokeAt_ok hQ _ hbb _ (Nat.le_refl _)⟩ (ent_drop (aI rfl (aI rfl (aI rfl trivial))) (aI sM (aI sM (aI sM (aI sM (aI sM (aI sM (aI sM trivial))))))) rfl (cpu_grpG g g1 g2 g3 g4 g5 g6 stZ 1792 7 _)))
    ·conv => whnf
     refine ⟨?_, ?_, trivial⟩
     ·conv => whnf
      refine ⟨?_, trivial⟩
      conv => whnf
      refine q_conv_str 7 1 1 [b] rfl rfl rfl rfl rfl rfl rfl ?_
      conv => whnf
      refine ⟨?_, trivial⟩
      conv => whnf
      refine call_memW (pre := []) (suf := [one (u32V (768 + (q : Int))), one (strV [b])]) 1 1792 7 Q _ (.tuple #[]) (cpu_mem stZ 1792 7 Q _) rfl rfl (by kernel_rfl) (fun w g gs hk hU => mem_pokeAt Q 1792 7 _ _ w g gs hU hQ (by unfold word; omega) hbb (by show 1 ≤ 1000000; decide) (by omega)) ?_
      conv => whnf
      exact atq_block (atq_mid ⟨_, pokeAt_ok hQ _ hbb _ (Nat.le_refl _)⟩ (ent_drop (aI rfl (aI rfl (aI rfl trivial))) (aI sM (aI sM (aI sM (aI sM (aI sM (aI sM (aI sM trivial))))))) rfl (cpu_grpG g g1 g2 g3 g4 g5 g6 stZ 1792 7 _)))
     ·conv => whnf
      refine q_conv_str 7 1 1 [b] rfl rfl rfl rfl rfl rfl rfl ?_
      conv => whnf
      refine ⟨?_, trivial⟩
      conv => whnf
      refine ⟨?_, trivial⟩
      conv => whnf
      refine call_memW (pre := []) (suf := [one (u32V (768 + (q : Int))), one (strV [b])]) 1 1792 7 Q _ (.tuple #[]) (cpu_mem stZ 1792 7 Q _) rfl rfl (by kernel_rfl) (fun w g gs hk hU => mem_pokeAt Q 1792 7 _ _ w g gs hU hQ (by unfold word; omega) hbb (by show 1 ≤ 1000000; decide) (by omega)) ?_
      conv => whnf
      exact atq_block (atq_mid ⟨_, pokeAt_ok hQ _ hbb _ (Nat.le_refl _)⟩ (ent_drop (aI rfl (aI rfl (aI rfl trivial))) (aI sM (aI sM (aI sM (aI sM (aI sM (aI sM (aI sM trivial))))))) rfl (cpu_grpG g g1 g2 g3 g4 g5 g6 stZ 1792 7 _)))
   obtain ⟨Q2, hQ2⟩ := y
   dsimp only
   refine satq_vcN ?_
   conv => whnf
   refine ⟨768 + (q : Int) + 1, wr64 (by omega), ?_⟩
   conv => whnf
   rw [show 768 + (q : Int) + 1 = 768 + ((q + 1 : Nat) : Int) by omega]
   exact atq_next ⟨(q + 1, Q2), by show q + 1 ≤ 64; omega, hQ2⟩ (ent_same rfl (aI rfl (aI rfl (aI rfl trivial))) (aI sM (aI sM (aI sM (aI sM (aI sM (aI sM (aI sM trivial)))))))) (by show 64 - (q + 1) < 64 - q; omega)
  ·conv => whnf
   exact atq_out (atq_exit (atq_mid ⟨Q, hQ⟩ (ent_same rfl (aI rfl (aI rfl trivial)) (aI sM (aI sM (aI sM (aI sM (aI sM (aI sM (aI sM trivial))))))))))
 obtain ⟨M5, hk5⟩ := x
 dsimp only
 have hk1000 : 0 ≤ n3 % 1000 ∧ n3 % 1000 < 1000 := by omega
 refine satq_mid (α := { x : List CV × St // x.1 = stC x.2 [] ∧ x.2.pc = 256 ∧ (∀ j, 0 ≤ j → j < 16 → word (x.2.R j)) ∧ 0 ≤ x.2.steps ∧ x.2.steps < 1000 ∧ x.2.due = 0 }) (fun _ => [(3, one (ptrV b3)), (5, .p (.c (.ref 0 0))), (10, .p (.c (.ref 7 0)))]) (fun x => cpuU 0 stZ 1792 7 M5 ++ ([.cells stT x.1.1] : List Ow)) ?_ fun x => ?_
 ·refine satq_vcN ?_
  conv => whnf
  refine q_index_ptr (size := 1) b3 0 4 3 rfl rfl rfl rfl rfl rfl (by decide) (by decide) ?_
  conv => whnf
  refine ⟨intV n3, hcU 3 _ rfl, ?_⟩
  conv => whnf
  refine call_con (x := intV (n3 % 1000)) rfl (by kernel_rfl) (fun r w' hR => mod_ref n3 1000 w' (by decide)) ?_
  conv => whnf
  obtain ⟨Z, hZ⟩ : ∃ Z : List CV, Z = stC ⟨256, fun _ => 0, 0, 0, 0, 0, 0, n3 % 1000, 0⟩ [] := ⟨_, rfl⟩
  exact atq_mid ⟨(Z, ⟨256, fun _ => 0, 0, 0, 0, 0, 0, n3 % 1000, 0⟩), hZ, rfl, fun _ _ _ => word0, hk1000.1, hk1000.2, rfl⟩ (ent_same rfl (aI rfl (aI rfl (aI rfl trivial))) (aI sM (aI sM (aI sM (aI sM (aI sM (aI sM (aI sM (aI ((aI rfl (Or.inl (Eq.trans (b := stC ⟨256, fun _ => 0, 0, 0, 0, 0, 0, n3 % 1000, 0⟩ []) rfl hZ.symm)))) trivial)))))))))
 obtain ⟨⟨X, s⟩, hX, hpc, hreg, hst0, hst1, hdue⟩ := x
 dsimp only at hX hpc hreg hst0 hst1 hdue ⊢
 have hXl : X.length = 24 := by rw [hX]; rfl
 refine satq_mid (α := { x : List CV × St // x.1 = stC x.2 [] ∧ x.2.pc = 256 ∧ (∀ j, 0 ≤ j → j < 16 → word (x.2.R j)) ∧ 0 ≤ x.2.steps ∧ x.2.steps < 1000 ∧ x.2.due = 0 }) (fun _ => [(3, one (ptrV b3)), (5, .p (.c (.ref 0 0))), (10, .p (.c (.ref 7 0)))]) (fun x => cpuU 0 stZ 1792 7 M5 ++ ([.cells stT x.1.1] : List Ow)) ?_ fun x => ?_
 ·refine satq_vcN ?_
  conv => whnf
  (refine ⟨⟨by omega, by omega⟩, ?_⟩; (conv=>whnf))
  erw [len_ble X hXl (m := 0 + 1 + (1 : Int).toNat * 1 + 1) (by omega)]
  conv => whnf
  erw [len_big X hXl (by omega)]
  conv => whnf
  exact atq_mid ⟨(stC { s with R := regU s.R (1) (768) } [], { s with R := regU s.R (1) (768) }), rfl, hpc, fun k h0 h1 => by
   show word (if k = 1 then 768 else s.R k)
   split
   ·unfold word; decide
   ·exact hreg k h0 h1, hst0, hst1, hdue⟩ (ent_same rfl (aI rfl (aI rfl (aI rfl trivial))) (aI sM (aI sM (aI sM (aI sM (aI sM (aI sM (aI sM (aI ((aI rfl (Or.inl (stC_setS (j := 1) _ hX (by omega) (by omega))))) trivial)))))))))
 clear hX hXl hpc hreg hst0 hst1 hdue X s
 obtain ⟨⟨X, s⟩, hX, hpc, hreg, hst0, hst1, hdue⟩ := x
 dsimp only at hX hpc hreg hst0 hst1 hdue ⊢
 have hXl : X.length = 24 := by rw [hX]; rfl
 refine satq_mid (α := { x : List CV × St // x.1 = stC x.2 [] ∧ x.2.pc = 256 ∧ (∀ j, 0 ≤ j → j < 16 → word (x.2.R j)) ∧ 0 ≤ x.2.steps ∧ x.2.steps < 1000 ∧ x.2.due = 0 }) (fun _ => [(3, one (ptrV b3)), (5, .p (.c (.ref 0 0))), (10, .p (.c (.ref 7 0)))]) (fun x => cpuU 0 stZ 1792 7 M5 ++ ([.cells stT x.1.1] : List Ow)) ?_ fun x => ?_
 ·refine satq_vcN ?_
  conv => whnf
  refine q_index_ptr (size := 1) b3 0 4 2 rfl rfl rfl rfl rfl rfl (by decide) (by decide) ?_
  conv => whnf
  refine ⟨intV n2, hcU 2 _ rfl, ?_⟩
  conv => whnf
  refine call_con (x := intV (n2 % 8)) rfl (by kernel_rfl) (fun r w' hR => mod_ref n2 8 w' (by decide)) ?_
  conv => whnf
  refine ⟨1020 + n2 % 8, wr64 (by omega), ?_⟩
  conv => whnf
  refine ⟨1020 + n2 % 8, by rw [wr32]; omega, ?_⟩
  conv => whnf
  (refine ⟨⟨by omega, by omega⟩, ?_⟩; (conv=>whnf))
  erw [len_ble X hXl (m := 0 + 1 + (2 : Int).toNat * 1 + 1) (by omega)]
  conv => whnf
  erw [len_big X hXl (by omega)]
  conv => whnf
  exact atq_mid ⟨(stC { s with R := regU s.R (2) (1020 + n2 % 8) } [], { s with R := regU s.R (2) (1020 + n2 % 8) }), rfl, hpc, fun k h0 h1 => by
   show word (if k = 2 then 1020 + n2 % 8 else s.R k)
   split
   ·unfold word; omega
   ·exact hreg k h0 h1, hst0, hst1, hdue⟩ (ent_same rfl (aI rfl (aI rfl (aI rfl trivial))) (aI sM (aI sM (aI sM (aI sM (aI sM (aI sM (aI sM (aI ((aI rfl (Or.inl (stC_setS (j := 2) _ hX (by omega) (by omega))))) trivial)))))))))
 clear hX hXl hpc hreg hst0 hst1 hdue X s
 obtain ⟨⟨X, s⟩, hX, hpc, hreg, hst0, hst1, hdue⟩ := x
 dsimp only at hX hpc hreg hst0 hst1 hdue ⊢
 have hXl : X.length = 24 := by rw [hX]; rfl
 refine satq_mid (α := { x : List CV × St // x.1 = stC x.2 [] ∧ x.2.pc = 256 ∧ (∀ j, 0 ≤ j → j < 16 → word (x.2.R j)) ∧ 0 ≤ x.2.steps ∧ x.2.steps < 1000 ∧ x.2.due = 0 }) (fun _ => [(3, one (ptrV b3)), (5, .p (.c (.ref 0 0))), (10, .p (.c (.ref 7 0)))]) (fun x => cpuU 0 stZ 1792 7 M5 ++ ([.cells stT x.1.1] : List Ow)) ?_ fun x => ?_
 ·refine satq_vcN ?_
  conv => whnf
  refine q_index_ptr (size := 1) b3 0 4 3 rfl rfl rfl rfl rfl rfl (by decide) (by decide) ?_
  conv => whnf
  refine ⟨intV n3, hcU 3 _ rfl, ?_⟩
  conv => whnf
  refine call_con (x := intV (n3 % 4)) rfl (by kernel_rfl) (fun r w' hR => mod_ref n3 4 w' (by decide)) ?_
  conv => whnf
  obtain ⟨z, hz1, hz2⟩ := four_at (a := 256) (b := 1276) (c := 1532) (d := 1790) (k := n3 % 4) (by omega)
  have hz3 : 0 ≤ z ∧ z < 4294967296 := by
   simp only [List.mem_cons, List.not_mem_nil, or_false] at hz2
   omega
  (refine ⟨⟨by omega, by omega⟩, ?_⟩; (conv=>whnf))
  erw [hz1]
  conv => whnf
  refine ⟨z, by rw [wr32]; omega, ?_⟩
  conv => whnf
  (refine ⟨⟨by omega, by omega⟩, ?_⟩; (conv=>whnf))
  erw [len_ble X hXl (m := 0 + 1 + (3 : Int).toNat * 1 + 1) (by omega)]
  conv => whnf
  erw [len_big X hXl (by omega)]
  conv => whnf
  exact atq_mid ⟨(stC { s with R := regU s.R (3) (z) } [], { s with R := regU s.R (3) (z) }), rfl, hpc, fun k h0 h1 => by
   show word (if k = 3 then z else s.R k)
   split
   ·exact hz3
   ·exact hreg k h0 h1, hst0, hst1, hdue⟩ (ent_same rfl (aI rfl (aI rfl (aI rfl trivial))) (aI sM (aI sM (aI sM (aI sM (aI sM (aI sM (aI sM (aI ((aI rfl (Or.inl (stC_setS (j := 3) _ hX (by omega) (by omega))))) trivial)))))))))
 clear hX hXl hpc hreg hst0 hst1 hdue X s
 obtain ⟨⟨X, s⟩, hX, hpc, hreg, hst0, hst1, hdue⟩ := x
 dsimp only at hX hpc hreg hst0 hst1 hdue ⊢
 have hXl : X.length = 24 := by rw [hX]; rfl
 refine satq_mid (α := { x : List CV × St // x.1 = stC x.2 [] ∧ x.2.pc = 256 ∧ (∀ j, 0 ≤ j → j < 16 → word (x.2.R j)) ∧ 0 ≤ x.2.steps ∧ x.2.steps < 1000 ∧ x.2.due = 0 }) (fun _ => [(3, one (ptrV b3)), (5, .p (.c (.ref 0 0))), (10, .p (.c (.ref 7 0)))]) (fun x => cpuU 0 stZ 1792 7 M5 ++ ([.cells stT x.1.1] : List Ow)) ?_ fun x => ?_
 ·refine satq_seqN ?_
  conv => whnf
  refine satq_block ?_
  refine satq_loop (α := { x : Nat × List CV × St // 4 ≤ x.1 ∧ x.1 ≤ 16 ∧ x.2.1 = stC x.2.2 [] ∧ x.2.2.pc = 256 ∧ (∀ j, 0 ≤ j → j < 16 → word (x.2.2.R j)) ∧ 0 ≤ x.2.2.steps ∧ x.2.2.steps < 1000 ∧ x.2.2.due = 0 }) (fun x => [(3, one (ptrV b3)), (5, .p (.c (.ref 0 0))), (10, .p (.c (.ref 7 0))), (11, one (intV (x.1.1 : Int)))]) (fun x => cpuU 0 stZ 1792 7 M5 ++ ([.cells stT x.1.2.1] : List Ow)) (fun x => 16 - x.1.1)
   ⟨(4, X, s), by show 4 ≤ 4; omega, by show 4 ≤ 16; omega, hX, hpc, hreg, hst0, hst1, hdue⟩ (ent_same rfl (aI rfl (aI rfl (aI rfl (aI rfl trivial)))) (aI sM (aI sM (aI sM (aI sM (aI sM (aI sM (aI sM (aI sM trivial))))))))) fun x => ?_
  clear hX hXl hpc hreg hst0 hst1 hdue X s
  obtain ⟨⟨j, X, s⟩, hj0, hj1, hX, hpc, hreg, hst0, hst1, hdue⟩ := x
  dsimp only at hj0 hj1 hX hpc hreg hst0 hst1 hdue ⊢
  have hXl : X.length = 24 := by rw [hX]; rfl
  refine satq_seqN ?_
  conv => whnf
  refine ⟨fun hc => ?_, fun hc => ?_⟩
  ·have hlt : j < 16 := by simp at hc; omega
   obtain ⟨x, hx⟩ : ∃ x, [intV n0, intV n1, intV n2, intV n3][j % 4]? = some (intV x) := by
    rcases (by omega : j % 4 = 0 ∨ j % 4 = 1 ∨ j % 4 = 2 ∨ j % 4 = 3) with h | h | h | h <;> rw [h] <;> exact ⟨_, rfl⟩
   conv => whnf
   refine satq_in (satq_block ?_)
   refine satq_vcN ?_
   conv => whnf
   refine ⟨by decide, ((j % 4 : Nat) : Int), by rw [Int.tmod_eq_emod_of_nonneg (by omega)]; omega, ?_⟩
   conv => whnf
   refine q_index_ptr (size := 1) b3 0 4 (j % 4) rfl rfl rfl rfl rfl rfl (by omega) (by show (j : Int) % 4 < 4; omega) ?_
   conv => whnf
   refine ⟨intV x, by
    have := hcU (j % 4) _ hx
    rwa [show 0 + Int.toNat ((j : Int) % 4) * 1 = j % 4 by omega], ?_⟩
   conv => whnf
   refine call_con (x := intV (x % 40)) rfl (by kernel_rfl) (fun r w' hR => mod_ref x 40 w' (by decide)) ?_
   conv => whnf
   refine ⟨(j : Int) - 8, wr64 (by omega), ?_⟩
   conv => whnf
   refine ex_gen fun m hm => ?_
   conv => whnf
   refine ex_gen fun y hy => ?_
   have hyw : word y := by rw [← hy, wr32]; unfold word; omega
   conv => whnf
   (refine ⟨⟨by omega, by omega⟩, ?_⟩; (conv=>whnf))
   erw [len_ble X hXl (m := 0 + 1 + (j : Int).toNat * 1 + 1) (by omega)]
   conv => whnf
   erw [len_big X hXl (by omega)]
   conv => whnf
   refine atq_block (atq_on ?_)
   refine satq_vcN ?_
   conv => whnf
   refine ⟨(j : Int) + 1, wr64 (by omega), ?_⟩
   conv => whnf
   exact atq_next ⟨(j + 1, stC { s with R := regU s.R (j : Int) y } [], { s with R := regU s.R (j : Int) y }), by show 4 ≤ j + 1; omega, by show j + 1 ≤ 16; omega, rfl, hpc, fun k h0 h1 => by
    show word (if k = (j : Int) then y else s.R k)
    split
    ·exact hyw
    ·exact hreg k h0 h1, hst0, hst1, hdue⟩ (ent_same rfl (aI rfl (aI rfl (aI rfl (aI rfl trivial)))) (aI sM (aI sM (aI sM (aI sM (aI sM (aI sM (aI sM (aI ((aI rfl (Or.inl (stC_setS (j := (j : Int)) _ hX (by omega) (by omega))))) trivial))))))))) (by show 16 - (j + 1) < 16 - j; omega)
  ·conv => whnf
   exact atq_out (atq_exit (atq_mid ⟨(X, s), hX, hpc, hreg, hst0, hst1, hdue⟩ (ent_same rfl (aI rfl (aI rfl (aI rfl trivial))) (aI sM (aI sM (aI sM (aI sM (aI sM (aI sM (aI sM (aI sM trivial)))))))))))
 clear hX hXl hpc hreg hst0 hst1 hdue X s
 obtain ⟨⟨X, s⟩, hX, hpc, hreg, hst0, hst1, hdue⟩ := x
 dsimp only at hX hpc hreg hst0 hst1 hdue ⊢
 have hXl : X.length = 24 := by rw [hX]; rfl
 refine satq_mid (α := { x : List CV × St // x.1 = stC x.2 [] ∧ x.2.pc = 256 ∧ (∀ j, 0 ≤ j → j < 16 → word (x.2.R j)) ∧ 0 ≤ x.2.steps ∧ x.2.steps < 1000 ∧ x.2.due = 0 }) (fun _ => [(3, one (ptrV b3)), (5, .p (.c (.ref 0 0))), (10, .p (.c (.ref 7 0)))]) (fun x => cpuU 0 stZ 1792 7 M5 ++ ([.cells stT x.1.1] : List Ow)) ?_ fun x => ?_
 ·refine satq_vcN ?_
  conv => whnf
  (refine ⟨⟨by omega, by omega⟩, ?_⟩; (conv=>whnf))
  erw [len_ble X hXl (m := 0 + 18 + (1 : Int).toNat * 1 + 1) (by decide)]
  conv => whnf
  erw [len_big X hXl (by omega)]
  conv => whnf
  exact atq_mid ⟨(stC { s with c1 := 261 } [], { s with c1 := 261 }), rfl, hpc, hreg, hst0, hst1, hdue⟩ (ent_same rfl (aI rfl (aI rfl (aI rfl trivial))) (aI sM (aI sM (aI sM (aI sM (aI sM (aI sM (aI sM (aI ((aI rfl (Or.inl (by rw [hX]; rfl)))) trivial)))))))))
 clear hX hXl hpc hreg hst0 hst1 hdue X s
 obtain ⟨⟨X, s⟩, hX, hpc, hreg, hst0, hst1, hdue⟩ := x
 dsimp only at hX hpc hreg hst0 hst1 hdue ⊢
 have hXl : X.length = 24 := by rw [hX]; rfl
 obtain ⟨L, hL⟩ : ∃ L, L = stL s [] := ⟨_, rfl⟩
 have hXe : X = L.map .v := by rw [hX, hL]
 have hLl : (L.map CV.v).length = 24 := by rw [← hXe]; exact hXl
 rw [hXe]
 refine satq_seqN ?_
 conv => whnf
 erw [cut_all hLl]
 conv => whnf
 obtain ⟨sf, hsf⟩ : ∃ sf : St, sf = { s with R := regU s.R 0 0, f := 0 } := ⟨_, rfl⟩
 refine call_objs (α := Unit) (pre := []) (suf := [.p (.agg (L.map .v))]) (xs := []) (ys := [.agg L.toArray]) 0 (cpuU 0 stZ 1792 7 M5) (cpuU 0 stZ 1792 7 M5) (fun _ => cpuU 0 (stL sf []) 1792 7 M5) (fun _ => cpuU 0 (stL sf []) 1792 7 M5) (fun _ => .tuple #[]) (fun _ => True) (by simp) (cpuU_sh 0 stZ 1792 7 M5) (cpuU_ob stZ 1792 7 M5) (fun i hi => ?_) rfl (avals_1st L) (by kernel_rfl) (fun _ _ => cpuU_sh 0 _ 1792 7 M5) (fun _ _ => cpuU_ob _ 1792 7 M5) (fun _ _ => rfl) (fun w' q qs hk hU => ?_) fun _ _ => ?_
 ·rw [Nat.zero_add]
  exact List.getElem?_append_left hi
 ·rw [hL, hsf]
  exact (set_cpu s hst0 hdue stZ rfl M5 1792 7 w' q qs hU).mono fun e w'' ⟨h1, h2, h3⟩ => ⟨(), trivial, h1, h2, h3⟩
 conv => whnf
 refine satq_vcN ?_
 conv => whnf
 refine atq_ret ?_
 conv => whnf
 have hsf0 : sf.ok := by
  rw [hsf]
  refine ⟨by show word s.pc; rw [hpc]; unfold word; decide, fun k h0 h1 => ?_, rfl, rfl, hst0, by show s.steps < _; omega⟩
  show word (if k = 0 then 0 else s.R k)
  split
  ·exact word0
  ·exact hreg k h0 h1
 exact fin_objsR rfl (putS_pre (by show 7 ≤ 8; omega)) (cpuU_ob (stL sf []) 1792 7 M5) fun w' h1 h2 => ⟨g, _, sf, M5, rfl, hsf0, by rw [hsf]; exact hpc, by rw [hsf]; exact hst1, hk5, newObjs_then hB hn2 h1 h2⟩
end Go.Proofs.YtnhdcclpjildjaaGreat
