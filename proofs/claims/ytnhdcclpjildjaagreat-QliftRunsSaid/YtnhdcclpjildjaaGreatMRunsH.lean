/- The reference's machine with a program: Tame, Words. -/
import Derived.Test.YtnhdcclpjildjaaGreatK19
import Derived.Test.YtnhdcclpjildjaaGreatMRunsG
namespace Go.Proofs.YtnhdcclpjildjaaGreat
open Go.RowKit

theorem ex_gen {p : Int → Prop} {a : Int} (h : ∀ m, a = m → p m) : ∃ m, a = m ∧ p m := ⟨a, rfl, h a rfl⟩
def QI.fair (i : QI) : Prop := (0 ≤ i.op ∧ i.op < 64) ∧ word i.imm
set_option maxRecDepth 100000 in
set_option maxHeartbeats 2000000 in
theorem tame_walk (i : QI) (k : Int) (w : World) (hi : i.fair) : Calls Tryz.prog 65 #[qiV i, intV k] w fun e w' => ∃ v, e = .returned v ∧ (∃ j : QI, v = qiV j ∧ j.fair) ∧ Below w.heap.size w w' := by
 have hw1 := hi.2
 unfold word at hw1
 obtain ⟨im, him, him2⟩ : ∃ im, i.imm.tmod 64 = im ∧ word im := ⟨i.imm % 64, Int.tmod_eq_emod_of_nonneg hw1.1, by unfold word; omega⟩
 refine calls_satq [qiV i, intV k] Tryz.func65 Tryz.ntmps65 rfl (by simp) ?_
 refine satq_seqN ?_
 conv => whnf
 refine satq_mid (α := { j : QI // j.fair }) (fun _ => [(2, .p (.c (.ref 0 0))), (4, .p (.c (.ref 1 0)))]) (fun x => [Ow.cells qiT ((qiL x.1).map .v), Ow.cells qiT ((qiL QI.zero).map .v)]) ?_ fun x => ?_
 ·refine satq_vcN ?_
  conv => whnf
  have w32 : ∀ x, word (IntKind.u32.wrap x) := fun x => by rw [wr32]; unfold word; omega
  repeat' (first
   | exact atq_mid (⟨i, hi⟩ : { j : QI // j.fair }) (ent_same rfl (aI rfl (aI rfl trivial)) (aI sM (aI sM trivial)))
   | exact atq_mid ⟨⟨i.op, i.d, _, i.b, im⟩, hi.1, him2⟩ (ent_same rfl (aI rfl (aI rfl trivial)) (aI sM (aI sM trivial)))
   | (rename_i m hm; exact atq_mid ⟨⟨i.op, i.d, _, i.b, m⟩, hi.1, hm ▸ w32 _⟩ (ent_same rfl (aI rfl (aI rfl trivial)) (aI sM (aI sM trivial))))
   | (rename_i m hm; exact atq_mid (⟨⟨i.op, i.d, m, i.b, i.imm⟩, ⟨hi.1, hi.2⟩⟩ : { j : QI // j.fair }) (ent_same rfl (aI rfl (aI rfl trivial)) (aI sM (aI sM trivial))))
   | exact atq_mid (⟨⟨i.op, i.d, 4, i.b, i.imm⟩, ⟨hi.1, hi.2⟩⟩ : { j : QI // j.fair }) (ent_same rfl (aI rfl (aI rfl trivial)) (aI sM (aI sM trivial)))
   | (refine call_con rfl (by kernel_rfl) (fun r w' hR => mod_ref k _ w' (by decide)) ?_; conv => whnf)
   | (refine ⟨fun _ => ?_, nT⟩; (conv=>whnf)) | (refine ⟨fun _ => ?_, nF⟩; (conv=>whnf)) | (refine ⟨nF, fun _ => ?_⟩; (conv=>whnf)) | (refine ⟨nT, fun _ => ?_⟩; (conv=>whnf))
   | (refine ⟨fun hc => ?_, fun hc => ?_⟩ <;> conv => whnf)
   | (refine ex_gen fun m hm => ?_; conv => whnf)
   | (refine ⟨by decide, im, him, ?_⟩; conv => whnf))
 obtain ⟨j, hj⟩ := x
 dsimp only
 refine satq_vcN ?_
 conv => whnf
 refine atq_ret ?_
 conv => whnf
 exact fin_val rfl fun w2 hB => ⟨_, rfl, ⟨j, rfl, hj⟩, hB⟩
end Go.Proofs.YtnhdcclpjildjaaGreat
namespace Go.Proofs.YtnhdcclpjildjaaGreat
open Go.RowKit

def ProgAt (w : World) (A : Option Addr) (n : Nat) : Prop := ∀ j, j < n → ∃ b off n0 n1 n2 n3 n4, A = some ⟨b, off, none⟩ ∧ CellsAt w Gs.nil b (off + j * 5) [intV n0, intV n1, intV n2, intV n3, intV n4]
theorem ProgAt.later {w w' : World} {A : Option Addr} {n : Nat} (h : ProgAt w A n) (hB : Below w.heap.size w w') : ProgAt w' A n := fun j hj => by
 obtain ⟨b, off, n0, n1, n2, n3, n4, e, h1, h2, h3⟩ := h j hj
 exact ⟨b, off, n0, n1, n2, n3, n4, e, Nat.lt_of_lt_of_le h1 hB.size, by simp, fun i u hi => by have := h3 i u hi; simp only [World.cell?] at this ⊢; rw [hB.block b h1]; exact this⟩
set_option maxRecDepth 100000 in
set_option maxHeartbeats 2000000 in
theorem words_walk (w : World) (A : Option Addr) (n c : Nat) (_hn : n < 9223372036854775808) (hA : ProgAt w A n) : Calls Tryz.prog 37 #[.slice A n c] w fun e w' => ∃ v, e = .returned v ∧ (∃ l : List Int, v = strV l ∧ l.length ≤ 400 ∧ ∀ x ∈ l, 0 ≤ x ∧ x < 256) ∧ Below w.heap.size w w' := by
 refine calls_satq [.slice A n c] Tryz.func37 Tryz.ntmps37 rfl (by simp) ?_
 refine satq_seqN ?_
 conv => whnf
 refine satq_seqN ?_
 conv => whnf
 refine satq_mid (α := { l : List Int // l.length ≤ 400 ∧ ∀ x ∈ l, 0 ≤ x ∧ x < 256 }) (fun x => [(3, one (strV x.1))]) (fun _ => []) ?_ fun x => ?_
 ·refine satq_seqN ?_
  conv => whnf
  refine satq_block ?_
  refine satq_loop (α := { x : Nat × List Int // x.1 ≤ 100 ∧ x.1 ≤ n ∧ x.2.length = 4 * x.1 ∧ ∀ y ∈ x.2, 0 ≤ y ∧ y < 256 }) (fun x => [(0, one (.slice A n c)), (3, one (strV x.1.2)), (4, one (intV (x.1.1 : Int)))]) (fun _ => []) (fun x => 100 - x.1.1)
   ⟨(0, []), by simp⟩ (ent_same rfl (aI rfl (aI rfl (aI rfl trivial))) trivial) fun x => ?_
  obtain ⟨⟨j, l⟩, hj, hjn, hl, hb⟩ := x
  dsimp only at hj hjn hl hb ⊢
  have hout : ¬ (j < n ∧ j < 100) → l.length ≤ 400 ∧ ∀ x ∈ l, 0 ≤ x ∧ x < 256 := fun _ => ⟨by omega, hb⟩
  refine satq_seqN ?_
  conv => whnf
  refine ⟨fun hc => ?_, fun hc => ?_⟩
  ·have hlt : j < n := by simpa using hc
   conv => whnf
   (repeat ((first | apply k1 | apply k2 | apply k3 | apply k4 | refine k5 (by decide) ?_ | refine k6 (by decide) ?_); conv => whnf))
   refine ⟨fun hc => ?_, fun hc => ?_⟩
   ·have hlt2 : j < 100 := by
     have : decide ((j : Int) < 100) = true := hc
     simp at this; omega
    conv => whnf
    obtain ⟨b, off, n0, n1, n2, n3, n4, rfl, hcell⟩ := hA j hlt
    refine satq_in (satq_block ?_)
    refine satq_mid (α := { y : Int // word y }) (fun y => [(0, one (.slice (some ⟨b, off, none⟩) n c)), (3, one (strV l)), (4, one (intV (j : Int))), (5, one (.int .u32 y.1))]) (fun _ => []) ?_ fun y => ?_
    ·refine satq_vcN ?_
     refine sat_anyG (.q 0 (.q 1 (.q 2 (.q 3 (.q 5 (.q 6 (.q 7 (.q 8 (.q 9 (.alt 4 (.alt 10 (.alt 11 (.alt 12 (.alt 13 (.alt 14 (.alt 15 (.alt 16 .done .no) .no) (.alt 15 (.alt 14 (.alt 16 .done .no) .no) .no)) (.alt 14 (.alt 13 (.alt 15 (.alt 16 .done .no) .no) .no) .no)) .no) .no) .no) .no)))))))))) mixed (by kernel_rfl) (by kernel_rfl) ?_
     conv => whnf
     have hc4 : CellsAt w Gs.nil b (off + j * 5 + 4) [intV n4] := cells_one hcell.1 (by simp) (hcell.2.2 4 _ rfl)
     (refine ⟨⟨by omega, by omega⟩, ?_⟩; (conv=>whnf))
     refine ⟨[intV n0, intV n1, intV n2, intV n3, intV n4], hcell, rfl, ?_⟩
     conv => whnf
     (refine ⟨⟨by omega, by omega⟩, ?_⟩; (conv=>whnf))
     refine q_index_ptr (size := 1) b (off + j * 5) 5 4 rfl rfl rfl rfl rfl rfl (by decide) (by decide) ?_
     conv => whnf
     refine ⟨_, hc4, ?_⟩
     conv => whnf
     refine ⟨?_, trivial⟩
     conv => whnf
     refine call_con rfl (by kernel_rfl) (fun r w' hR => made_ref03 n0 n1 n2 n3 n4 w') ?_
     have hmk := madeQ_ok n0 n1 n2 n3 n4
     obtain ⟨i, hi⟩ : ∃ i, madeQ n0 n1 n2 n3 n4 = i := ⟨_, rfl⟩
     rw [hi] at hmk ⊢
     conv => whnf
     refine ⟨?_, trivial⟩
     conv => whnf
     refine call_ex (fun v => ∃ j : QI, v = qiV j ∧ j.fair) rfl (by kernel_rfl) (fun r w' hR => tame_walk i n4 w' ⟨⟨hmk.op.1, by have := hmk.op.2; omega⟩, hmk.imm⟩) fun v hv => ?_
     obtain ⟨i2, rfl, hf⟩ := hv
     conv => whnf
     refine ⟨?_, trivial⟩
     conv => whnf
     refine call_con rfl (by kernel_rfl) (fun r w' hR => encode_ref i2 w' hf.1 hf.2) ?_
     obtain ⟨y, hy⟩ : ∃ y, encQ i2 = y := ⟨_, rfl⟩
     have hyw : word (y.getD 0) := by
      rw [← hy]; unfold encQ
      split
      ·rename_i hv; exact (decQ_word hv hf.2).2
      ·unfold word; decide
     rw [hy]
     clear hy
     conv => whnf
     repeat' (first
      | exact atq_mid ⟨y.getD 0, hyw⟩ (ent_same rfl (aI rfl (aI rfl (aI rfl (aI rfl trivial)))) trivial)
      | (refine ⟨?_, trivial⟩; conv => whnf)
      | (refine ⟨?_, ?_, trivial⟩ <;> conv => whnf))
    obtain ⟨y, hyw⟩ := y
    dsimp only
    refine satq_vcN ?_
    conv => whnf
    refine call_con (x := strV (putL y)) rfl (by kernel_rfl) (fun r w' hR => put_walk y w' hyw) ?_
    conv => whnf
    refine q_cat_str l (putL y) rfl rfl rfl (by unfold putL; rw [putTo_length]; omega) ?_
    conv => whnf
    refine atq_block (atq_on ?_)
    refine satq_vcN ?_
    conv => whnf
    refine ⟨(j : Int) + 1, by rw [wr64] <;> omega, ?_⟩
    conv => whnf
    refine atq_next ⟨(j + 1, l ++ putL y), by omega, by omega, ?_, ?_⟩ (ent_same rfl (aI rfl (aI rfl (aI rfl trivial))) trivial) (by dsimp only; omega)
    ·dsimp only; unfold putL; rw [List.length_append, putTo_length]; omega
    ·intro x hx
     rcases List.mem_append.1 hx with hx | hx
     ·exact hb x hx
     ·exact putTo_bytes _ _ x hx
   ·conv => whnf
    exact atq_out (atq_exit (atq_mid ⟨l, by omega, hb⟩ (ent_same rfl (aI rfl trivial) trivial)))
  ·conv => whnf
   (repeat ((first | apply k1 | apply k2 | apply k3 | apply k4 | refine k5 (by decide) ?_ | refine k6 (by decide) ?_); conv => whnf))
   exact atq_out (atq_exit (atq_mid ⟨l, by omega, hb⟩ (ent_same rfl (aI rfl trivial) trivial)))
 obtain ⟨l, hl, hb⟩ := x
 dsimp only
 refine satq_vcN ?_
 conv => whnf
 refine atq_ret ?_
 conv => whnf
 exact fin_val rfl fun w2 hB => ⟨_, rfl, ⟨l, rfl, hl, hb⟩, hB⟩
end Go.Proofs.YtnhdcclpjildjaaGreat
namespace Go.Proofs.YtnhdcclpjildjaaGreat
open Go.ChangeShapes Go.WideShapes Go.ChangeAt Go.RowKit

set_option maxRecDepth 100000 in
theorem open_prog {H : Type} {enc : TypeId × Value → H} {W : World} {a : Option Addr} {len cap : Nat} {d : DataW H} {p : List MemPlace} (h : DataW.Trod enc Tryz.prog W 0 (fun _ => true) true 22 (.slice a len cap) d p) :
  ProgAt W a len ∧ len < 9223372036854775808 := by
 obtain ⟨fuel, hf⟩ := h
 have hc5 : Tryz.prog.cellsOf 58 = 5 := by kernel_rfl
 rcases DataW.trod_slice Tryz.underlying22 hf with ⟨hcs, _⟩ | ⟨x, l, c, elems, rest, n, _, hcs, _, _, hl, hm, hlen, hel, _, _⟩
 ·simp [Value.cells] at hcs
  obtain ⟨rfl, rfl, rfl⟩ := hcs
  exact ⟨fun j hj => by omega, by omega⟩
 ·simp [Value.cells] at hcs
  obtain ⟨rfl, rfl, rfl⟩ := hcs
  refine ⟨fun j hj => ?_, by unfold maxLen at hm; omega⟩
  have h1 := hel j hj
  rw [List.getElem?_eq_getElem (by omega), hc5, Option.bind_eq_some_iff] at h1
  obtain ⟨cs, h2, h3⟩ := h1
  obtain ⟨zs, rfl, hz, _⟩ := open_ints_arr (k := .i64) Tryz.underlying58 Tryz.underlying3 (by kernel_rfl) (by kernel_rfl) h3
  obtain ⟨_, _, h4⟩ := World.cells?_some h2
  obtain ⟨b, off, spot⟩ := x
  have hs : spot = none := by
   have k1 := hel 0 (by omega)
   rw [List.getElem?_eq_getElem (by omega), hc5, Option.bind_eq_some_iff] at k1
   obtain ⟨cs0, k2, k3⟩ := k1
   obtain ⟨ys, rfl, hy, _⟩ := open_ints_arr (k := .i64) Tryz.underlying58 Tryz.underlying3 (by kernel_rfl) (by kernel_rfl) k3
   obtain ⟨_, _, k4⟩ := World.cells?_some k2
   have h0 := k4 0 (by omega)
   rw [List.getElem?_map, List.getElem?_eq_getElem (by omega)] at h0
   exact World.cell?_spot h0
  subst hs
  match zs, hz with
  | [z0, z1, z2, z3, z4], _ =>
   have h6 : ∀ i u, [intV z0, intV z1, intV z2, intV z3, intV z4][i]? = some u → W.cell? ⟨b, off + j * 5 + i, none⟩ = some u := fun i u hi => by
    have hi5 : i < 5 := by
     rcases Nat.lt_or_ge i 5 with h7 | h7
     ·exact h7
     ·rw [List.getElem?_eq_none (by simpa using h7)] at hi; cases hi
    have h7 := h4 i hi5
    rw [addr_add, addr_add] at h7
    rw [h7]; exact hi
   exact ⟨b, off, z0, z1, z2, z3, z4, rfl, cells_lt (h6 0 _ rfl), by simp, h6⟩
set_option maxRecDepth 100000 in
theorem open_n4 {H : Type} {enc : TypeId × Value → H} {W : World} {r : Reach} {b0 : Nat} {v : Value} {d : DataW H} {p : List MemPlace} (hv : Value.okWide Tryz.prog W r b0 23 v) (h : DataW.Trod enc Tryz.prog W 0 (fun _ => true) true 23 v d p) :
  ∃ a b c e : Int, v = .agg #[intV a, intV b, intV c, intV e] ∧ (-9223372036854775808 ≤ a ∧ a < 9223372036854775808) ∧ (-9223372036854775808 ≤ b ∧ b < 9223372036854775808) ∧ (-9223372036854775808 ≤ c ∧ c < 9223372036854775808) ∧ (-9223372036854775808 ≤ e ∧ e < 9223372036854775808) := by
 simp only [Value.okWide, Tryz.underlying23] at hv
 obtain ⟨cs, rfl, hsz, _⟩ := hv
 obtain ⟨fuel, hf⟩ := h
 obtain ⟨zs, e, l, w⟩ := open_ints_arr (k := .i64) Tryz.underlying23 Tryz.underlying3 (by kernel_rfl) (by kernel_rfl) hf
 have e : cs.toList = zs.map (Value.int .i64) := e
 match zs, l with
 | [z0, z1, z2, z3], _ =>
  refine ⟨z0, z1, z2, z3, ?_, int_wf (w _ (by simp)), int_wf (w _ (by simp)), int_wf (w _ (by simp)), int_wf (w _ (by simp))⟩
  show Value.agg cs = Value.agg ([z0, z1, z2, z3].map (Value.int .i64)).toArray
  rw [← e]
set_option maxRecDepth 100000 in
theorem open_q2 {H : Type} {enc : TypeId × Value → H} {W : World} {r : Reach} {b0 : Nat} {v : Value} {d : DataW H} {p : List MemPlace} (hv : Value.okWide Tryz.prog W r b0 24 v) (h : DataW.Trod enc Tryz.prog W 0 (fun _ => true) true 24 v d p) :
  ∃ a b : Int, v = .agg #[intV a, intV b] ∧ (-9223372036854775808 ≤ a ∧ a < 9223372036854775808) ∧ (-9223372036854775808 ≤ b ∧ b < 9223372036854775808) := by
 simp only [Value.okWide, Tryz.underlying24] at hv
 obtain ⟨cs, rfl, hsz, _⟩ := hv
 obtain ⟨fuel, hf⟩ := h
 obtain ⟨zs, e, l, w⟩ := open_ints_arr (k := .i64) Tryz.underlying24 Tryz.underlying3 (by kernel_rfl) (by kernel_rfl) hf
 have e : cs.toList = zs.map (Value.int .i64) := e
 match zs, l with
 | [z0, z1], _ =>
  refine ⟨z0, z1, ?_, int_wf (w _ (by simp)), int_wf (w _ (by simp))⟩
  show Value.agg cs = Value.agg ([z0, z1].map (Value.int .i64)).toArray
  rw [← e]
end Go.Proofs.YtnhdcclpjildjaaGreat
namespace Go.Proofs.YtnhdcclpjildjaaGreat
open Go.RowKit

def limI (i : Nat) : QI := ⟨1, 1 + (i : Int) % 15, 1, 2, 0⟩
def limW (i : Nat) : Int := wordQ (limI i)
structure LimS (M : MemP) (j : Nat) : Prop where
 ok : M.ok 768 3
 code : ∀ i, i < j → ∀ b, b < 4 → M.data[4 * i + b]? = some (byteAt (limW i) b)
 rest : ∀ x, 4 * j ≤ x → x < 768 → M.data[x]? = some 0
structure SynS (D : List Int) (M : MemP) (q : Nat) : Prop where
 ok : M.ok 768 3
 data : M.data = D
 img : ∀ x, x < 256 * q → M.image[x]? = D[x]?
 rights : ∀ y, y < q → M.rights[y]? = some 5
end Go.Proofs.YtnhdcclpjildjaaGreat
namespace Go.Proofs.YtnhdcclpjildjaaGreat
open Go.RowKit

theorem bytesA_drop (l : List Int) (k : Nat) : (bytesA l).extract k (bytesA l).size = bytesA (l.drop k) := by
 have h : ((bytesA l).extract k (bytesA l).size).data = (bytesA (l.drop k)).data := by
  apply Array.ext'
  rw [bytesA_list, ByteArray.data_extract, Array.toList_extract, List.extract_eq_take_drop, bytesA_list, ← List.map_drop]
  exact List.take_of_length_le (by rw [List.length_map, List.length_drop, bytesA_size]; omega)
 exact ByteArray.ext h
theorem q_slice_str {P : Program} {w0 : World} {G : Gs} {S : List Ow} {f : Fr} {o : Oper} {K : AV → Prop} {t : TypeId} {x y : Operand} {q : IntKind} (l : List Int) (k : Nat) (hop : o.op = .slice t x (some y) none none) (ht : P.underlying t = some .string) (hx : f.ev x = one (strV l)) (hy : f.ev y = one (.int q (k : Int))) (hk : k ≤ l.length) (hK : K (one (strV (l.drop k)))) : QRun P w0 G S f o K := by
 refine ⟨_, hK, fun r a hf => ?_⟩
 have h1 := hf.ev x
 have h2 := hf.ev y
 rw [hx] at h1
 rw [hy] at h2
 refine ⟨_, rfl, fun w hR => ?_⟩
 have hs : (bytesA l).size = l.length := bytesA_size l
 simp [execOp, hop, den_v h1, den_v h2, Instr.sliceAt, Instr.slice, underlying, ht, strV, Instr.sliceBounds, Instr.sliceBound, asIntOf, hs, hk, ← bytesA_drop]
theorem cpu_grpG (g g1 g2 g3 g4 g5 g6 : Nat) (us : List Value) (n p : Nat) (M : MemP) : grpOk ⟨[g, g1, g2, g3, g4, g5, g6], []⟩ (cpuU 0 us n p M) = true := by
 show sbnd 7 (cpuU 0 us n p M) = true
 have h : bndL 7 (us.map .v ++ [.ref 1 0]) = true := by
  induction us with
  | nil => rfl
  | cons u us ih => simpa only [List.map_cons, List.cons_append, bndL, CV.bnd] using ih
 simp only [sbnd, Ow.bnd, bndL_vals, bndL, CV.bnd, h]
 rfl
set_option maxRecDepth 100000 in
set_option maxHeartbeats 2000000 in
theorem set_cpu (s : St) (h0 : 0 ≤ s.steps) (hd : s.due = 0) (us : List Value) (hus : us.length = 24) (M : MemP) (n p : Nat) (w : World) (g : Nat) (gs : List Nat) (hU : ObjsAt w (g :: gs) (cpuU 0 us n p M)) :
  Calls Tryz.prog 38 #[.pointer (some ⟨g, 0, none⟩), stV s] w fun e w' => e = .returned (.tuple #[]) ∧ ObjsAt w' (g :: gs) (cpuU 0 (stL { s with R := regU s.R 0 0, f := 0 } []) n p M) ∧ GrownBys w w' (g :: gs) := by
 obtain ⟨g0, g1, g2, g3, g4, g5, g6, hg⟩ := seven_blocks hU
 injection hg with hg0 hgs
 subst hgs; subst hg0
 obtain ⟨L, hL⟩ : ∃ L, L = stL s [] := ⟨_, rfl⟩
 have hLS : StC L := by rw [hL]; exact stC_of s
 rw [show stV s = .agg L.toArray by rw [hL]]
 refine calls_objs_satq [.p (.c (.ref 0 0)), .p (.agg (L.map .v))] [.pointer (some ⟨g, 0, none⟩), .agg L.toArray] Tryz.func38 Tryz.ntmps38 rfl (by simp) hU ⟨_, _, rfl, den_mk_ref rfl, _, _, rfl, AV.of_den _ (.agg L.toArray), rfl⟩ ?_
 have hLl : (L.map CV.v).length = 24 := hLS.clen
 have hX0 : L.map CV.v = stC s [] := by rw [hL]
 refine satq_seqN ?_
 conv => whnf
 refine satq_mid (α := { X : List CV // X = stC { s with R := regU s.R 0 0 } [] }) (fun _ => [(0, .p (.c (.ref 0 0))), (3, .p (.c (.ref 7 0)))]) (fun x => cpuU 0 us n p M ++ ([.cells stT x.1] : List Ow)) ?_ fun x => ?_
 ·refine satq_vcN ?_
  conv => whnf
  (refine ⟨⟨by omega, by omega⟩, ?_⟩; (conv=>whnf))
  erw [len_ble _ hLl (m := 0 + 1 + (0 : Int).toNat * 1 + 1) (by omega)]
  conv => whnf
  erw [len_big _ hLl (by omega)]
  conv => whnf
  exact atq_mid ⟨_, rfl⟩ (ent_same rfl (aI rfl (aI rfl trivial)) (aI sM (aI sM (aI sM (aI sM (aI sM (aI sM (aI sM (aI ((aI rfl (Or.inl (stC_set (j := 0) 0 hX0 (by omega) (by omega))))) trivial)))))))))
 obtain ⟨X, hX⟩ := x
 dsimp only
 have hXl : X.length = 24 := by rw [hX]; rfl
 refine satq_mid (α := { X : List CV // X = stC { s with R := regU s.R 0 0, f := 0 } [] }) (fun _ => [(0, .p (.c (.ref 0 0))), (3, .p (.c (.ref 7 0)))]) (fun x => cpuU 0 us n p M ++ ([.cells stT x.1] : List Ow)) ?_ fun x => ?_
 ·refine satq_vcN ?_
  conv => whnf
  erw [len_ble _ hXl (m := 0 + 17 + 1) (by omega)]
  conv => whnf
  erw [len_big _ hXl (by omega)]
  conv => whnf
  exact atq_mid ⟨_, rfl⟩ (ent_same rfl (aI rfl (aI rfl trivial)) (aI sM (aI sM (aI sM (aI sM (aI sM (aI sM (aI sM (aI ((aI rfl (Or.inl (by rw [hX]; rfl)))) trivial)))))))))
 clear hX hXl X
 obtain ⟨X, hX⟩ := x
 dsimp only
 have hXl : X.length = 24 := by rw [hX]; rfl
 have h22 : X[0 + 22]? = some (.v (intV s.steps)) := by rw [hX]; rfl
 have h23 : X[0 + 23]? = some (.v (intV s.due)) := by rw [hX]; rfl
 refine satq_mid (α := Unit) (fun _ => [(0, .p (.c (.ref 0 0))), (3, .p (.c (.ref 7 0)))]) (fun _ => cpuU 0 us n p M ++ ([.cells stT X] : List Ow)) ?_ fun _ => ?_
 ·refine satq_vcN ?_
  conv => whnf
  erw [h22]
  conv => whnf
  refine op_max rfl rfl rfl rfl ?_
  rw [if_neg (by omega)]
  conv => whnf
  erw [len_ble _ hXl (m := 0 + 22 + 1) (by omega)]
  conv => whnf
  erw [len_big _ hXl (by omega)]
  conv => whnf
  exact atq_mid () (ent_same rfl (aI rfl (aI rfl trivial)) (aI sM (aI sM (aI sM (aI sM (aI sM (aI sM (aI sM (aI ((aI rfl (Or.inl (by rw [hX]; rfl)))) trivial)))))))))
 refine satq_mid (α := Unit) (fun _ => [(0, .p (.c (.ref 0 0))), (3, .p (.c (.ref 7 0)))]) (fun _ => cpuU 0 us n p M ++ ([.cells stT X] : List Ow)) ?_ fun _ => ?_
 ·refine satq_vcN ?_
  conv => whnf
  erw [h23]
  conv => whnf
  refine op_max rfl rfl rfl rfl ?_
  rw [if_neg (by omega)]
  conv => whnf
  erw [len_ble _ hXl (m := 0 + 23 + 1) (by omega)]
  conv => whnf
  erw [len_big _ hXl (by omega)]
  conv => whnf
  exact atq_mid () (ent_same rfl (aI rfl (aI rfl trivial)) (aI sM (aI sM (aI sM (aI sM (aI sM (aI sM (aI sM (aI ((aI rfl (Or.inl (by rw [hX]; rfl)))) trivial)))))))))
 obtain ⟨sf, hsf⟩ : ∃ sf : St, sf = { s with R := regU s.R 0 0, f := 0 } := ⟨_, rfl⟩
 obtain ⟨Lf, hLf⟩ : ∃ Lf, Lf = stL sf [] := ⟨_, rfl⟩
 have hLfS : StC Lf := by rw [hLf]; exact stC_of sf
 have hXf : X = Lf.map .v := by rw [hX, hLf, hsf]
 have hCl : (us.map CV.v ++ [CV.ref 1 0]).length = 25 := by rw [List.length_append, List.length_map, hus]; rfl
 clear hX hXl h22 h23
 subst hXf
 rw [← hsf, ← hLf]
 refine satq_vcN ?_
 conv => whnf
 erw [cut_all hLfS.clen]
 conv => whnf
 erw [beq_len hLfS.clen]
 conv => whnf
 erw [hLfS.one]
 conv => whnf
 erw [len_ble _ hCl (m := 0 + (Lf.map CV.v).length) (by rw [hLfS.clen]; omega)]
 conv => whnf
 erw [len_big _ hCl (by omega)]
 conv => whnf
 refine atq_as (f' := []) (S' := cpuU 0 Lf n p M) (ent_drop trivial (aI ((aI rfl (Or.inl (cpu_put (by rw [hus]) hLfS.len _)))) (aI sM (aI sM (aI sM (aI sM (aI sM (aI sM trivial))))))) rfl (cpu_grpG g g1 g2 g3 g4 g5 g6 Lf n p M)) (atq_end ?_)
 conv => whnf
 exact fin_objs rfl rfl (fun i o h => h) (cpuU_ob Lf n p M) fun w' h1 h2 => ⟨rfl, h1, h2⟩
end Go.Proofs.YtnhdcclpjildjaaGreat
namespace Go.Proofs.YtnhdcclpjildjaaGreat
open Go.RowKit
def CV.up (k : Nat) : CV → CV
 | .v x => .v x
 | .ref i o => .ref (k + i) o
 | .vref i o => .vref (k + i) o
 | .row i => .row (k + i)
 | .sl i o n c => .sl (k + i) o n c
 | .mp i => .mp (k + i)
 | .clo _ _ => .any
 | .any => .any
def Ow.up (k : Nat) : Ow → Ow
 | .cells t l => .cells t (l.map (CV.up k))
 | .row e size n xs => .row e size n xs
 | .ext φ => .ext φ
 | _ => .gone
def Env.cat (r : Env) (k : Nat) (s : Env) : Env := ⟨fun i => if i < k then r.blk i else s.blk (i - k), fun i => if i < k then r.val i else s.val (i - k)⟩
theorem Env.cat_blk (r : Env) (k : Nat) (s : Env) (i : Nat) : (r.cat k s).blk (k + i) = s.blk i := by
 show (if k + i < k then _ else _) = _
 rw [if_neg (by omega), Nat.add_sub_cancel_left]
theorem Env.cat_val (r : Env) (k : Nat) (s : Env) (i : Nat) : (r.cat k s).val (k + i) = s.val i := by
 show (if k + i < k then _ else _) = _
 rw [if_neg (by omega), Nat.add_sub_cancel_left]
theorem CV.up_den (r : Env) (k : Nat) (s : Env) : ∀ (c : CV) (u : Value), c.den s u → (c.up k).den (r.cat k s) u
 | .v x, u, h => by simpa only [CV.den, CV.up] using h
 | .ref i o, u, h => by simp only [CV.den, CV.up] at h ⊢; obtain ⟨b, hb, hu⟩ := h; exact ⟨b, by rw [Env.cat_blk]; exact hb, hu⟩
 | .vref i o, u, h => by simp only [CV.den, CV.up] at h ⊢; obtain ⟨b, o2, n, c, hb, hu⟩ := h; exact ⟨b, o2, n, c, by rw [Env.cat_val]; exact hb, hu⟩
 | .row i, u, h => by simp only [CV.den, CV.up] at h ⊢; rw [Env.cat_val]; exact h
 | .sl i o n c, u, h => by simp only [CV.den, CV.up] at h ⊢; obtain ⟨b, hb, hu⟩ := h; exact ⟨b, by rw [Env.cat_blk]; exact hb, hu⟩
 | .mp i, u, h => by simp only [CV.den, CV.up] at h ⊢; obtain ⟨b, hb, hu⟩ := h; exact ⟨b, by rw [Env.cat_blk]; exact hb, hu⟩
 | .clo f l, u, h => by simp only [CV.den, CV.up]
 | .any, u, h => by simp only [CV.den, CV.up]
theorem denL_up (r : Env) (k : Nat) (s : Env) : ∀ (l : List CV) (us : List Value), denL s l us → denL (r.cat k s) (l.map (CV.up k)) us
 | [], us, h => by simpa only [denL, List.map_nil] using h
 | c :: cs, us, h => by simp only [denL, List.map_cons] at h ⊢; obtain ⟨u, l, hu, hc, hl⟩ := h; exact ⟨u, l, hu, CV.up_den r k s c u hc, denL_up r k s cs l hl⟩
theorem rel_cat {w0 : World} {G : Gs} {S T : List Ow} {r s : Env} {w w' : World} (h : Rel w0 G S r w) (h3 : Rel w Gs.nil T s w') : Rel w0 G (S ++ T.map (Ow.up S.length)) (r.cat S.length s) w' ∧ r.le (r.cat S.length s) := by
 refine h.snocs h3.toBelow _ _ (fun i hi => ⟨if_pos hi, if_pos hi⟩) (fun i x hi hx => ?_) (fun i j x hi hj hx hy => ?_) (fun i hi => ?_) (fun j o hj => ?_)
 ·have hx : (if i < S.length then r.blk i else s.blk (i - S.length)) = some x := hx
  rw [if_neg (by omega)] at hx
  obtain ⟨h1, h2⟩ := h3.new _ x hx
  refine ⟨?_, h1⟩
  rcases Nat.lt_or_ge x w.heap.size with h4 | h4
  ·exact absurd (h2 h4) (by simp)
  ·exact h4
 ·have hx : (if i < S.length then r.blk i else s.blk (i - S.length)) = some x := hx
  have hy : (if j < S.length then r.blk j else s.blk (j - S.length)) = some x := hy
  rw [if_neg (by omega)] at hx hy
  have := h3.inj _ _ x hx hy
  omega
 ·rw [List.length_map] at hi
  obtain ⟨m, rfl⟩ : ∃ m, i = S.length + m := ⟨i - S.length, by omega⟩
  rw [Env.cat_blk, Env.cat_val]
  exact ⟨h3.outB m (by omega), h3.outV m (by omega)⟩
 ·rw [List.getElem?_map] at hj
  cases ht : T[j]? with
  | none => rw [ht] at hj; cases hj
  | some q =>
   rw [ht] at hj
   injection hj with hj
   subst hj
   have ho := h3.own j q ht
   cases q with
   | cells t l => obtain ⟨b, us, e1, e2, e3⟩ := ho; exact ⟨b, us, by rw [Env.cat_blk]; exact e1, e2, denL_up r _ s l us e3⟩
   | row e size n xs => obtain ⟨v, e1, e2, e3⟩ := ho; exact ⟨v, by rw [Env.cat_val]; exact e1, by rw [Env.cat_blk]; exact e2, e3⟩
   | ext φ => obtain ⟨b, e1, e2⟩ := ho; exact ⟨b, by rw [Env.cat_blk]; exact e1, e2⟩
   | view => trivial
   | gone => trivial
theorem satq_plain {P : Program} {w0 : World} {G : Gs} {N : Nd} {c d : Code} {f : Fr} {S : List Ow} {Q : Exit → Act → World → Prop} {α : Type} (F : α → Fr) (U : α → List Ow)
  (h : ∀ r w, Rel w0 G S r w → ∃ (f2 : Fr) (T : α → Fr), (∀ a, FDen r f a → FDen Env.none f2 a) ∧ (∀ y a s, FDen s (T y) a → FDen (r.cat S.length s) (F y) a) ∧ SatQ P w Gs.nil N c f2 [] (MidQ w Gs.nil N T U fun _ _ _ => False))
  (hd : ∀ y, SatQ P w0 G N d (F y) (S ++ (U y).map (Ow.up S.length)) Q) : SatQ P w0 G N (.seq c d) f S Q :=
 satq_in ⟨fun a w ⟨r, hR, hf, hN, hds⟩ => by
  obtain ⟨f2, T, h1, h2, h3⟩ := h r w hR
  refine wpIn_mono (h3.out a w ⟨Env.none, rel_none w, h1 a hf, hN, hds⟩) fun e a' w' hq => ?_
  cases e with
  | normal =>
   obtain ⟨y, s, hR3, hf3, hN3, hd3⟩ := hq
   exact (hd y).out a' w' ⟨_, (rel_cat hR hR3).1, h2 y a' s hf3, hN3, hd3⟩
  | exit id => exact hq.elim
  | goto l => exact hq.elim
  | ret => exact hq.elim
  | panic ch => exact hq.elim
  | outgrown => exact hq.elim⟩
theorem slot_back {r s : Env} {f : Fr} {a : Act} {k : Nat} (hf : FDen s f a) (d : Nat) {i off b : Nat} (hb : r.blk i = some b) (hi : i < k) (h : f.get d = one (.pointer (some ⟨b, off, none⟩))) : AV.den (r.cat k s) (.p (.c (.ref i off))) (a.tmps.getD d undef) := by
 have := hf d
 rw [h] at this
 rw [den_v this]
 exact den_mk_ref (by show (if i < k then r.blk i else _) = _; rw [if_pos hi]; exact hb)
theorem slot_up {r s : Env} {f : Fr} {a : Act} {k : Nat} (hf : FDen s f a) (d : Nat) {c : CV} (h : f.get d = .p (.c c)) : AV.den (r.cat k s) (.p (.c (c.up k))) (a.tmps.getD d undef) := by
 have := hf d
 rw [h] at this
 exact CV.up_den r k s c _ this
end Go.Proofs.YtnhdcclpjildjaaGreat
