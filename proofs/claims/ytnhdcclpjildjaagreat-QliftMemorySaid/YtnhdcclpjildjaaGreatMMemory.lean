/- For all addresses, loads and stores of a lifted block access the bytes that the plain machine accesses, and leave where it faults: for every input, without any condition. -/
import Derived.Test.YtnhdcclpjildjaaGreatK19
import Derived.Test.YtnhdcclpjildjaaGreatMMemoryG
namespace Go.Proofs.YtnhdcclpjildjaaGreat
open Go.ChangeShapes Go.WideShapes Go.ChangeAt Go.RowKit

set_option maxRecDepth 100000 in
theorem open_five {H : Type} {enc : TypeId × Value → H} {W : World} {r : Reach} {b0 : Nat} {v : Value} {d : DataW H} {p : List MemPlace} (hv : Value.okWide Tryz.prog W r b0 58 v) (h : DataW.Trod enc Tryz.prog W 0 (fun _ => true) true 58 v d p) :
  ∃ a b c e f : Int, v = .agg #[intV a, intV b, intV c, intV e, intV f] ∧ ((-9223372036854775808 ≤ a ∧ a < 9223372036854775808) ∧ (-9223372036854775808 ≤ b ∧ b < 9223372036854775808) ∧ (-9223372036854775808 ≤ c ∧ c < 9223372036854775808) ∧ (-9223372036854775808 ≤ e ∧ e < 9223372036854775808) ∧ (-9223372036854775808 ≤ f ∧ f < 9223372036854775808)) := by
 simp only [Value.okWide, Tryz.underlying58] at hv
 obtain ⟨cs, rfl, hsz, _⟩ := hv
 obtain ⟨fuel, hf⟩ := h
 obtain ⟨zs, e, l, w⟩ := open_ints_arr (k := .i64) Tryz.underlying58 Tryz.underlying3 (by kernel_rfl) (by kernel_rfl) hf
 have e : cs.toList = zs.map (Value.int .i64) := e
 match zs, l with
 | [z0, z1, z2, z3, z4], _ =>
  refine ⟨z0, z1, z2, z3, z4, ?_, int_wf (w _ (by simp)), int_wf (w _ (by simp)), int_wf (w _ (by simp)), int_wf (w _ (by simp)), int_wf (w _ (by simp))⟩
  show Value.agg cs = Value.agg ([z0, z1, z2, z3, z4].map (Value.int .i64)).toArray
  rw [← e]
theorem open_word {H : Type} {enc : TypeId × Value → H} {W : World} {x : Int} {d : DataW H} {p : List MemPlace} (h : DataW.Trod enc Tryz.prog W 0 (fun _ => true) true 35 (.int .u32 x) d p) : word x := by
 obtain ⟨fuel, hf⟩ := h
 obtain ⟨z, e1, _, e3⟩ := DataW.trod_int Tryz.underlying35 hf
 simp [Value.cells] at e1
 obtain rfl := e1
 exact word_wf e3
end Go.Proofs.YtnhdcclpjildjaaGreat
namespace Go.Proofs.YtnhdcclpjildjaaGreat
open Go.RowKit

theorem pokeAt_data {M : MemP} {n p : Nat} (hM : M.ok n p) (hn : n < 4294967296) (a : Nat) (l : List Int) (hb : ∀ x ∈ l, 0 ≤ x ∧ x < 256) (ha : a + l.length ≤ n) : ∀ j, j ≤ l.length → ∀ x : Nat, (M.pokeAt (a : Int) l j).data[x]? = if a ≤ x ∧ x < a + j then l[x - a]? else M.data[x]?
 | 0, _, x => by rw [pokeAt_zero, if_neg (by omega)]
 | j + 1, h, x => by
  have e : l[j]? = some l[j] := List.getElem?_eq_getElem h
  have ih := pokeAt_data hM hn a l hb ha j (by omega) x
  have hk := pokeAt_ok hM (a : Int) hb j (by omega)
  rw [pokeAt_succ M _ l e, show ((a : Int) + (j : Int)) % 4294967296 = ((a + j : Nat) : Int) by omega, if_pos (by rw [hk.ld]; omega)]
  show (List.set (M.pokeAt (a : Int) l j).data ((a + j : Nat) : Int).toNat l[j])[x]? = _
  rw [Int.toNat_natCast, List.getElem?_set]
  by_cases hx : a + j = x
  ·rw [if_pos hx, if_pos (by rw [hk.ld]; omega), if_pos (by omega), show x - a = j by omega, e]
  ·rw [if_neg hx, ih]
   by_cases hc : a ≤ x ∧ x < a + j
   ·rw [if_pos hc, if_pos (by omega)]
   ·rw [if_neg hc, if_neg (by omega)]
theorem syncTo_image {M : MemP} {n p : Nat} (hM : M.ok n p) (b : Nat) : ∀ j, b + j ≤ n → ∀ x : Nat, (M.syncTo b j).image[x]? = if b ≤ x ∧ x < b + j then M.data[x]? else M.image[x]?
 | 0, _, x => by rw [if_neg (by omega)]; rfl
 | j + 1, h, x => by
  have ih := syncTo_image hM b j (by omega) x
  have hk := syncTo_ok hM b j
  show (List.set (M.syncTo b j).image (b + j) (M.get ((b + j : Nat) : Int)))[x]? = _
  rw [List.getElem?_set]
  by_cases hx : b + j = x
  ·rw [if_pos hx, if_pos (by rw [hk.li]; omega), if_pos (by omega)]
   unfold MemP.get
   rw [Int.toNat_natCast, hx, List.getElem?_eq_getElem (by rw [hM.ld]; omega)]
   rfl
  ·rw [if_neg hx, ih]
   by_cases hc : b ≤ x ∧ x < b + j
   ·rw [if_pos hc, if_pos (by omega)]
   ·rw [if_neg hc, if_neg (by omega)]
def limI (i : Nat) : QI := ⟨1, 1 + (i : Int) % 15, 1, 2, 0⟩
def limW (i : Nat) : Int := wordQ (limI i)
structure LimS (M : MemP) (j : Nat) : Prop where
 ok : M.ok 768 3
 code : ∀ i, i < j → ∀ b, b < 4 → M.data[4 * i + b]? = some (byteAt (limW i) b)
 rest : ∀ x, 4 * j ≤ x → x < 768 → M.data[x]? = some 0
structure SynS (D : List Int) (M : MemP) (q : Nat) : Prop where
 ok : M.ok 768 3
 data : M.data = D
 img : ∀ x, x < 256 * q → M.image[x]? = D[x]?
 rights : ∀ y, y < q → M.rights[y]? = some 5
theorem byte_sum {y : Int} (h : word y) : 0 + byteAt y 0 * 256 ^ 0 + byteAt y 1 * 256 ^ 1 + byteAt y 2 * 256 ^ 2 + byteAt y 3 * 256 ^ 3 = y := by
 obtain ⟨h0, h1⟩ := h
 have e0 : byteAt y 0 = y / 1 % 256 := rfl
 have e1 : byteAt y 1 = y / 256 % 256 := rfl
 have e2 : byteAt y 2 = y / 65536 % 256 := rfl
 have e3 : byteAt y 3 = y / 16777216 % 256 := rfl
 have p0 : (256 : Int) ^ 0 = 1 := rfl
 have p1 : (256 : Int) ^ 1 = 256 := rfl
 have p2 : (256 : Int) ^ 2 = 65536 := rfl
 have p3 : (256 : Int) ^ 3 = 16777216 := rfl
 rw [e0, e1, e2, e3, p0, p1, p2, p3]
 omega
theorem readN_four {F : Int → Option Int} {a y : Int} (hy : word y) (h : ∀ b : Nat, b < 4 → F (a + b) = some (byteAt y b)) : readN F a 4 = some y := by
 have h0 := h 0 (by omega)
 have h1 := h 1 (by omega)
 have h2 := h 2 (by omega)
 have h3 := h 3 (by omega)
 have e0 : readN F a 0 = some 0 := rfl
 have e1 : readN F a 1 = some (0 + byteAt y 0 * 256 ^ 0) := by unfold readN; rw [e0, h0]
 have e2 : readN F a 2 = some (0 + byteAt y 0 * 256 ^ 0 + byteAt y 1 * 256 ^ 1) := by unfold readN; rw [e1, h1]
 have e3 : readN F a 3 = some (0 + byteAt y 0 * 256 ^ 0 + byteAt y 1 * 256 ^ 1 + byteAt y 2 * 256 ^ 2) := by unfold readN; rw [e2, h2]
 unfold readN
 rw [e3, h3]
 show some _ = some y
 rw [byte_sum hy]
end Go.Proofs.YtnhdcclpjildjaaGreat
namespace Go.Proofs.YtnhdcclpjildjaaGreat
open Go.RowKit

def sinL (j : Nat) : Int := [0, 7, 1, 3, 2, 0].getD j 0
def sinP (M : MemP) : Nat → MemP
 | 0 => M
 | j + 1 => (sinP M j).protect j (sinL j)
def sinX (i : QI) : Int := (encQ i).getD 0
theorem sinX_word {i : QI} (hi : word i.imm) : word (sinX i) := by
 unfold sinX encQ
 split
 ·next h => exact (decQ_word h hi).2
 ·exact word0
def sinM0 (i : QI) : MemP := ((MemP.zero 6).pokeAt 256 (putL (sinX i)) (putL (sinX i)).length).syncM 256
def sinM (i : QI) : MemP := sinP (sinM0 i) 6
def sinW (a b j : Int) : Int := if j % 2 = 0 then a else b
def sinR (a b : Int) : Int → Int := fun j => if j = 0 then 0 else (sinW a b j + j / 2) % 4294967296
def sinS (a b : Int) : St := ⟨256, sinR a b, 0, 0, 0, 0, 0, 0, 0⟩
theorem sin_ok {a b : Int} : (sinS a b).ok := by
 refine ⟨(show word 256 by unfold word; decide), fun j h0 h1 => ?_, rfl, rfl, (show (0 : Int) ≤ 0 ∧ (0 : Int) < 1099511627776 by decide)⟩
 show word (sinR a b j)
 unfold sinR
 split
 ·exact word0
 ·unfold word; omega
theorem sinL_ok (j : Nat) : 0 ≤ sinL j ∧ sinL j < 8 := by
 unfold sinL
 match j with
 | 0 => decide
 | 1 => decide
 | 2 => decide
 | 3 => decide
 | 4 => decide
 | 5 => decide
 | n + 6 => exact ⟨by show (0 : Int) ≤ 0; decide, by show (0 : Int) < 8; decide⟩
theorem sinP_ok {M : MemP} (hM : M.ok 1536 6) : ∀ j, (sinP M j).ok 1536 6
 | 0 => hM
 | j + 1 => protect_ok (sinP_ok hM j) j (sinL_ok j)
theorem zero_ok6 : (MemP.zero 6).ok 1536 6 := mem_zero_ok (p := 6) (by omega)
theorem sinM0_ok {i : QI} : (sinM0 i).ok 1536 6 := syncM_ok (pokeAt_ok zero_ok6 _ (putTo_bytes _ _) _ (Nat.le_refl _)) _
theorem sinM_ok {i : QI} : (sinM i).ok 1536 6 := sinP_ok sinM0_ok 6
theorem cpu_setR {s : St} {X : List CV} {j : Int} (x : Int) (hX : X = stC s [] ++ [.ref 1 0]) (h0 : 0 ≤ j) (h1 : j < 16) : setAll X (0 + 1 + j.toNat * 1) [.v (u32V x)] = stC { s with R := regU s.R j x } [] ++ [.ref 1 0] := by
 rw [hX]
 rcases (by omega : j = 0 ∨ j = 1 ∨ j = 2 ∨ j = 3 ∨ j = 4 ∨ j = 5 ∨ j = 6 ∨ j = 7 ∨ j = 8 ∨ j = 9 ∨ j = 10 ∨ j = 11 ∨ j = 12 ∨ j = 13 ∨ j = 14 ∨ j = 15) with rfl | rfl | rfl | rfl | rfl | rfl | rfl | rfl | rfl | rfl | rfl | rfl | rfl | rfl | rfl | rfl <;> rfl
theorem two_at (a b : Int) {j : Int} (_h : 0 ≤ j) : [CV.v (u32V a), .v (u32V b)][0 + (j % 2).toNat * 1]? = some (.v (u32V (sinW a b j))) := by
 unfold sinW
 rcases (by omega : j % 2 = 0 ∨ j % 2 = 1) with h | h <;> rw [h] <;> rfl
abbrev w2T : TypeId := 59
abbrev sinC : List CV := [.v (intV 0), .v (intV 7), .v (intV 1), .v (intV 3), .v (intV 2), .v (intV 0)]
theorem six_at {q : Nat} (h : q < 6) : sinC[0 + (q : Int).toNat * 1]? = some (.v (intV (sinL q))) := by
 rcases (by omega : q = 0 ∨ q = 1 ∨ q = 2 ∨ q = 3 ∨ q = 4 ∨ q = 5) with rfl | rfl | rfl | rfl | rfl | rfl <;> rfl
abbrev sinU (a b : Int) (us : List Value) (M : MemP) : List Ow := cpuU 0 us 1536 6 M ++ ([.cells w2T [.v (u32V a), .v (u32V b)]] : List Ow)
theorem cpu_grpW (us : List Value) (M : MemP) (a b : Int) : sbnd 8 (sinU a b us M) = true := by
 have h : bndL 8 (us.map .v ++ [.ref 1 0]) = true := by
  induction us with
  | nil => rfl
  | cons u us ih => simpa only [List.map_cons, List.cons_append, bndL, CV.bnd] using ih
 show sbnd 8 [_, _, _, _, _, _, _, _] = true
 simp only [sbnd, Ow.bnd, bndL_vals, bndL, CV.bnd, h]
 rfl
set_option maxRecDepth 100000 in
set_option maxHeartbeats 8000000 in
theorem single_walk (i : QI) (hop : 0 ≤ i.op ∧ i.op < 64) (hi : word i.imm) (a b : Int) (_ha : word a) (_hb : word b) (w : World) :
  Calls Tryz.prog 21 #[qiV i, .agg #[u32V a, u32V b]] w fun e w' => ∃ g gs, e = .returned (ptrV g) ∧ NewObjs w w' (g :: gs) (cpuU 0 (stL (sinS a b) []) 1536 6 (sinM i)) := by
 refine calls_satq [qiV i, .agg #[u32V a, u32V b]] Tryz.func21 Tryz.ntmps21 rfl (by simp) ?_
 refine satq_seqN ?_
 conv => whnf
 refine satq_seqN ?_
 conv => whnf
 refine call_newObjs (xs := [intV ((6 : Nat) : Int)]) (cpuU 0 stZ 1536 6 (MemP.zero 6)) (cpuU 2 stZ 1536 6 (MemP.zero 6)) rfl (by kernel_rfl) (cpuU_sh 2 stZ 1536 6 _) (cpuU_ob stZ 1536 6 _) (fun r w hR => cpu_new 6 w (by omega)) ?_
 conv => whnf
 refine satq_seqN ?_
 conv => whnf
 obtain ⟨x, hx⟩ : ∃ x, x = sinX i := ⟨_, rfl⟩
 have hxw : word x := hx ▸ sinX_word hi
 have hxe : encV (encQ i) = .tuple #[u32V x, intV (if (encQ i).isSome then 0 else 12)] := by rw [hx]; rfl
 refine call_con (x := .tuple #[u32V x, intV (if (encQ i).isSome then 0 else 12)]) rfl (by kernel_rfl) (fun r w' hR => hxe ▸ encode_ref i w' hop hi) ?_
 conv => whnf
 obtain ⟨M0, hM0⟩ : ∃ M0, M0 = MemP.zero 6 := ⟨_, rfl⟩
 obtain ⟨M1, hM1⟩ : ∃ M1, M1 = M0.pokeAt 256 (putL x) (putL x).length := ⟨_, rfl⟩
 obtain ⟨M2, hM2⟩ : ∃ M2, M2 = M1.syncM 256 := ⟨_, rfl⟩
 have hk0 : M0.ok 1536 6 := hM0 ▸ zero_ok6
 have hk1 : M1.ok 1536 6 := by rw [hM1]; exact pokeAt_ok hk0 _ (putTo_bytes _ _) _ (Nat.le_refl _)
 have hk2 : M2.ok 1536 6 := by rw [hM2]; exact syncM_ok hk1 _
 have hend : sinM i = sinP M2 6 := by rw [hM2, hM1, hM0, hx]; rfl
 rw [← hM0]
 refine satq_as (f' := [(3, .p (.c (.ref 7 0))), (5, .p (.c (.ref 0 0))), (6, one (u32V x))]) (S' := sinU a b stZ M0) (ent_ren [2, 3, 4, 5, 6, 7, 8, 1] (aI rfl (aI rfl (aI rfl trivial))) ?_ rfl (cpu_grpW stZ M0 a b) rfl rfl rfl) ?_
 ·exact (aI ((Exists.intro _ (aI rfl (aI rfl (Or.inl rfl))))) (aI ((Exists.intro _ (aI rfl (aI rfl (Or.inl rfl))))) (aI ((Exists.intro _ (aI rfl (aI rfl (Or.inl (renL_vals _ _).symm))))) (aI ((Exists.intro _ (aI rfl (aI rfl (Or.inl (renL_vals _ _).symm))))) (aI ((Exists.intro _ (aI rfl (aI rfl (Or.inl (renL_vals _ _).symm))))) (aI ((Exists.intro _ (aI rfl (aI rfl (Or.inl (renL_vals _ _).symm))))) (aI ((Exists.intro _ (aI rfl (aI rfl (Or.inl (renL_vals _ _).symm))))) (aI ((Exists.intro _ (aI rfl (aI rfl (Or.inl rfl))))) trivial))))))))
 have hm0 := cpu_mem stZ 1536 6 M0 [.cells w2T [.v (u32V a), .v (u32V b)]]
 refine satq_mid (α := Unit) (fun _ => [(3, .p (.c (.ref 7 0))), (5, .p (.c (.ref 0 0)))]) (fun _ => sinU a b stZ M1) ?_ fun _ => ?_
 ·refine satq_vcN ?_
  conv => whnf
  refine sat_anyG (.q 0 (.q 1 (.q 2 (.q 4 (.alt 3 (.alt 5 (.alt 6 .done .no) .no) (.alt 5 (.alt 3 (.alt 6 .done .no) .no) .no)))))) mixed (by kernel_rfl) (by kernel_rfl) ?_
  conv => whnf
  repeat' (first
   | exact atq_mid () (ent_same rfl (aI rfl (aI rfl trivial)) (aI (aI rfl (Or.inl rfl)) (aI (aI rfl (Or.inl rfl)) (aI (aI rfl (Or.inl rfl)) (aI (aI rfl (Or.inl rfl)) (aI (aI rfl (Or.inl rfl)) (aI (aI rfl (Or.inl rfl)) (aI (aI rfl (Or.inl rfl)) (aI (aI rfl (Or.inl rfl)) trivial)))))))))
   | (refine call_con (x := strV (putL x)) rfl (by kernel_rfl) (fun r w' hR => put_walk x w' hxw) ?_; conv => whnf)
   | (refine call_memW (pre := []) (suf := [one (u32V 256), one (strV (putL x))]) 1 1536 6 M0 M1 (.tuple #[]) hm0 rfl rfl (by kernel_rfl) (fun w g gs hk hU => by rw [hM1]; exact mem_pokeAt M0 1536 6 _ _ w g gs hU hk0 (by unfold word; decide) (putTo_bytes _ _) (by unfold putL; rw [putTo_length]; omega) (by omega)) ?_; conv => whnf)
   | (refine ⟨?_, trivial⟩; conv => whnf)
   | (refine ⟨?_, ?_, trivial⟩ <;> conv => whnf))
 have hm1 := cpu_mem stZ 1536 6 M1 [.cells w2T [.v (u32V a), .v (u32V b)]]
 refine satq_seqN ?_
 conv => whnf
 refine call_memW (pre := []) (suf := [one (u32V 256)]) 1 1536 6 M1 M2 (.bool _) hm1 rfl rfl (by kernel_rfl) (fun w g gs hk hU => by rw [hM2]; exact mem_sync M1 1536 6 _ w g gs hU hk1 (by unfold word; decide)) ?_
 conv => whnf
 refine satq_seqN ?_
 conv => whnf
 refine satq_mid (α := { Q : MemP // Q = sinP M2 6 }) (fun _ => [(3, .p (.c (.ref 7 0))), (5, .p (.c (.ref 0 0)))]) (fun x => sinU a b stZ x.1) ?_ fun y => ?_
 ·refine satq_seqN ?_
  conv => whnf
  refine satq_block ?_
  refine satq_loop (α := { x : Nat × MemP // x.1 ≤ 6 ∧ x.2 = sinP M2 x.1 }) (fun x => [(3, .p (.c (.ref 7 0))), (5, .p (.c (.ref 0 0))), (8, .p (.c (.ref 8 0))), (9, one (intV (x.1.1 : Int)))]) (fun x => sinU a b stZ x.1.2 ++ ([.cells 111 sinC] : List Ow)) (fun x => 6 - x.1.1)
   ⟨(0, M2), by omega, rfl⟩ (ent_same rfl (aI rfl (aI rfl (aI rfl (aI rfl trivial)))) (aI (aI rfl (Or.inl rfl)) (aI (aI rfl (Or.inl rfl)) (aI (aI rfl (Or.inl rfl)) (aI (aI rfl (Or.inl rfl)) (aI (aI rfl (Or.inl rfl)) (aI (aI rfl (Or.inl rfl)) (aI (aI rfl (Or.inl rfl)) (aI (aI rfl (Or.inl rfl)) (aI (aI rfl (Or.inl rfl)) trivial)))))))))) fun x => ?_
  obtain ⟨⟨q, Q⟩, hq, hQ⟩ := x
  dsimp only at hq hQ ⊢
  have hQk : Q.ok 1536 6 := hQ ▸ sinP_ok hk2 q
  have hmq := cpu_mem stZ 1536 6 Q ([.cells w2T [.v (u32V a), .v (u32V b)], .cells 111 sinC])
  refine satq_seqN ?_
  conv => whnf
  refine ⟨fun hc => ?_, fun hc => ?_⟩
  ·have hlt : q < 6 := by simp at hc; omega
   conv => whnf
   refine satq_in (satq_block ?_)
   refine satq_vcN ?_
   conv => whnf
   refine sat_tail 8 mixed (by kernel_rfl) ?_
   conv => whnf
   (refine ⟨⟨by omega, by omega⟩, ?_⟩; (conv=>whnf))
   erw [six_at hlt]
   conv => whnf
   refine call_memW (pre := []) (suf := [one (intV (q : Int)), one (intV (sinL q))]) 1 1536 6 Q (Q.protect q (sinL q)) (.tuple #[]) hmq rfl rfl (by kernel_rfl) (fun w g gs hk hU => mem_protect Q 1536 6 q (sinL q) w g gs hU hQk hlt (by omega) (sinL_ok q)) ?_
   conv => whnf
   refine atq_block (atq_on ?_)
   refine satq_vcN ?_
   conv => whnf
   refine ⟨(q : Int) + 1, wr64 (by omega), ?_⟩
   conv => whnf
   exact atq_next ⟨(q + 1, Q.protect q (sinL q)), by show q + 1 ≤ 6; omega, by show _ = sinP M2 (q + 1); rw [hQ]; rfl⟩ (ent_same rfl (aI rfl (aI rfl (aI rfl (aI rfl trivial)))) (aI (aI rfl (Or.inl rfl)) (aI (aI rfl (Or.inl rfl)) (aI (aI rfl (Or.inl rfl)) (aI (aI rfl (Or.inl rfl)) (aI (aI rfl (Or.inl rfl)) (aI (aI rfl (Or.inl rfl)) (aI (aI rfl (Or.inl rfl)) (aI (aI rfl (Or.inl rfl)) (aI (aI rfl (Or.inl rfl)) trivial)))))))))) (by show 6 - (q + 1) < 6 - q; omega)
  ·have he : q = 6 := by simp at hc; omega
   subst he
   conv => whnf
   exact atq_out (atq_exit (atq_mid ⟨Q, hQ⟩ (ent_drop (aI rfl (aI rfl trivial)) (aI (aI rfl (Or.inl rfl)) (aI (aI rfl (Or.inl rfl)) (aI (aI rfl (Or.inl rfl)) (aI (aI rfl (Or.inl rfl)) (aI (aI rfl (Or.inl rfl)) (aI (aI rfl (Or.inl rfl)) (aI (aI rfl (Or.inl rfl)) (aI (aI rfl (Or.inl rfl)) trivial)))))))) rfl (cpu_grpW stZ Q a b))))
 obtain ⟨Q, hQ⟩ := y
 dsimp only
 have hQk : Q.ok 1536 6 := hQ ▸ sinP_ok hk2 6
 refine satq_mid (α := Unit) (fun _ => [(3, .p (.c (.ref 7 0))), (5, .p (.c (.ref 0 0)))]) (fun _ => sinU a b (u32V 256 :: stZ.tail) Q) ?_ fun _ => ?_
 ·refine satq_vcN ?_
  conv => whnf
  exact atq_mid () (ent_same rfl (aI rfl (aI rfl trivial)) (aI (aI rfl (Or.inl rfl)) (aI (aI rfl (Or.inl rfl)) (aI (aI rfl (Or.inl rfl)) (aI (aI rfl (Or.inl rfl)) (aI (aI rfl (Or.inl rfl)) (aI (aI rfl (Or.inl rfl)) (aI (aI rfl (Or.inl rfl)) (aI (aI rfl (Or.inl rfl)) trivial)))))))))
 refine satq_mid (α := { x : (Int → Int) × List CV // (∀ j, 0 ≤ j → j < 16 → x.1 j = sinR a b j) ∧ x.2 = stC { sinS a b with R := x.1 } [] ++ [.ref 1 0] }) (fun _ => [(5, .p (.c (.ref 0 0)))]) (fun x => .cells cpuT x.1.2 :: memS 1 1536 6 Q) ?_ fun y => ?_
 ·refine satq_seqN ?_
  conv => whnf
  refine satq_block ?_
  refine satq_loop (α := { x : Nat × (Int → Int) × List CV // 1 ≤ x.1 ∧ x.1 ≤ 16 ∧ (∀ j, 0 ≤ j → j < (x.1 : Int) → x.2.1 j = sinR a b j) ∧ x.2.2 = stC { sinS a b with R := x.2.1 } [] ++ [.ref 1 0] }) (fun x => [(3, .p (.c (.ref 7 0))), (5, .p (.c (.ref 0 0))), (10, one (intV (x.1.1 : Int)))]) (fun x => .cells cpuT x.1.2.2 :: (memS 1 1536 6 Q ++ ([.cells w2T [.v (u32V a), .v (u32V b)]] : List Ow))) (fun x => 16 - x.1.1)
   ⟨(1, fun _ => 0, stC { sinS a b with R := fun _ => 0 } [] ++ [.ref 1 0]), by omega, by omega, fun j h0 h1 => by
    have h1 : j < ((1 : Nat) : Int) := h1
    obtain rfl : j = 0 := by omega
    rfl, rfl⟩ (ent_same rfl (aI rfl (aI rfl (aI rfl trivial))) (aI ((aI rfl (Or.inl rfl))) (aI ((aI rfl (Or.inl rfl))) (aI ((aI rfl (Or.inl rfl))) (aI ((aI rfl (Or.inl rfl))) (aI ((aI rfl (Or.inl rfl))) (aI ((aI rfl (Or.inl rfl))) (aI ((aI rfl (Or.inl rfl))) (aI ((aI rfl (Or.inl rfl))) trivial))))))))) fun x => ?_
  obtain ⟨⟨j, R, X⟩, hj1, hj, hR, hX⟩ := x
  dsimp only at hj1 hj hR hX ⊢
  have hXl : X.length = 25 := by rw [hX]; rfl
  refine satq_seqN ?_
  conv => whnf
  refine ⟨fun hc => ?_, fun hc => ?_⟩
  ·have hlt : j < 16 := by simp at hc; omega
   conv => whnf
   refine satq_in (satq_block ?_)
   refine satq_vcN ?_
   conv => whnf
   refine sat_tail 14 mixed (by kernel_rfl) ?_
   conv => whnf
   refine ⟨by decide, (j : Int) % 2, Int.tmod_eq_emod_of_nonneg (by omega), ?_⟩
   conv => whnf
   (refine ⟨⟨by omega, by omega⟩, ?_⟩; (conv=>whnf))
   erw [two_at a b (j := (j : Int)) (by omega)]
   conv => whnf
   refine ⟨by decide, (j : Int) / 2, by rw [Int.tdiv_eq_ediv_of_nonneg (by omega)]; exact wr64 (by omega), ?_⟩
   conv => whnf
   refine ⟨(j : Int) / 2, by rw [wr32]; omega, ?_⟩
   conv => whnf
   refine ⟨(sinW a b (j : Int) + (j : Int) / 2) % 4294967296, by rw [wr32], ?_⟩
   conv => whnf
   (refine ⟨⟨by omega, by omega⟩, ?_⟩; (conv=>whnf))
   erw [len_ble X hXl (m := 0 + 1 + (j : Int).toNat * 1 + 1) (by omega)]
   conv => whnf
   erw [len_big X hXl (by omega)]
   conv => whnf
   refine atq_block (atq_on ?_)
   refine satq_vcN ?_
   conv => whnf
   refine ⟨(j : Int) + 1, wr64 (by omega), ?_⟩
   conv => whnf
   exact atq_next ⟨(j + 1, regU R (j : Int) ((sinW a b (j : Int) + (j : Int) / 2) % 4294967296), _), by show 1 ≤ j + 1; omega, by show j + 1 ≤ 16; omega, fun i i0 i1 => by
    have i1 : i < ((j + 1 : Nat) : Int) := i1
    show (if i = (j : Int) then (sinW a b (j : Int) + (j : Int) / 2) % 4294967296 else R i) = sinR a b i
    by_cases he : i = (j : Int)
    ·rw [if_pos he, he]; unfold sinR; rw [if_neg (by omega)]
    ·rw [if_neg he]; exact hR i i0 (by omega), cpu_setR _ hX (by omega) (by omega)⟩ (ent_same rfl (aI rfl (aI rfl (aI rfl trivial))) (aI (aI rfl (Or.inl rfl)) (aI (aI rfl (Or.inl rfl)) (aI (aI rfl (Or.inl rfl)) (aI (aI rfl (Or.inl rfl)) (aI (aI rfl (Or.inl rfl)) (aI (aI rfl (Or.inl rfl)) (aI (aI rfl (Or.inl rfl)) (aI (aI rfl (Or.inl rfl)) trivial))))))))) (by show 16 - (j + 1) < 16 - j; omega)
  ·have he : j = 16 := by simp at hc; omega
   subst he
   conv => whnf
   exact atq_out (atq_exit (atq_mid ⟨(R, X), hR, hX⟩ (ent_drop (aI rfl trivial) (aI (aI rfl (Or.inl rfl)) (aI (aI rfl (Or.inl rfl)) (aI (aI rfl (Or.inl rfl)) (aI (aI rfl (Or.inl rfl)) (aI (aI rfl (Or.inl rfl)) (aI (aI rfl (Or.inl rfl)) (aI (aI rfl (Or.inl rfl)) trivial))))))) rfl (by show grpOk Gs.nil (.cells cpuT X :: memS 1 1536 6 Q) = true; rw [hX]; exact cpu_grp _ 1536 6 Q))))
 obtain ⟨⟨R, X⟩, hR, hX⟩ := y
 dsimp only at hR hX ⊢
 have hXe : X = (stL (sinS a b) []).map .v ++ [.ref 1 0] := by
  rw [hX, stC_congr (s := sinS a b) hR]; rfl
 rw [hXe, hQ, ← hend]
 refine satq_vcN ?_
 conv => whnf
 refine atq_ret ?_
 conv => whnf
 exact fin_newObjs 0 (cpuU 0 (stL (sinS a b) []) 1536 6 (sinM i)) (cpuU 0 (stL (sinS a b) []) 1536 6 (sinM i)) (by simp) (fun i _ => by rw [Nat.zero_add]) (cpuU_sh 0 _ 1536 6 _) (cpuU_ob _ 1536 6 _) fun w' g gs h => ⟨g, gs, rfl, h⟩
end Go.Proofs.YtnhdcclpjildjaaGreat
namespace Go.Proofs.YtnhdcclpjildjaaGreat
open Go.RowKit

section
variable {w0 : World} {G : Gs} {S : List Ow} {K : AV → List Ow → Prop}
theorem call_agrees (k n p i1 i2 i3 : Nat) (s : St) (M : MemP) (most : Int) (b : Blk) (L : List Value) (hb : b = liftM M s.pc most) (hL : L = stL s []) (hS : ∀ i, i < 7 → S[k + i]? = (cpuU k L n p M)[i]?) (hs : s.ok) (hst : s.steps < 1000000) (hM : M.ok n p) (hp : 1 ≤ p)
  (h1 : S[i1]? = some (.row 35 1 b.at_.length (b.at_.map (.int .u32)))) (h2 : S[i2]? = some (.row 3 1 b.pages.length (b.pages.map (.int .i64)))) (h3 : S[i3]? = some (.row 45 5 b.ops.length (b.ops.flatMap opC))) (hn : (i1 < k ∨ k + 7 ≤ i1) ∧ (i2 < k ∨ k + 7 ≤ i2) ∧ (i3 < k ∨ k + 7 ≤ i3))
  (hK : ∀ s' M', s'.ok → s'.steps ≤ s.steps + 64 → M'.ok n p → K (.tup [.c (.v (.bool true)), .agg ((outL (outR (runM M s most))).map .v)]) (putS S k (cpuU k (stL s' []) n p M'))) : CallS Tryz.prog w0 G 20 [.p (.agg [.row i1, .row i2, .row i3]), .p (.c (.ref k 0))] S K := by
 subst hL; subst hb
 refine call_objsX (α := St × MemP) (pre := [.p (.agg [.row i1, .row i2, .row i3])]) (suf := []) k (cpuU 0 (stL s []) n p M) (cpuU k (stL s []) n p M) (fun x => cpuU 0 (stL x.1 []) n p x.2) (fun x => cpuU k (stL x.1 []) n p x.2) (fun _ => .tuple #[.bool true, outV (outR (runM M s most))]) (fun x => x.1.ok ∧ x.1.steps ≤ s.steps + 64 ∧ x.2.ok n p) (by simp) (cpuU_sh k _ n p M) (cpuU_ob _ n p M) hS (by kernel_rfl) (fun _ _ => cpuU_sh k _ n p _) (fun _ _ => cpuU_ob _ n p _) (fun _ _ => rfl)
  (fun r w g gs xs ys hR hd hd2 hgs hU => ?_) (fun x hx => hK x.1 x.2 hx.1 hx.2.1 hx.2.2)
 obtain ⟨u, l, rfl, d1, d2⟩ := hd
 obtain rfl : l = [] := d2
 obtain rfl : ys = [] := hd2
 obtain ⟨us, rfl, hl⟩ := den_agg d1
 simp only [denL, CV.den] at hl
 obtain ⟨u1, l1, rfl, k1, u2, l2, rfl, k2, u3, l3, rfl, k3, rfl⟩ := hl
 obtain ⟨A1, c1, e1, s1⟩ := row_old hR hgs h1 hn.1 k1
 obtain ⟨A2, c2, e2, s2⟩ := row_old hR hgs h2 hn.2.1 k2
 obtain ⟨A3, c3, e3, s3⟩ := row_old hR hgs h3 hn.2.2 k3
 subst e1; subst e2; subst e3
 exact (agrees_walk s hs M n p most A1 A2 A3 c1 c2 c3 w g gs hU hM hp hst s1 s2 s3).mono fun e w' h => by
  obtain ⟨s', M', e1, e2, e3, e4, e5, e6⟩ := h
  exact ⟨(s', M'), ⟨e2, e3, e4⟩, e1, e5, e6⟩
end
theorem hold {p : Prop} (h : p ∨ False) : p := h.elim id False.elim
end Go.Proofs.YtnhdcclpjildjaaGreat
namespace Go.Proofs.YtnhdcclpjildjaaGreat
open Go.RowKit

theorem sinP_data (M : MemP) : ∀ j, (sinP M j).data = M.data ∧ (sinP M j).image = M.image
 | 0 => ⟨rfl, rfl⟩
 | j + 1 => sinP_data M j
theorem sinP_right {M : MemP} (hM : M.ok 1536 6) : ∀ j, j ≤ 6 → ∀ y, y < j → (sinP M j).rights[y]? = some (sinL y)
 | 0, _, y, hy => by omega
 | j + 1, hj, y, hy => by
  have ih := sinP_right hM j (by omega)
  show (List.set (sinP M j).rights j (sinL j))[y]? = _
  rw [List.getElem?_set]
  by_cases hc : j = y
  ·rw [if_pos hc, if_pos (by rw [(sinP_ok hM j).lr]; omega), hc]
  ·rw [if_neg hc]; exact ih y (by omega)
theorem sinM0_image (i : QI) {b : Nat} (hb : b < 4) : (sinM0 i).image[256 + b]? = some (byteAt (sinX i) b) := by
 have hl : (putL (sinX i)).length = 4 := by unfold putL; rw [putTo_length]
 have hk := pokeAt_ok zero_ok6 ((256 : Nat) : Int) (putTo_bytes (sinX i) 4) (putL (sinX i)).length (Nat.le_refl _)
 have hd := pokeAt_data zero_ok6 (by omega) 256 (putL (sinX i)) (putTo_bytes _ _) (by rw [hl]; omega) (putL (sinX i)).length (Nat.le_refl _) (256 + b)
 unfold sinM0
 have hk : ((MemP.zero 6).pokeAt ((256 : Nat) : Int) (putL (sinX i)) (putL (sinX i)).length).ok 1536 6 := hk
 have e256 : ((256 : Nat) : Int) = (256 : Int) := rfl
 rw [e256] at hk hd
 generalize hQ : (MemP.zero 6).pokeAt 256 (putL (sinX i)) (putL (sinX i)).length = Q at hk hd ⊢
 have e : Q.syncM 256 = Q.syncTo 256 256 := by
  unfold MemP.syncM
  rw [if_pos (by rw [hk.ld]; omega)]
  rfl
 rw [e, syncTo_image hk 256 256 (by omega) (256 + b), if_pos (by omega), hd, if_pos (by rw [hl]; omega), show 256 + b - 256 = b by omega]
 unfold putL putTo
 rw [List.getElem?_map, List.getElem?_range hb]
 rfl
theorem sin_fet (i : QI) (b : Nat) (hb : b < 4) : (sinM i).fet (256 + (b : Int)) = some (byteAt (sinX i) b) := by
 have hk : (sinM i).ok 1536 6 := sinM_ok
 have hr : (sinM i).right (256 + (b : Int)) 4 = true := by
  unfold MemP.right
  rw [show ((256 + (b : Int)) / 256).toNat = 1 by omega, hk.ld, show (sinM i).rights[1]? = some (sinL 1) from sinP_right sinM0_ok 6 (Nat.le_refl _) 1 (by omega)]
  simp [sinL]
  omega
 have hc : (sinM i).code (256 + (b : Int)) = byteAt (sinX i) b := by
  unfold MemP.code
  rw [show (256 + (b : Int)).toNat = 256 + b by omega, show (sinM i).image = (sinM0 i).image from (sinP_data _ 6).2, sinM0_image i hb]
  rfl
 unfold MemP.fet
 rw [if_pos hr, hc]
theorem sin_read {i : QI} (hi : word i.imm) : readQ (sinM i).fet 256 = decQ (sinX i) := by
 unfold readQ
 rw [if_pos (by decide), readN_four (sinX_word hi) fun b hb => sin_fet i b hb]
 rfl
theorem sin_valid {i : QI} (hi : word i.imm) (hv : validQ i = true) : readQ (sinM i).fet 256 = some i := by
 rw [sin_read hi]
 unfold sinX encQ
 rw [if_pos hv]
 exact (decQ_word hv hi).1
end Go.Proofs.YtnhdcclpjildjaaGreat
namespace Go.Proofs.YtnhdcclpjildjaaGreat
open Go.RowKit

theorem one_run {M : MemP} {s : St} {i : QI} (hpc : s.pc = 256) (hi : readQ M.fet 256 = some i) : (runM M s 1).leaves = (stepQ i 256 s.R M).isNone := by
 have ha : qAddr s.pc 0 = 256 := by rw [hpc]; decide
 have hq : qAt (readQ M.fet) 256 = i := by unfold qAt; rw [hi]; rfl
 unfold runM
 rw [show limN 1 = 0 + 1 from rfl, runQ_succ, ha, hq]
 cases hs : stepQ i 256 s.R M with
 | none => rfl
 | some y =>
  obtain ⟨R', nx, M'⟩ := y
  dsimp only
  cases ht : qTail i 256 with
  | none => rfl
  | some l => rfl
theorem stepR_kind {s : St} {M : MemP} {v : Value} {M' : MemP} {i : QI} (hpc : s.pc = 256) (hi : readQ M.fet 256 = some i) (hs : simpleQ i.op = true) (h : StepR s M v M') : ∃ s' k inf, v = .agg (stL s' [] ++ [intV k, u32V inf]).toArray ∧ (!(k == 0)) = (stepQ i 256 s.R M).isNone := by
 unfold StepR at h
 rw [hpc, hi] at h
 dsimp only at h
 rw [if_pos hs] at h
 cases hq : stepQ i 256 s.R M with
 | none =>
  rw [hq] at h
  obtain ⟨k, inf, hk, hv, _⟩ := h
  exact ⟨s, k, inf, hv, by simp [hk]⟩
 | some y =>
  rw [hq] at h
  exact ⟨_, 0, 0, h.1, rfl⟩
def memQ (n0 n4 : Int) (q : QI) : QI := ⟨23 + n0 % 4, q.d, q.a, 0, sgnW (n4 % 4294967296) 12⟩
theorem memQ_ok {n0 n4 : Int} {q : QI} (hq : q.ok) : (memQ n0 n4 q).ok := by
 have hd := hq.d
 have ha := hq.a
 refine ⟨?_, hd, ha, ?_, ?_⟩
 ·unfold memQ; dsimp only; omega
 ·unfold memQ; dsimp only; omega
 ·show word (sgnW (n4 % 4294967296) 12)
  unfold word
  rw [sgn12]
  split <;> omega
theorem memQ_valid {n0 n4 : Int} {q : QI} (hq : q.ok) : validQ (memQ n0 n4 q) = true := by
 have hd := hq.d
 have ha := hq.a
 have hf : qForm (memQ n0 n4 q).op = ⟨true, true, true, false, true, 18, 0⟩ := by
  show qForm (23 + n0 % 4) = _
  rcases (by omega : 23 + n0 % 4 = 23 ∨ 23 + n0 % 4 = 24 ∨ 23 + n0 % 4 = 25 ∨ 23 + n0 % 4 = 26) with h | h | h | h <;> (rw [h]; rfl)
 unfold validQ
 rw [hf]
 have r1 : regB (memQ n0 n4 q).d true = true := by unfold regB memQ; simp; omega
 have r2 : regB (memQ n0 n4 q).a true = true := by unfold regB memQ; simp; omega
 have r3 : regB (memQ n0 n4 q).b false = true := rfl
 have r4 : immB ⟨true, true, true, false, true, 18, 0⟩ (memQ n0 n4 q).imm = true := by
  unfold immB
  rw [if_neg (by decide), if_pos rfl]
  show decide (sgnW (sgnW (n4 % 4294967296) 12) 18 = sgnW (n4 % 4294967296) 12) = true
  rw [decide_eq_true_iff, sgn18, sgn12]
  split <;> split <;> omega
 rw [r1, r2, r3, r4]
 rfl
theorem memQ_simple {n0 n4 : Int} {q : QI} : simpleQ (memQ n0 n4 q).op = true := by
 unfold simpleQ
 show decide _ = true
 have : (memQ n0 n4 q).op = 23 + n0 % 4 := rfl
 simp only [this, decide_eq_true_eq]
 omega
end Go.Proofs.YtnhdcclpjildjaaGreat
namespace Go.Proofs.YtnhdcclpjildjaaGreat
open Go.RowKit
def CV.up (k : Nat) : CV → CV
 | .v x => .v x
 | .ref i o => .ref (k + i) o
 | .vref i o => .vref (k + i) o
 | .row i => .row (k + i)
 | .sl i o n c => .sl (k + i) o n c
 | .mp i => .mp (k + i)
 | .clo _ _ => .any
 | .any => .any
def Ow.up (k : Nat) : Ow → Ow
 | .cells t l => .cells t (l.map (CV.up k))
 | .row e size n xs => .row e size n xs
 | .ext φ => .ext φ
 | _ => .gone
def Env.cat (r : Env) (k : Nat) (s : Env) : Env := ⟨fun i => if i < k then r.blk i else s.blk (i - k), fun i => if i < k then r.val i else s.val (i - k)⟩
theorem Env.cat_blk (r : Env) (k : Nat) (s : Env) (i : Nat) : (r.cat k s).blk (k + i) = s.blk i := by
 show (if k + i < k then _ else _) = _
 rw [if_neg (by omega), Nat.add_sub_cancel_left]
theorem Env.cat_val (r : Env) (k : Nat) (s : Env) (i : Nat) : (r.cat k s).val (k + i) = s.val i := by
 show (if k + i < k then _ else _) = _
 rw [if_neg (by omega), Nat.add_sub_cancel_left]
theorem CV.up_den (r : Env) (k : Nat) (s : Env) : ∀ (c : CV) (u : Value), c.den s u → (c.up k).den (r.cat k s) u
 | .v x, u, h => by simpa only [CV.den, CV.up] using h
 | .ref i o, u, h => by simp only [CV.den, CV.up] at h ⊢; obtain ⟨b, hb, hu⟩ := h; exact ⟨b, by rw [Env.cat_blk]; exact hb, hu⟩
 | .vref i o, u, h => by simp only [CV.den, CV.up] at h ⊢; obtain ⟨b, o2, n, c, hb, hu⟩ := h; exact ⟨b, o2, n, c, by rw [Env.cat_val]; exact hb, hu⟩
 | .row i, u, h => by simp only [CV.den, CV.up] at h ⊢; rw [Env.cat_val]; exact h
 | .sl i o n c, u, h => by simp only [CV.den, CV.up] at h ⊢; obtain ⟨b, hb, hu⟩ := h; exact ⟨b, by rw [Env.cat_blk]; exact hb, hu⟩
 | .mp i, u, h => by simp only [CV.den, CV.up] at h ⊢; obtain ⟨b, hb, hu⟩ := h; exact ⟨b, by rw [Env.cat_blk]; exact hb, hu⟩
 | .clo f l, u, h => by simp only [CV.den, CV.up]
 | .any, u, h => by simp only [CV.den, CV.up]
theorem denL_up (r : Env) (k : Nat) (s : Env) : ∀ (l : List CV) (us : List Value), denL s l us → denL (r.cat k s) (l.map (CV.up k)) us
 | [], us, h => by simpa only [denL, List.map_nil] using h
 | c :: cs, us, h => by simp only [denL, List.map_cons] at h ⊢; obtain ⟨u, l, hu, hc, hl⟩ := h; exact ⟨u, l, hu, CV.up_den r k s c u hc, denL_up r k s cs l hl⟩
theorem rel_cat {w0 : World} {G : Gs} {S T : List Ow} {r s : Env} {w w' : World} (h : Rel w0 G S r w) (h3 : Rel w Gs.nil T s w') : Rel w0 G (S ++ T.map (Ow.up S.length)) (r.cat S.length s) w' ∧ r.le (r.cat S.length s) := by
 refine h.snocs h3.toBelow _ _ (fun i hi => ⟨if_pos hi, if_pos hi⟩) (fun i x hi hx => ?_) (fun i j x hi hj hx hy => ?_) (fun i hi => ?_) (fun j o hj => ?_)
 ·have hx : (if i < S.length then r.blk i else s.blk (i - S.length)) = some x := hx
  rw [if_neg (by omega)] at hx
  obtain ⟨h1, h2⟩ := h3.new _ x hx
  refine ⟨?_, h1⟩
  rcases Nat.lt_or_ge x w.heap.size with h4 | h4
  ·exact absurd (h2 h4) (by simp)
  ·exact h4
 ·have hx : (if i < S.length then r.blk i else s.blk (i - S.length)) = some x := hx
  have hy : (if j < S.length then r.blk j else s.blk (j - S.length)) = some x := hy
  rw [if_neg (by omega)] at hx hy
  have := h3.inj _ _ x hx hy
  omega
 ·rw [List.length_map] at hi
  obtain ⟨m, rfl⟩ : ∃ m, i = S.length + m := ⟨i - S.length, by omega⟩
  rw [Env.cat_blk, Env.cat_val]
  exact ⟨h3.outB m (by omega), h3.outV m (by omega)⟩
 ·rw [List.getElem?_map] at hj
  cases ht : T[j]? with
  | none => rw [ht] at hj; cases hj
  | some q =>
   rw [ht] at hj
   injection hj with hj
   subst hj
   have ho := h3.own j q ht
   cases q with
   | cells t l => obtain ⟨b, us, e1, e2, e3⟩ := ho; exact ⟨b, us, by rw [Env.cat_blk]; exact e1, e2, denL_up r _ s l us e3⟩
   | row e size n xs => obtain ⟨v, e1, e2, e3⟩ := ho; exact ⟨v, by rw [Env.cat_val]; exact e1, by rw [Env.cat_blk]; exact e2, e3⟩
   | ext φ => obtain ⟨b, e1, e2⟩ := ho; exact ⟨b, by rw [Env.cat_blk]; exact e1, e2⟩
   | view => trivial
   | gone => trivial
theorem satq_plain {P : Program} {w0 : World} {G : Gs} {N : Nd} {c d : Code} {f : Fr} {S : List Ow} {Q : Exit → Act → World → Prop} {α : Type} (F : α → Fr) (U : α → List Ow)
  (h : ∀ r w, Rel w0 G S r w → ∃ (f2 : Fr) (T : α → Fr), (∀ a, FDen r f a → FDen Env.none f2 a) ∧ (∀ y a s, FDen s (T y) a → FDen (r.cat S.length s) (F y) a) ∧ SatQ P w Gs.nil N c f2 [] (MidQ w Gs.nil N T U fun _ _ _ => False))
  (hd : ∀ y, SatQ P w0 G N d (F y) (S ++ (U y).map (Ow.up S.length)) Q) : SatQ P w0 G N (.seq c d) f S Q :=
 satq_in ⟨fun a w ⟨r, hR, hf, hN, hds⟩ => by
  obtain ⟨f2, T, h1, h2, h3⟩ := h r w hR
  refine wpIn_mono (h3.out a w ⟨Env.none, rel_none w, h1 a hf, hN, hds⟩) fun e a' w' hq => ?_
  cases e with
  | normal =>
   obtain ⟨y, s, hR3, hf3, hN3, hd3⟩ := hq
   exact (hd y).out a' w' ⟨_, (rel_cat hR hR3).1, h2 y a' s hf3, hN3, hd3⟩
  | exit id => exact hq.elim
  | goto l => exact hq.elim
  | ret => exact hq.elim
  | panic ch => exact hq.elim
  | outgrown => exact hq.elim⟩
theorem slot_back {r s : Env} {f : Fr} {a : Act} {k : Nat} (hf : FDen s f a) (d : Nat) {i off b : Nat} (hb : r.blk i = some b) (hi : i < k) (h : f.get d = one (.pointer (some ⟨b, off, none⟩))) : AV.den (r.cat k s) (.p (.c (.ref i off))) (a.tmps.getD d undef) := by
 have := hf d
 rw [h] at this
 rw [den_v this]
 exact den_mk_ref (by show (if i < k then r.blk i else _) = _; rw [if_pos hi]; exact hb)
theorem slot_up {r s : Env} {f : Fr} {a : Act} {k : Nat} (hf : FDen s f a) (d : Nat) {c : CV} (h : f.get d = .p (.c c)) : AV.den (r.cat k s) (.p (.c (c.up k))) (a.tmps.getD d undef) := by
 have := hf d
 rw [h] at this
 exact CV.up_den r k s c _ this
end Go.Proofs.YtnhdcclpjildjaaGreat
namespace Go.Proofs.YtnhdcclpjildjaaGreat
open Go.RowKit

theorem ProgAt.keep {w w' : World} {A : Option Addr} {n : Nat} (h : ProgAt w A n) (hs : w.heap.size ≤ w'.heap.size) (hb : ∀ k, k < w.heap.size → w'.heap[k]? = w.heap[k]?) : ProgAt w' A n := fun j hj => by
 obtain ⟨b, off, n0, n1, n2, n3, n4, e, h1, h2, h3⟩ := h j hj
 exact ⟨b, off, n0, n1, n2, n3, n4, e, Nat.lt_of_lt_of_le h1 hs, by simp, fun i u hi => by have := h3 i u hi; simp only [World.cell?] at this ⊢; rw [hb b h1]; exact this⟩
end Go.Proofs.YtnhdcclpjildjaaGreat
namespace Go.Proofs.YtnhdcclpjildjaaGreat
open Go.RowKit

theorem cpu_plain {w : World} {g n p : Nat} {gs : List Nat} {us : List Value} {M : MemP} (h : ObjsAt w (g :: gs) (cpuU 0 us n p M)) : ∃ g1 qs, w.heap[g]? = some (.cells (us ++ [ptrV g1]).toArray cpuT (0, 0)) ∧ ObjsAt w (g1 :: qs) (memS 0 n p M) := by
 have hR := rel_objs h
 obtain ⟨g1, qs, h1, h2⟩ := hR.objsAt 1 (memS 0 n p M) (memS 1 n p M) (by simp) (fun i hi => by rcases (by have : i < 6 := hi; omega : i = 0 ∨ i = 1 ∨ i = 2 ∨ i = 3 ∨ i = 4 ∨ i = 5) with rfl | rfl | rfl | rfl | rfl | rfl <;> rfl) (memS_sh 1 n p M) (memS_ob n p M)
 obtain ⟨b, vs, e1, e2, e3⟩ := hR.own 0 _ rfl
 have hb : b = g := by
  have : some g = some b := e1
  injection this with this; exact this.symm
 subst hb
 have hvs : vs = us ++ [ptrV g1] := by
  have hl := denL_length e3
  have ht := denL_take us.length e3
  have hdr := denL_drop us.length e3
  rw [show us.length = (us.map CV.v).length by rw [List.length_map]] at ht hdr
  rw [List.take_left] at ht
  rw [List.drop_left] at hdr
  have ht := denL_vals_inv ht
  simp only [denL, CV.den] at hdr
  obtain ⟨u, l, hu, ⟨b', hb', hu'⟩, hl'⟩ := hdr
  rw [h1] at hb'
  injection hb' with hb'
  subst hb'
  rw [← List.take_append_drop (us.map CV.v).length vs, ht, hu, hu', hl']
 rw [hvs] at e2
 exact ⟨g1, qs, e2, h2⟩
section
variable {w0 : World} {S : List Ow} {K : AV → List Ow → Prop} {g n p : Nat} {gs : List Nat} {M : MemP}
end
theorem fin_grown {w0 : World} {gs : List Nat} {S : List Ow} {v : AV} {x : Value} {R : Ending → World → Prop} (hv : v.val = some x) (h : ∀ w, GrownBys w0 w gs → R (.returned x) w) : Fin w0 ⟨gs, []⟩ S v R := by
 refine ⟨fun r w u hR hd => ?_⟩
 obtain rfl := AV.val_den hv hd
 exact h w hR.growns
theorem below_grown {w w1 w2 w' : World} {gs : List Nat} {U : List Ow} (hB : Below w.heap.size w w1) (hn : NewObjs w1 w2 gs U) (h2 : GrownBys w2 w' gs) : Below w.heap.size w w' := by
 have hBB : Below w.heap.size w w2 := hB.trans (hn.below.mono hB.size)
 refine ⟨h2.os.trans hBB.os, h2.tape.trans hBB.tape, h2.output.trans hBB.output, Nat.le_trans hBB.size h2.size, fun k hk => ?_⟩
 refine (h2.block k (Nat.lt_of_lt_of_le hk hBB.size) fun hm => ?_).trans (hBB.block k hk)
 have := hn.fresh k hm
 have := hB.size
 omega
end Go.Proofs.YtnhdcclpjildjaaGreat
namespace Go.Proofs.YtnhdcclpjildjaaGreat
open Go.RowKit

abbrev meS (a b : Int) (i : Int) (x : Int) : St := { sinS a b with R := regU (regU (sinS a b).R i x) 0 0 }
theorem meS_ok {a b i x : Int} (hx : word x) : (meS a b i x).ok := by
 have h := sin_ok (a := a) (b := b)
 refine ⟨h.pc, fun k h0 h1 => ?_, ?_, h.fl, h.steps⟩
 ·show word (if k = 0 then 0 else if k = i then x else (sinS a b).R k)
  split
  ·exact word0
  ·split
   ·exact hx
   ·exact h.reg k h0 h1
 ·show (if (0 : Int) = 0 then (0 : Int) else if (0 : Int) = i then x else (sinS a b).R 0) = 0
  exact if_pos rfl
theorem q_eql_bool {P : Program} {w0 : World} {G : Gs} {S : List Ow} {f : Fr} {o : Oper} {K : AV → Prop} {t t' : TypeId} {x y : Operand} (a b : Bool) (hop : o.op = .binOp .eql t x y t') (ht : P.underlying t = some .bool) (hx : f.ev x = one (.bool a)) (hy : f.ev y = one (.bool b)) (hk : K (one (.bool (a == b)))) : QRun P w0 G S f o K := by
 refine ⟨_, hk, fun r act hf => ⟨_, den_one _ _, fun w hR => ?_⟩⟩
 have h1 := hf.ev x
 have h2 := hf.ev y
 rw [hx] at h1; rw [hy] at h2
 simp [execOp, hop, den_v h1, den_v h2, eqGuard, run_eql_bool w t a b ht]
theorem up_vals (k : Nat) (us : List Value) : (us.map CV.v).map (CV.up k) = us.map CV.v := by
 rw [List.map_map]; rfl
section
variable {w0 : World} {S : List Ow} {K : AV → List Ow → Prop} {n p : Nat} {M : MemP}
theorem call_copyP {g : Nat} {gs : List Nat} (hO : ObjsAt w0 (g :: gs) (memS 0 n p M)) (hM : M.ok n p) (hp : 1 ≤ p) (hK : ∀ t : Tl, K (.p (.c (.ref S.length 0))) (S ++ memS S.length n p (M.tl t))) : CallS Tryz.prog w0 Gs.nil 25 [one (ptrV g)] S K := by
 refine call_newObjsX (α := Tl) (fun t => memS 0 n p (M.tl t)) (fun t => memS S.length n p (M.tl t)) (fun _ => True) (by kernel_rfl) (fun _ _ => memS_sh S.length n p _) (fun _ _ => memS_ob n p _) (fun r w' xs hR hd => ?_) fun t _ => hK t
 obtain rfl := avals_den (xs := [ptrV g]) rfl hd
 exact (copy_walk M n p w' g gs (objs_later (memS_ob n p M) hO hR.toBelow) hM hp).mono fun e w'' ⟨g', gs', M', he, ⟨t1, t2, t3, t4, t5, hM'⟩, hn⟩ => ⟨g', gs', ⟨t1, t2, t3, t4, t5⟩, he, trivial, by rw [hM'] at hn; exact hn⟩
theorem call_stepP {G : Gs} (k : Nat) (s : St) (L : List Value) (hL : L = stL s []) (hs : s.ok) (hM : M.ok n p) {i : QI} (hpc : s.pc = 256) (hi : readQ M.fet 256 = some i) (hsi : simpleQ i.op = true) (hS : ∀ j, j < 6 → S[k + j]? = (memS k n p M)[j]?)
  (hK : ∀ (s' : St) (kk inf : Int) (M' : MemP), (!(kk == 0)) = (stepQ i 256 s.R M).isNone → K (.p (.agg ((stL s' [intV kk, u32V inf]).map .v))) (putS S k (memS k n p M'))) : CallS Tryz.prog w0 G 24 [.p (.agg (L.map .v)), .p (.c (.ref k 0))] S K := by
 refine call_objs (α := (St × Int × Int) × MemP) (pre := [.p (.agg (L.map .v))]) (suf := []) (xs := [.agg L.toArray]) (ys := []) k (memS 0 n p M) (memS k n p M) (fun x => memS 0 n p x.2) (fun x => memS k n p x.2) (fun x => .agg (stL x.1.1 [intV x.1.2.1, u32V x.1.2.2]).toArray) (fun x => (!(x.1.2.1 == 0)) = (stepQ i 256 s.R M).isNone) (by simp) (memS_sh k n p M) (memS_ob n p M) hS (avals_1st L) rfl (by kernel_rfl) (fun _ _ => memS_sh k n p _) (fun _ _ => memS_ob n p _) (fun _ _ => rfl) (fun w' q qs hk hU => ?_) fun x hx => hK x.1.1 x.1.2.1 x.1.2.2 x.2 hx
 rw [hL]
 exact (step_walk s hs M n p w' q qs hU hM).mono fun e w2 ⟨v, M', he, hR, hMo, hO, hG⟩ => by
  obtain ⟨s', kk, inf, hv, hk⟩ := stepR_kind hpc hi hsi hR
  exact ⟨((s', kk, inf), M'), hk, by rw [he, hv]; rfl, hO, hG⟩
end
set_option maxRecDepth 100000 in
set_option maxHeartbeats 8000000 in
theorem memory_law (n0 n1 n2 n3 n4 a v : Int) (ha : word a) (hv : word v) (w : World) : Calls Tryz.prog 8 #[fiveV n0 n1 n2 n3 n4, u32V a, u32V v] w fun e w' => e = .returned (.bool true) ∧ Below w.heap.size w w' := by
 refine calls_satq [fiveV n0 n1 n2 n3 n4, u32V a, u32V v] Tryz.func8 Tryz.ntmps8 rfl (by simp) ?_
 refine satq_seqN ?_
 conv => whnf
 refine satq_seqN ?_
 conv => whnf
 refine call_con (x := .bool true) rfl (by kernel_rfl) (fun r w' hR => sanity14 w') ?_
 conv => whnf
 obtain ⟨q0, hq0⟩ : ∃ q, q = madeQ n0 n1 n2 n3 n4 := ⟨_, rfl⟩
 have hq0o : q0.ok := hq0 ▸ madeQ_ok n0 n1 n2 n3 n4
 obtain ⟨q, hq⟩ : ∃ q, q = memQ n0 n4 q0 := ⟨_, rfl⟩
 have hqo : q.ok := hq ▸ memQ_ok hq0o
 have hqv : validQ q = true := hq ▸ memQ_valid hq0o
 have hqs : simpleQ q.op = true := hq ▸ memQ_simple
 have hqa : 0 ≤ q.a ∧ q.a < 16 := hqo.a
 obtain ⟨M, hM⟩ : ∃ M, M = sinM q := ⟨_, rfl⟩
 have hrd : readQ M.fet 256 = some q := hM ▸ sin_valid hqo.imm hqv
 refine satq_mid (α := Unit) (fun _ => [(1, one (u32V a)), (2, one (u32V v)), (3, .p (.c (.ref 0 0))), (7, one (.bool true)), (8, .p (.c (.ref 1 0)))]) (fun _ => [.cells 58 [.v (intV n0), .v (intV n1), .v (intV n2), .v (intV n3), .v (intV n4)], .cells qiT [.v (intV q0.op), .v (intV q0.d), .v (intV q0.a), .v (intV q0.b), .v (u32V q0.imm)]]) ?_ fun _ => ?_
 ·refine satq_vcN ?_
  conv => whnf
  refine call_con (x := qiV q0) rfl (by kernel_rfl) (fun r w' hR => by rw [hq0]; exact made_ref03 n0 n1 n2 n3 n4 w') ?_
  conv => whnf
  exact atq_mid () (ent_same rfl (aI rfl (aI rfl (aI rfl (aI rfl (aI rfl trivial))))) (aI (aI rfl (Or.inl rfl)) (aI (aI rfl (Or.inl rfl)) trivial)))
 refine satq_seqN ?_
 conv => whnf
 (refine ⟨⟨by omega, by omega⟩, ?_⟩; (conv=>whnf))
 refine call_con (x := intV (n0 % 4)) rfl (by kernel_rfl) (fun r w' hR => mod_ref n0 4 w' (by decide)) ?_
 conv => whnf
 refine ⟨23 + n0 % 4, wr64 (by omega), ?_⟩
 conv => whnf
 refine satq_seqN ?_
 conv => whnf
 refine satq_seqN ?_
 conv => whnf
 (refine ⟨⟨by omega, by omega⟩, ?_⟩; (conv=>whnf))
 refine ⟨n4 % 4294967296, by rw [wr32], ?_⟩
 conv => whnf
 refine call_con (x := u32V (sgnW (n4 % 4294967296) 12)) rfl (by kernel_rfl) (fun r w' hR => sign_ref (n4 % 4294967296) 12 w' (by unfold word; omega) (by unfold sbits; decide)) ?_
 conv => whnf
 have hqc : [CV.v (intV (23 + n0 % 4)), .v (intV q0.d), .v (intV q0.a), .v (intV 0), .v (u32V (sgnW (n4 % 4294967296) 12))] = [.v (intV q.op), .v (intV q.d), .v (intV q.a), .v (intV q.b), .v (u32V q.imm)] := by rw [hq]; rfl
 refine satq_as (f' := [(1, one (u32V a)), (2, one (u32V v)), (3, .p (.c (.ref 0 0))), (7, one (.bool true)), (8, .p (.c (.ref 1 0)))]) (S' := [.cells 58 [.v (intV n0), .v (intV n1), .v (intV n2), .v (intV n3), .v (intV n4)], .cells qiT [.v (intV q.op), .v (intV q.d), .v (intV q.a), .v (intV q.b), .v (u32V q.imm)]]) (ent_same rfl (aI rfl (aI rfl (aI rfl (aI rfl (aI rfl trivial))))) (aI (aI rfl (Or.inl rfl)) (aI ((aI rfl (Or.inl hqc))) trivial))) ?_
 refine satq_in (satq_jumpG 4 rfl rfl rfl ?_)
 conv => whnf
 refine ⟨by kernel_rfl, fun r w1 us hR hd => ?_⟩
 obtain rfl := avals_den (xs := [qiV q, .agg #[u32V v, u32V v]]) rfl hd
 have hB := hR.toBelow
 obtain ⟨b3, vs0, e1, e2, e3⟩ := hR.own 0 _ rfl
 obtain rfl := denL_vals_inv (us := [intV n0, intV n1, intV n2, intV n3, intV n4]) e3
 obtain ⟨b8, vs1, e4, e5, e6⟩ := hR.own 1 _ rfl
 obtain rfl := denL_vals_inv (us := [intV q.op, intV q.d, intV q.a, intV q.b, u32V q.imm]) e6
 refine (single_walk q hqo.op hqo.imm v v hv hv w1).mono fun e w2 ⟨g, gs, he, hn2⟩ => ?_
 have hB2 := hn2.below
 have hq3 : w2.heap[b3]? = some (.cells #[intV n0, intV n1, intV n2, intV n3, intV n4] 58 (0, 0)) := (hB2.block b3 (heap_lt e2)).trans e2
 have hq8 : w2.heap[b8]? = some (.cells #[intV q.op, intV q.d, intV q.a, intV q.b, u32V q.imm] qiT (0, 0)) := (hB2.block b8 (heap_lt e5)).trans e5
 obtain ⟨g0, g1, g2, g3, g4, g5, g6, hgs⟩ := seven_blocks hn2.at_
 injection hgs with hg0 hgs
 subst hgs; subst hg0
 have hfr : ∀ b, b < w1.heap.size → b ∉ (⟨[g, g1, g2, g3, g4, g5, g6], []⟩ : Gs) := fun b hb hm => by
  rcases hm with hm | hm
  ·have := hn2.fresh b hm
   omega
  ·cases hm
 refine ⟨_, .p (.c (.ref 0 0)), w2, ⟨[g, g1, g2, g3, g4, g5, g6], []⟩, [(1, one (u32V a)), (3, one (ptrV b3)), (7, one (.bool true)), (8, one (ptrV b8))], cpuU 0 (stL (sinS v v) []) 1536 6 (sinM q), envOf [g, g1, g2, g3, g4, g5, g6], he, rel_objs hn2.at_, fun a hf => frDen ⟨slot_same hf 1 rfl, slot_plain hf 3 rfl e1, slot_same hf 7 rfl, slot_plain hf 8 rfl e4, trivial⟩, den_mk_ref rfl, ?_⟩
 rw [← hM]
 conv => whnf
 refine atq_on ?_
 have hc3 : ∀ k x, [intV n0, intV n1, intV n2, intV n3, intV n4][k]? = some x → CellsAt w2 (Gs.flat ⟨[g, g1, g2, g3, g4, g5, g6], []⟩) b3 k [x] := fun k x hx => cells_one (heap_lt hq3) (fun hm => hfr b3 (heap_lt e2) (flat_mem.1 hm)) (by simp [World.cell?, hq3, hx])
 have hc8 : ∀ k x, [intV q.op, intV q.d, intV q.a, intV q.b, u32V q.imm][k]? = some x → CellsAt w2 (Gs.flat ⟨[g, g1, g2, g3, g4, g5, g6], []⟩) b8 k [x] := fun k x hx => cells_one (heap_lt hq8) (fun hm => hfr b8 (heap_lt e5) (flat_mem.1 hm)) (by simp [World.cell?, hq8, hx])
 obtain ⟨X, hX⟩ : ∃ X, X = stC (sinS v v) [] ++ [.ref 1 0] := ⟨_, rfl⟩
 have hXl : X.length = 25 := by rw [hX]; rfl
 refine satq_as (f' := [(1, one (u32V a)), (3, one (ptrV b3)), (7, one (.bool true)), (8, one (ptrV b8)), (9, .p (.c (.ref 0 0)))]) (S' := .cells cpuT X :: memS 1 1536 6 M) (ent_same rfl (aI rfl (aI rfl (aI rfl (aI rfl (aI rfl trivial))))) (aI ((aI rfl (Or.inl hX.symm))) (aI (aI rfl (Or.inl rfl)) (aI (aI rfl (Or.inl rfl)) (aI (aI rfl (Or.inl rfl)) (aI (aI rfl (Or.inl rfl)) (aI (aI rfl (Or.inl rfl)) (aI (aI rfl (Or.inl rfl)) trivial)))))))) ?_
 have hMk : M.ok 1536 6 := hM ▸ sinM_ok
 refine satq_mid (α := { x : Int // word x }) (fun _ => [(7, one (.bool true)), (9, .p (.c (.ref 0 0)))]) (fun x => .cells cpuT (stC { sinS v v with R := regU (sinS v v).R q.a x.1 } [] ++ [.ref 1 0]) :: memS 1 1536 6 M) ?_ fun x => ?_
 ·refine satq_vcN ?_
  conv => whnf
  refine sat_anyG (.q 0 (.q 1 (.q 2 (.q 3 (.q 4 (.q 8 (.q 9 (.q 11 (.q 12 (.q 14 (.q 15 (.q 16 (.alt 5 (.q 6 (.q 7 (.q 10 (.q 13 (.alt 17 (.alt 18 .done .no) .no))))) .no))))))))))))) mixed (by kernel_rfl) (by kernel_rfl) ?_
  conv => whnf
  refine ⟨intV q.a, hc8 2 _ rfl, ?_⟩
  conv => whnf
  refine q_index_ptr (size := 1) b3 0 5 0 rfl rfl rfl rfl rfl rfl (by decide) (by decide) ?_
  conv => whnf
  refine ⟨intV n0, hc3 0 _ rfl, ?_⟩
  conv => whnf
  refine ⟨by decide, a % 512, Int.tmod_eq_emod_of_nonneg ha.1, ?_⟩
  conv => whnf
  refine ⟨u32V q.imm, hc8 4 _ rfl, ?_⟩
  conv => whnf
  refine ⟨?_, trivial⟩
  conv => whnf
  refine call_con (x := intV (n0 % 8)) rfl (by kernel_rfl) (fun r w' hR => mod_ref n0 8 w' (by decide)) ?_
  conv => whnf
  refine ⟨n0 % 8, by rw [wr32]; omega, ?_⟩
  conv => whnf
  refine ⟨256 * (n0 % 8), by rw [wr32]; omega, ?_⟩
  conv => whnf
  refine ex_gen fun m hm => ?_
  conv => whnf
  refine ex_gen fun x hx => ?_
  have hxw : word x := by rw [← hx, wr32]; unfold word; omega
  conv => whnf
  refine ⟨?_, trivial⟩
  conv => whnf
  (refine ⟨⟨by omega, by omega⟩, ?_⟩; (conv=>whnf))
  refine ⟨?_, trivial⟩
  conv => whnf
  erw [len_ble X hXl (m := 0 + 0 + 1 + q.a.toNat * 1 + 1) (by omega)]
  conv => whnf
  erw [len_big X hXl (by omega)]
  conv => whnf
  exact atq_mid ⟨x, hxw⟩ (ent_same rfl (aI rfl (aI rfl trivial)) (aI ((aI rfl (Or.inl (cpu_setR (j := q.a) x hX (by omega) (by omega))))) (aI (aI rfl (Or.inl rfl)) (aI (aI rfl (Or.inl rfl)) (aI (aI rfl (Or.inl rfl)) (aI (aI rfl (Or.inl rfl)) (aI (aI rfl (Or.inl rfl)) (aI (aI rfl (Or.inl rfl)) trivial))))))))
 obtain ⟨x, hxw⟩ := x
 dsimp only
 obtain ⟨s, hs⟩ : ∃ s, s = meS v v q.a x := ⟨_, rfl⟩
 have hsk : s.ok := by rw [hs]; exact meS_ok hxw
 have hpc : s.pc = 256 := by rw [hs]; rfl
 have hs0 : s.steps = 0 := by rw [hs]; rfl
 clear hX hXl X
 obtain ⟨X, hX⟩ : ∃ X, X = stC { sinS v v with R := regU (sinS v v).R q.a x } [] ++ [.ref 1 0] := ⟨_, rfl⟩
 have hXl : X.length = 25 := by rw [hX]; rfl
 rw [← hX]
 obtain ⟨L, hL⟩ : ∃ L, L = stL s [] := ⟨_, rfl⟩
 have hLl : L.length = 24 := by rw [hL]; rfl
 refine satq_mid (α := Unit) (fun _ => [(7, one (.bool true)), (9, .p (.c (.ref 0 0)))]) (fun _ => cpuU 0 L 1536 6 M) ?_ fun _ => ?_
 ·refine satq_vcN ?_
  conv => whnf
  (refine ⟨⟨by omega, by omega⟩, ?_⟩; (conv=>whnf))
  erw [len_ble X hXl (m := 0 + 0 + 1 + (0 : Int).toNat * 1 + 1) (by omega)]
  conv => whnf
  erw [len_big X hXl (by omega)]
  conv => whnf
  exact atq_mid () (ent_same rfl (aI rfl (aI rfl trivial)) (aI ((aI rfl (Or.inl ((cpu_setR (j := 0) 0 hX (by omega) (by omega)).trans (by rw [hL, hs]))))) (aI (aI rfl (Or.inl rfl)) (aI (aI rfl (Or.inl rfl)) (aI (aI rfl (Or.inl rfl)) (aI (aI rfl (Or.inl rfl)) (aI (aI rfl (Or.inl rfl)) (aI (aI rfl (Or.inl rfl)) trivial))))))))
 clear hX hXl X
 have hmem : ∀ T : List Ow, ∀ i, i < 6 → (cpuU 0 L 1536 6 M ++ T)[1 + i]? = (memS 1 1536 6 M)[i]? := fun T => cpu_mem L 1536 6 M T
 obtain ⟨b1, hb1⟩ : ∃ b1, b1 = liftM M s.pc 1 := ⟨_, rfl⟩
 have hb2 := hb1
 rw [hpc] at hb2
 refine satq_seqN ?_
 conv => whnf
 erw [cpu_at hLl [.ref (0 + 1) 0] 0]
 conv => whnf
 refine call_lifted 1 1536 6 M 256 1 (fun i hi => by have := hmem [] i hi; rwa [List.append_nil] at this) hMk (by decide) (by unfold word; decide) ?_
 rw [← hb2]
 conv => whnf
 refine satq_seqN ?_
 conv => whnf
 (repeat ((first | apply k1 | apply k2 | apply k3 | apply k4 | refine k5 (by decide) ?_ | refine k6 (by decide) ?_); conv => whnf))
 refine satq_mid (α := Unit) (fun _ => [(7, one (.bool true)), (9, .p (.c (.ref 0 0))), (10, .p (.c (.ref 10 0))), (12, .p (.c (.ref 11 0)))]) (fun _ => cpuU 0 L 1536 6 M ++ (blkRows b1 ++ ([.cells blT [.row 7, .row 8, .row 9], .cells stT (L.map .v)] : List Ow))) ?_ fun _ => ?_
 ·refine satq_vcN ?_
  conv => whnf
  erw [cpu_cut hLl]
  conv => whnf
  erw [beq_len (List.length_map (f := CV.v) ▸ hLl)]
  conv => whnf
  erw [(hL ▸ stC_of s : StC L).one]
  conv => whnf
  erw [ble_of (m := stC ⟨0, fun _ => 0, 0, 0, 0, 0, 0, 0, 0⟩ []) ((hL ▸ stC_of s : StC L).clen.trans rfl)]
  conv => whnf
  exact atq_mid () (ent_same rfl (aI rfl (aI rfl (aI rfl (aI rfl trivial)))) (aI (aI rfl (Or.inl rfl)) (aI (aI rfl (Or.inl rfl)) (aI (aI rfl (Or.inl rfl)) (aI (aI rfl (Or.inl rfl)) (aI (aI rfl (Or.inl rfl)) (aI (aI rfl (Or.inl rfl)) (aI (aI rfl (Or.inl rfl)) (aI ((aI rfl (aI rfl (aI rfl rfl)))) (aI ((aI rfl (aI rfl (aI rfl rfl)))) (aI ((aI rfl (aI rfl (aI rfl rfl)))) (aI (aI rfl (Or.inl rfl)) (aI ((aI rfl (Or.inl (setAll_same (hL ▸ stC_of s : StC L).clen.symm)))) trivial)))))))))))))
 have hrun := one_run hpc hrd
 obtain ⟨nn, hnn⟩ : ∃ nn, nn = (stepQ q 256 s.R M).isNone := ⟨_, rfl⟩
 rw [← hnn] at hrun
 refine satq_plain (α := { x : St × Int × Int // (!(x.2.1 == 0)) = nn }) (fun _ => [(7, one (.bool true)), (9, .p (.c (.ref 0 0))), (10, .p (.c (.ref 10 0))), (13, .p (.c (.ref 12 0)))]) (fun y => [.cells outT ((stL y.1.1 [intV y.1.2.1, u32V y.1.2.2]).map .v)]) (fun r w3 hR3 => ?_) fun y => ?_
 ·obtain ⟨g', qs', hg', hO'⟩ := hR3.objsAt 0 (cpuU 0 L 1536 6 M) (cpuU 0 L 1536 6 M) (by simp) (fun i hi => by rw [Nat.zero_add]; exact List.getElem?_append_left hi) (cpuU_sh 0 L 1536 6 M) (cpuU_ob L 1536 6 M)
  obtain ⟨h1, qs, hg, hO⟩ := cpu_plain hO'
  obtain ⟨bb, _, hbb, _⟩ := hR3.own 10 _ rfl
  obtain ⟨bw, vw, hbw, hw1, hw2⟩ := hR3.own 11 _ rfl
  have hvw := denL_vals_inv hw2
  rw [hvw] at hw1
  refine ⟨[(7, one (.bool true)), (9, one (ptrV g')), (10, one (ptrV bb)), (12, one (ptrV bw))], fun _ => [(7, one (.bool true)), (9, one (ptrV g')), (10, one (ptrV bb)), (13, .p (.c (.ref 0 0)))], fun a hf => frDen ⟨slot_same hf 7 rfl, slot_plain hf 9 rfl hg', slot_plain hf 10 rfl hbb, slot_plain hf 12 rfl hbw, trivial⟩, fun _ a s hf => frDen ⟨slot_same hf 7 rfl, slot_back hf 9 hg' (by show 0 < 12; omega) rfl, slot_back hf 10 hbb (by show 10 < 12; omega) rfl, slot_up (c := .ref 0 0) hf 13 rfl, trivial⟩, ?_⟩
  refine satq_vcN ?_
  conv => whnf
  refine sat_anyG (.q 0 (.q 1 (.q 2 (.q 3 (.q 4 (.alt 5 (.alt 6 (.alt 7 (.alt 8 .done .no) .no) (.alt 7 (.alt 6 (.alt 8 .done .no) .no) .no)) (.alt 7 (.alt 5 (.alt 6 (.alt 8 .done .no) .no) .no) .no))))))) mixed (by kernel_rfl) (by kernel_rfl) ?_
  conv => whnf
  refine ⟨L, block_all hw1, hLl, ?_⟩
  conv => whnf
  have hL24 : ∀ u : Value, (L ++ [u])[24]? = some u := fun u => by rw [hL]; rfl
  refine ⟨_, block_cells (off := 24) hg (hL24 _), ?_⟩
  conv => whnf
  have htl : ∀ t : Tl, (stepQ q 256 s.R (M.tl t)).isNone = nn := fun t => by
   rw [stepQ_tl, hnn]
   cases stepQ q 256 s.R M <;> rfl
  have hrdt : ∀ t : Tl, readQ (M.tl t).fet 256 = some q := fun t => by rw [tl_fet]; exact hrd
  have hout : ∀ (s' : St) (kk inf : Int), ((stL s' [intV kk, u32V inf]).map CV.v).length = 26 := fun _ _ _ => rfl
  have hone : ∀ (s' : St) (kk inf : Int) (S : List Ow), onesL S ((stL s' [intV kk, u32V inf]).map CV.v) = true := fun _ _ _ _ => rfl
  repeat' (first
   | (refine call_copyP hO hMk (by decide) fun t => ?_; conv => whnf)
   | (refine call_stepP _ s L hL hsk (tl_ok hMk _) hpc (hrdt _) hqs (fun j hj => by rcases (by omega : j = 0 ∨ j = 1 ∨ j = 2 ∨ j = 3 ∨ j = 4 ∨ j = 5) with rfl | rfl | rfl | rfl | rfl | rfl <;> rfl) fun s' kk inf M' hkk => ?_; rw [htl] at hkk; obtain ⟨O, hO2⟩ : ∃ O, O = (stL s' [intV kk, u32V inf]).map CV.v := ⟨_, rfl⟩; have hOl : O.length = 26 := hO2 ▸ hout s' kk inf; have hO1 : ∀ S, onesL S O = true := fun S => hO2 ▸ hone s' kk inf S; rw [← hO2]; conv => whnf)
   | (erw [beq_len hOl]; (conv=>whnf); erw [hO1]; (conv=>whnf); erw [ble_of (m := (stL ⟨0, fun _ => 0, 0, 0, 0, 0, 0, 0, 0⟩ [intV 0, u32V 0]).map CV.v) (hOl.trans rfl)]; (conv=>whnf))
   | (refine ⟨?_, trivial⟩; conv => whnf)
   | (refine ⟨?_, ?_, trivial⟩ <;> conv => whnf)
   | fail)
  all_goals first
   | exact atq_mid ⟨(s', kk, inf), hkk⟩ (ent_ren [6] (aI rfl (aI rfl (aI rfl (aI rfl trivial)))) (aI ((Exists.intro _ (aI rfl (aI rfl (Or.inl (by erw [setAll_same (show ((stL ⟨0, fun _ => 0, 0, 0, 0, 0, 0, 0, 0⟩ [intV 0, u32V 0]).map CV.v).length = O.length from hOl.symm)]; rw [hO2]; exact (renL_vals _ _).symm)))))) trivial) rfl rfl rfl rfl rfl)
   | exact atq_mid ⟨(s', kk, inf), hkk⟩ (ent_ren [0] (aI rfl (aI rfl (aI rfl (aI rfl trivial)))) (aI ((Exists.intro _ (aI rfl (aI rfl (Or.inl (by erw [setAll_same (show ((stL ⟨0, fun _ => 0, 0, 0, 0, 0, 0, 0, 0⟩ [intV 0, u32V 0]).map CV.v).length = O.length from hOl.symm)]; rw [hO2]; exact (renL_vals _ _).symm)))))) trivial) rfl rfl rfl rfl rfl)
   | fail
 obtain ⟨⟨s', kk, inf⟩, hkk⟩ := y
 dsimp only at hkk ⊢
 obtain ⟨O, hO⟩ : ∃ O, O = (stL s' [intV kk, u32V inf]).map CV.v := ⟨_, rfl⟩
 rw [← hO]
 refine satq_as (f' := [(7, one (.bool true)), (9, .p (.c (.ref 0 0))), (10, .p (.c (.ref 10 0))), (13, .p (.c (.ref 12 0)))]) (S' := cpuU 0 L 1536 6 M ++ (blkRows b1 ++ ([.cells blT [.row 7, .row 8, .row 9], .cells stT (L.map .v), .cells outT O] : List Ow))) (ent_same rfl (aI rfl (aI rfl (aI rfl (aI rfl trivial)))) (aI (aI rfl (Or.inl rfl)) (aI (aI rfl (Or.inl rfl)) (aI (aI rfl (Or.inl rfl)) (aI (aI rfl (Or.inl rfl)) (aI (aI rfl (Or.inl rfl)) (aI (aI rfl (Or.inl rfl)) (aI (aI rfl (Or.inl rfl)) (aI ((aI rfl (aI rfl (aI rfl rfl)))) (aI ((aI rfl (aI rfl (aI rfl rfl)))) (aI ((aI rfl (aI rfl (aI rfl rfl)))) (aI (aI rfl (Or.inl rfl)) (aI (aI rfl (Or.inl rfl)) (aI ((aI rfl (Or.inl (hO ▸ up_vals _ _)))) trivial)))))))))))))) ?_
 obtain ⟨Lo, hLo⟩ : ∃ Lo, Lo = outL (outR (runM M s 1)) := ⟨_, rfl⟩
 have hLol : (Lo.map CV.v).length = 32 := by rw [hLo]; rfl
 refine satq_seqN ?_
 conv => whnf
 refine call_agrees 0 1536 6 7 8 9 s M 1 b1 L hb1 hL (fun i hi => ?_) hsk (by omega) hMk (by omega) rfl rfl rfl (by omega) fun s2 M2 hs2 hs3 hM2 => ?_
 ·rw [Nat.zero_add]
  rcases (by omega : i = 0 ∨ i = 1 ∨ i = 2 ∨ i = 3 ∨ i = 4 ∨ i = 5 ∨ i = 6) with rfl | rfl | rfl | rfl | rfl | rfl | rfl <;> rfl
 rw [← hLo]
 obtain ⟨L2, hL2⟩ : ∃ L2, L2 = stL s2 [] := ⟨_, rfl⟩
 rw [← hL2]
 have hLo0 : (Lo.map CV.v)[0]? = some (.v (.bool nn)) := by rw [hLo]; show some (CV.v (.bool (runM M s 1).leaves)) = _; rw [hrun]
 have hLo1 : ∀ S, onesL S (Lo.map CV.v) = true := fun S => hLo ▸ onesL_out S _
 have hO24 : O[0 + 24 + 0]? = some (.v (intV kk)) := by rw [hO]; rfl
 conv => whnf
 erw [beq_len hLol]
 conv => whnf
 erw [hLo1]
 conv => whnf
 erw [hLol]
 conv => whnf
 refine satq_vcN ?_
 conv => whnf
 (repeat ((first | apply k1 | apply k2 | apply k3 | apply k4 | refine k5 (by decide) ?_ | refine k6 (by decide) ?_); conv => whnf))
 erw [setAll_same (m := Lo.map CV.v) (by rw [hLol]; rfl)]
 erw [hLo0]
 conv => whnf
 (repeat ((first | apply k1 | apply k2 | apply k3 | apply k4 | refine k5 (by decide) ?_ | refine k6 (by decide) ?_); conv => whnf))
 erw [hO24]
 conv => whnf
 (repeat ((first | apply k1 | apply k2 | apply k3 | apply k4 | refine k5 (by decide) ?_ | refine k6 (by decide) ?_); conv => whnf))
 refine q_eql_bool nn (kk != 0) rfl rfl rfl rfl ?_
 rw [show (nn == (kk != 0)) = true by rw [← hkk]; exact beq_self_eq_true _]
 conv => whnf
 (repeat ((first | apply k1 | apply k2 | apply k3 | apply k4 | refine k5 (by decide) ?_ | refine k6 (by decide) ?_); conv => whnf))
 refine atq_ret ?_
 conv => whnf
 exact fin_grown rfl fun w4 hG => ⟨rfl, below_grown hB hn2 hG⟩
end Go.Proofs.YtnhdcclpjildjaaGreat
namespace Go.Proofs.YtnhdcclpjildjaaGreat
open Go.ChangeShapes Go.WideShapes Go.ChangeAt Go.RowKit

set_option maxRecDepth 100000 in
theorem qliftMemory_lifted (os : Os) (started : os.Started) (H : Type) (enc : TypeId × Value → H) :
  ReturnsInHanded {} Tryz.checked os 8 .any (Rows.qliftMemorySpec.pre6 enc Tryz.prog Tryz.f8 Rows.qliftMemoryRow.domain false) (Rows.qliftMemorySpec.post enc Tryz.prog Tryz.f8 false true false false) := by
 refine returnsInHanded_of_change (C := Tryz.checked) ownK started (by kernel_rfl) Tryz.func8
  (ChangeSpec.witness6 (enc := enc) (C := Tryz.checked) false ⟨#[], #[.agg #[.int .i64 0, .int .i64 0, .int .i64 0, .int .i64 0, .int .i64 0], .int .u32 0, .int .u32 0], []⟩ 8 (by kernel_rfl) (by kernel_rfl) (by kernel_rfl) (by kernel_rfl)) ?_
 intro W base args ds gs before hval0 hW hcnd _
 have hval : ∀ (j : Nat) t v, Tryz.f8.params[j]? = some t → args[j]? = some v → Value.okWide Tryz.prog W .any base t v := hval0
 have hW' := hW
 obtain ⟨p, q, hA0, hV, rfl, hfz, hnd⟩ := hW
 have hA : DataW.TrodAll enc Tryz.prog W 0 (fun _ => true) true Tryz.f8.params.toList args.toList ds p := hA0
 rw [Tryz.params8] at hA hval
 obtain ⟨v0, vs0, d0, ds0, p0, q0, hargs, rfl, rfl, h0, r0⟩ := trodAll_cons hA
 obtain ⟨v1, vs1, d1, ds1, p1, q1, rfl, rfl, rfl, h1, r1⟩ := trodAll_cons r0
 obtain ⟨v2, vs2, d2, ds2, p2, q2, rfl, rfl, rfl, h2, r2⟩ := trodAll_cons r1
 obtain ⟨rfl, rfl, rfl⟩ := trodAll_nil r2
 obtain rfl : args = #[v0, v1, v2] := by cases args; simp_all
 obtain ⟨rfl, rfl⟩ := trodVars_none hV
 clear hA0
 obtain ⟨y00, y01, y02, y03, y04, rfl, _⟩ := open_five (hval 0 58 v0 rfl rfl) h0
 obtain ⟨x1, rfl⟩ := okWide_int Tryz.underlying35 (hval 1 35 v1 rfl rfl)
 have hx1 := open_word h1
 obtain ⟨x2, rfl⟩ := okWide_int Tryz.underlying35 (hval 2 35 v2 rfl rfl)
 have hx2 := open_word h2
 have k0 := h0
 have k1 := h1
 have k2 := h2
 have lt0 : ∀ x ∈ p0, x.block < W.heap.size := by obtain ⟨m, hm⟩ := k0; exact DataW.trod_lt m _ _ _ hm
 have lt1 : ∀ x ∈ p1, x.block < W.heap.size := by obtain ⟨m, hm⟩ := k1; exact DataW.trod_lt m _ _ _ hm
 have lt2 : ∀ x ∈ p2, x.block < W.heap.size := by obtain ⟨m, hm⟩ := k2; exact DataW.trod_lt m _ _ _ hm
 clear hval0
 refine (memory_law y00 y01 y02 y03 y04 x1 x2 hx1 hx2 W).mono fun e W' ⟨he, bel⟩ => ?_
 subst he
 exact ⟨_, rfl, _, _, _, [], _, [], hW', trodAll_mk1 (shut_bool Tryz.underlying4 _), (trodAll_cons_mk (Below.trod laidOutP (by kernel_rfl) (of_decide_eq_true (by kernel_rfl)) k0 bel lt0) (trodAll_cons_mk (Below.trod laidOutP (by kernel_rfl) (of_decide_eq_true (by kernel_rfl)) k1 bel lt1) (trodAll_cons_mk (Below.trod laidOutP (by kernel_rfl) (of_decide_eq_true (by kernel_rfl)) k2 bel lt2) trodAll_mk0))), rfl, bel.frame _, fun h => by cases h⟩
theorem qliftMemory_holds : Rows.QliftMemorySaid :=
 OpenClaim.holds_of_wide 8 Tryz.f8 rfl rfl rfl rfl rfl rfl rfl ⟨rfl, rfl, rfl, rfl, rfl⟩ rfl rfl rfl rfl rfl (by kernel_rfl) Tryz.func8 (by kernel_rfl)
  (of_decide_eq_true (by kernel_rfl)) (by unfold Func.isWrapper; first | (rw [if_pos (by decide +kernel)]; kernel_rfl) | (rw [if_neg (by decide +kernel)]; exact ⟨rfl, rfl⟩))
  (fun os started H enc _ => qliftMemory_lifted os started H enc)
end Go.Proofs.YtnhdcclpjildjaaGreat
#print axioms Go.Proofs.YtnhdcclpjildjaaGreat.qliftMemory_holds
