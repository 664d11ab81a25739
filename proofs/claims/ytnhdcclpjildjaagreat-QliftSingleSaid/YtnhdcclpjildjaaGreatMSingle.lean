/- For all instructions and registers, a lifted block of one instruction does what the plain machine does: for every input, without any condition. -/
import Derived.Test.YtnhdcclpjildjaaGreatJ19
import Derived.Test.YtnhdcclpjildjaaGreatMSingleG
namespace Go.Proofs.YtnhdcclpjildjaaGreat
open Go.ChangeShapes Go.WideShapes Go.ChangeAt Go.RowKit

set_option maxRecDepth 100000 in
theorem open_five {H : Type} {enc : TypeId × Value → H} {W : World} {r : Reach} {b0 : Nat} {v : Value} {d : DataW H} {p : List MemPlace} (hv : Value.okWide Tryz.prog W r b0 58 v) (h : DataW.Trod enc Tryz.prog W 0 (fun _ => true) true 58 v d p) :
    ∃ a b c e f : Int, v = .agg #[intV a, intV b, intV c, intV e, intV f] ∧ ((-9223372036854775808 ≤ a ∧ a < 9223372036854775808) ∧ (-9223372036854775808 ≤ b ∧ b < 9223372036854775808) ∧ (-9223372036854775808 ≤ c ∧ c < 9223372036854775808) ∧ (-9223372036854775808 ≤ e ∧ e < 9223372036854775808) ∧ (-9223372036854775808 ≤ f ∧ f < 9223372036854775808)) := by
  simp only [Value.okWide, Tryz.underlying58] at hv
  obtain ⟨cs, rfl, hsz, _⟩ := hv
  obtain ⟨fuel, hf⟩ := h
  obtain ⟨zs, e, l, w⟩ := open_ints_arr (k := .i64) Tryz.underlying58 Tryz.underlying3 (by kernel_rfl) (by kernel_rfl) hf
  have e : cs.toList = zs.map (Value.int .i64) := e
  match zs, l with
  | [z0, z1, z2, z3, z4], _ =>
    refine ⟨z0, z1, z2, z3, z4, ?_, int_wf (w _ (by simp)), int_wf (w _ (by simp)), int_wf (w _ (by simp)), int_wf (w _ (by simp)), int_wf (w _ (by simp))⟩
    show Value.agg cs = Value.agg ([z0, z1, z2, z3, z4].map (Value.int .i64)).toArray
    rw [← e]
set_option maxRecDepth 100000 in
theorem open_w2 {H : Type} {enc : TypeId × Value → H} {W : World} {r : Reach} {b0 : Nat} {v : Value} {d : DataW H} {p : List MemPlace} (hv : Value.okWide Tryz.prog W r b0 59 v) (h : DataW.Trod enc Tryz.prog W 0 (fun _ => true) true 59 v d p) :
    ∃ a b : Int, v = .agg #[.int .u32 a, .int .u32 b] ∧ word a ∧ word b := by
  simp only [Value.okWide, Tryz.underlying59] at hv
  obtain ⟨cs, rfl, hsz, _⟩ := hv
  obtain ⟨fuel, hf⟩ := h
  obtain ⟨zs, e, l, w⟩ := open_ints_arr (k := .u32) Tryz.underlying59 Tryz.underlying35 (by kernel_rfl) (by kernel_rfl) hf
  have e : cs.toList = zs.map (Value.int .u32) := e
  match zs, l with
  | [z0, z1], _ =>
    refine ⟨z0, z1, ?_, word_wf (w _ (by simp)), word_wf (w _ (by simp))⟩
    show Value.agg cs = Value.agg ([z0, z1].map (Value.int .u32)).toArray
    rw [← e]
end Go.Proofs.YtnhdcclpjildjaaGreat
namespace Go.Proofs.YtnhdcclpjildjaaGreat
open Go.RowKit

def limI (i : Nat) : QI := ⟨1, 1 + (i : Int) % 15, 1, 2, 0⟩
def limW (i : Nat) : Int := wordQ (limI i)
structure LimS (M : MemP) (j : Nat) : Prop where
  ok : M.ok 768 3
  code : ∀ i, i < j → ∀ b, b < 4 → M.data[4 * i + b]? = some (byteAt (limW i) b)
  rest : ∀ x, 4 * j ≤ x → x < 768 → M.data[x]? = some 0
structure SynS (D : List Int) (M : MemP) (q : Nat) : Prop where
  ok : M.ok 768 3
  data : M.data = D
  img : ∀ x, x < 256 * q → M.image[x]? = D[x]?
  rights : ∀ y, y < q → M.rights[y]? = some 5
end Go.Proofs.YtnhdcclpjildjaaGreat
namespace Go.Proofs.YtnhdcclpjildjaaGreat
open Go.RowKit

def sinL (j : Nat) : Int := [0, 7, 1, 3, 2, 0].getD j 0
def sinP (M : MemP) : Nat → MemP
  | 0 => M
  | j + 1 => (sinP M j).protect j (sinL j)
def sinX (i : QI) : Int := (encQ i).getD 0
theorem sinX_word {i : QI} (hi : word i.imm) : word (sinX i) := by
  unfold sinX encQ
  split
  · next h => exact (decQ_word h hi).2
  · exact word0
def sinM0 (i : QI) : MemP := ((MemP.zero 6).pokeAt 256 (putL (sinX i)) (putL (sinX i)).length).syncM 256
def sinM (i : QI) : MemP := sinP (sinM0 i) 6
def sinW (a b j : Int) : Int := if j % 2 = 0 then a else b
def sinR (a b : Int) : Int → Int := fun j => if j = 0 then 0 else (sinW a b j + j / 2) % 4294967296
def sinS (a b : Int) : St := ⟨256, sinR a b, 0, 0, 0, 0, 0, 0, 0⟩
theorem sin_ok {a b : Int} : (sinS a b).ok := by
  refine ⟨(show word 256 by unfold word; decide), fun j h0 h1 => ?_, rfl, rfl, (show (0 : Int) ≤ 0 ∧ (0 : Int) < 1099511627776 by decide)⟩
  show word (sinR a b j)
  unfold sinR
  split
  · exact word0
  · unfold word; omega
theorem sinL_ok (j : Nat) : 0 ≤ sinL j ∧ sinL j < 8 := by
  unfold sinL
  match j with
  | 0 => decide
  | 1 => decide
  | 2 => decide
  | 3 => decide
  | 4 => decide
  | 5 => decide
  | n + 6 => exact ⟨by show (0 : Int) ≤ 0; decide, by show (0 : Int) < 8; decide⟩
theorem sinP_ok {M : MemP} (hM : M.ok 1536 6) : ∀ j, (sinP M j).ok 1536 6
  | 0 => hM
  | j + 1 => protect_ok (sinP_ok hM j) j (sinL_ok j)
theorem zero_ok6 : (MemP.zero 6).ok 1536 6 := mem_zero_ok (p := 6) (by omega)
theorem sinM0_ok {i : QI} : (sinM0 i).ok 1536 6 := syncM_ok (pokeAt_ok zero_ok6 _ (putTo_bytes _ _) _ (Nat.le_refl _)) _
theorem sinM_ok {i : QI} : (sinM i).ok 1536 6 := sinP_ok sinM0_ok 6
theorem cpu_setR {s : St} {X : List CV} {j : Int} (x : Int) (hX : X = stC s [] ++ [.ref 1 0]) (h0 : 0 ≤ j) (h1 : j < 16) : setAll X (0 + 1 + j.toNat * 1) [.v (u32V x)] = stC { s with R := regU s.R j x } [] ++ [.ref 1 0] := by
  rw [hX]
  rcases (by omega : j = 0 ∨ j = 1 ∨ j = 2 ∨ j = 3 ∨ j = 4 ∨ j = 5 ∨ j = 6 ∨ j = 7 ∨ j = 8 ∨ j = 9 ∨ j = 10 ∨ j = 11 ∨ j = 12 ∨ j = 13 ∨ j = 14 ∨ j = 15) with rfl | rfl | rfl | rfl | rfl | rfl | rfl | rfl | rfl | rfl | rfl | rfl | rfl | rfl | rfl | rfl <;> rfl
theorem two_at (a b : Int) {j : Int} (_h : 0 ≤ j) : [CV.v (u32V a), .v (u32V b)][0 + (j % 2).toNat * 1]? = some (.v (u32V (sinW a b j))) := by
  unfold sinW
  rcases (by omega : j % 2 = 0 ∨ j % 2 = 1) with h | h <;> rw [h] <;> rfl
abbrev w2T : TypeId := 59
abbrev sinC : List CV := [.v (intV 0), .v (intV 7), .v (intV 1), .v (intV 3), .v (intV 2), .v (intV 0)]
theorem six_at {q : Nat} (h : q < 6) : sinC[0 + (q : Int).toNat * 1]? = some (.v (intV (sinL q))) := by
  rcases (by omega : q = 0 ∨ q = 1 ∨ q = 2 ∨ q = 3 ∨ q = 4 ∨ q = 5) with rfl | rfl | rfl | rfl | rfl | rfl <;> rfl
abbrev sinU (a b : Int) (us : List Value) (M : MemP) : List Ow := cpuU 0 us 1536 6 M ++ ([.cells w2T [.v (u32V a), .v (u32V b)]] : List Ow)
theorem cpu_grpW (us : List Value) (M : MemP) (a b : Int) : sbnd 8 (sinU a b us M) = true := by
  have h : bndL 8 (us.map .v ++ [.ref 1 0]) = true := by
    induction us with
    | nil => rfl
    | cons u us ih => simpa only [List.map_cons, List.cons_append, bndL, CV.bnd] using ih
  show sbnd 8 [_, _, _, _, _, _, _, _] = true
  simp only [sbnd, Ow.bnd, bndL_vals, bndL, CV.bnd, h]
  rfl
set_option maxRecDepth 100000 in
set_option maxHeartbeats 8000000 in
theorem single_walk (i : QI) (hop : 0 ≤ i.op ∧ i.op < 64) (hi : word i.imm) (a b : Int) (_ha : word a) (_hb : word b) (w : World) :
    Calls Tryz.prog 21 #[qiV i, .agg #[u32V a, u32V b]] w fun e w' => ∃ g gs, e = .returned (ptrV g) ∧ NewObjs w w' (g :: gs) (cpuU 0 (stL (sinS a b) []) 1536 6 (sinM i)) := by
  refine calls_satq [qiV i, .agg #[u32V a, u32V b]] Tryz.func21 Tryz.ntmps21 rfl (by simp) ?_
  refine satq_seqN ?_
  conv => whnf
  refine satq_seqN ?_
  conv => whnf
  refine call_newObjs (xs := [intV ((6 : Nat) : Int)]) (cpuU 0 stZ 1536 6 (MemP.zero 6)) (cpuU 2 stZ 1536 6 (MemP.zero 6)) rfl (by kernel_rfl) (cpuU_sh 2 stZ 1536 6 _) (cpuU_ob stZ 1536 6 _) (fun r w hR => cpu_new 6 w (by omega)) ?_
  conv => whnf
  refine satq_seqN ?_
  conv => whnf
  obtain ⟨x, hx⟩ : ∃ x, x = sinX i := ⟨_, rfl⟩
  have hxw : word x := hx ▸ sinX_word hi
  have hxe : encV (encQ i) = .tuple #[u32V x, intV (if (encQ i).isSome then 0 else 12)] := by rw [hx]; rfl
  refine call_con (x := .tuple #[u32V x, intV (if (encQ i).isSome then 0 else 12)]) rfl (by kernel_rfl) (fun r w' hR => hxe ▸ encode_ref i w' hop hi) ?_
  conv => whnf
  obtain ⟨M0, hM0⟩ : ∃ M0, M0 = MemP.zero 6 := ⟨_, rfl⟩
  obtain ⟨M1, hM1⟩ : ∃ M1, M1 = M0.pokeAt 256 (putL x) (putL x).length := ⟨_, rfl⟩
  obtain ⟨M2, hM2⟩ : ∃ M2, M2 = M1.syncM 256 := ⟨_, rfl⟩
  have hk0 : M0.ok 1536 6 := hM0 ▸ zero_ok6
  have hk1 : M1.ok 1536 6 := by rw [hM1]; exact pokeAt_ok hk0 _ (putTo_bytes _ _) _ (Nat.le_refl _)
  have hk2 : M2.ok 1536 6 := by rw [hM2]; exact syncM_ok hk1 _
  have hend : sinM i = sinP M2 6 := by rw [hM2, hM1, hM0, hx]; rfl
  rw [← hM0]
  refine satq_as (f' := [(3, .p (.c (.ref 7 0))), (5, .p (.c (.ref 0 0))), (6, one (u32V x))]) (S' := sinU a b stZ M0) (ent_ren [2, 3, 4, 5, 6, 7, 8, 1] (aI rfl (aI rfl (aI rfl trivial))) ?_ rfl (cpu_grpW stZ M0 a b) rfl rfl rfl) ?_
  · exact (aI ((Exists.intro _ (aI rfl (aI rfl (Or.inl rfl))))) (aI ((Exists.intro _ (aI rfl (aI rfl (Or.inl rfl))))) (aI ((Exists.intro _ (aI rfl (aI rfl (Or.inl (renL_vals _ _).symm))))) (aI ((Exists.intro _ (aI rfl (aI rfl (Or.inl (renL_vals _ _).symm))))) (aI ((Exists.intro _ (aI rfl (aI rfl (Or.inl (renL_vals _ _).symm))))) (aI ((Exists.intro _ (aI rfl (aI rfl (Or.inl (renL_vals _ _).symm))))) (aI ((Exists.intro _ (aI rfl (aI rfl (Or.inl (renL_vals _ _).symm))))) (aI ((Exists.intro _ (aI rfl (aI rfl (Or.inl rfl))))) trivial))))))))
  have hm0 := cpu_mem stZ 1536 6 M0 [.cells w2T [.v (u32V a), .v (u32V b)]]
  refine satq_mid (α := Unit) (fun _ => [(3, .p (.c (.ref 7 0))), (5, .p (.c (.ref 0 0)))]) (fun _ => sinU a b stZ M1) ?_ fun _ => ?_
  · refine satq_vcN ?_
    conv => whnf
    refine sat_anyG (.q 0 (.q 1 (.q 2 (.q 4 (.alt 3 (.alt 5 (.alt 6 .done .no) .no) (.alt 5 (.alt 3 (.alt 6 .done .no) .no) .no)))))) mixed (by kernel_rfl) (by kernel_rfl) ?_
    conv => whnf
    repeat' (first
      | exact atq_mid () (ent_same rfl (aI rfl (aI rfl trivial)) (aI (aI rfl (Or.inl rfl)) (aI (aI rfl (Or.inl rfl)) (aI (aI rfl (Or.inl rfl)) (aI (aI rfl (Or.inl rfl)) (aI (aI rfl (Or.inl rfl)) (aI (aI rfl (Or.inl rfl)) (aI (aI rfl (Or.inl rfl)) (aI (aI rfl (Or.inl rfl)) trivial)))))))))
      | (refine call_con (x := strV (putL x)) rfl (by kernel_rfl) (fun r w' hR => put_walk x w' hxw) ?_; conv => whnf)
      | (refine call_memW (pre := []) (suf := [one (u32V 256), one (strV (putL x))]) 1 1536 6 M0 M1 (.tuple #[]) hm0 rfl rfl (by kernel_rfl) (fun w g gs hk hU => by rw [hM1]; exact mem_pokeAt M0 1536 6 _ _ w g gs hU hk0 (by unfold word; decide) (putTo_bytes _ _) (by unfold putL; rw [putTo_length]; omega) (by omega)) ?_; conv => whnf)
      | (refine ⟨?_, trivial⟩; conv => whnf)
      | (refine ⟨?_, ?_, trivial⟩ <;> conv => whnf))
  have hm1 := cpu_mem stZ 1536 6 M1 [.cells w2T [.v (u32V a), .v (u32V b)]]
  refine satq_seqN ?_
  conv => whnf
  refine call_memW (pre := []) (suf := [one (u32V 256)]) 1 1536 6 M1 M2 (.bool _) hm1 rfl rfl (by kernel_rfl) (fun w g gs hk hU => by rw [hM2]; exact mem_sync M1 1536 6 _ w g gs hU hk1 (by unfold word; decide)) ?_
  conv => whnf
  refine satq_seqN ?_
  conv => whnf
  refine satq_mid (α := { Q : MemP // Q = sinP M2 6 }) (fun _ => [(3, .p (.c (.ref 7 0))), (5, .p (.c (.ref 0 0)))]) (fun x => sinU a b stZ x.1) ?_ fun y => ?_
  · refine satq_seqN ?_
    conv => whnf
    refine satq_block ?_
    refine satq_loop (α := { x : Nat × MemP // x.1 ≤ 6 ∧ x.2 = sinP M2 x.1 }) (fun x => [(3, .p (.c (.ref 7 0))), (5, .p (.c (.ref 0 0))), (8, .p (.c (.ref 8 0))), (9, one (intV (x.1.1 : Int)))]) (fun x => sinU a b stZ x.1.2 ++ ([.cells 111 sinC] : List Ow)) (fun x => 6 - x.1.1)
      ⟨(0, M2), by omega, rfl⟩ (ent_same rfl (aI rfl (aI rfl (aI rfl (aI rfl trivial)))) (aI (aI rfl (Or.inl rfl)) (aI (aI rfl (Or.inl rfl)) (aI (aI rfl (Or.inl rfl)) (aI (aI rfl (Or.inl rfl)) (aI (aI rfl (Or.inl rfl)) (aI (aI rfl (Or.inl rfl)) (aI (aI rfl (Or.inl rfl)) (aI (aI rfl (Or.inl rfl)) (aI (aI rfl (Or.inl rfl)) trivial)))))))))) fun x => ?_
    obtain ⟨⟨q, Q⟩, hq, hQ⟩ := x
    dsimp only at hq hQ ⊢
    have hQk : Q.ok 1536 6 := hQ ▸ sinP_ok hk2 q
    have hmq := cpu_mem stZ 1536 6 Q ([.cells w2T [.v (u32V a), .v (u32V b)], .cells 111 sinC])
    refine satq_seqN ?_
    conv => whnf
    refine ⟨fun hc => ?_, fun hc => ?_⟩
    · have hlt : q < 6 := by simp at hc; omega
      conv => whnf
      refine satq_in (satq_block ?_)
      refine satq_vcN ?_
      conv => whnf
      refine sat_tail 8 mixed (by kernel_rfl) ?_
      conv => whnf
      (refine ⟨⟨by omega, by omega⟩, ?_⟩; (conv=>whnf))
      erw [six_at hlt]
      conv => whnf
      refine call_memW (pre := []) (suf := [one (intV (q : Int)), one (intV (sinL q))]) 1 1536 6 Q (Q.protect q (sinL q)) (.tuple #[]) hmq rfl rfl (by kernel_rfl) (fun w g gs hk hU => mem_protect Q 1536 6 q (sinL q) w g gs hU hQk hlt (by omega) (sinL_ok q)) ?_
      conv => whnf
      refine atq_block (atq_on ?_)
      refine satq_vcN ?_
      conv => whnf
      refine ⟨(q : Int) + 1, wr64 (by omega), ?_⟩
      conv => whnf
      exact atq_next ⟨(q + 1, Q.protect q (sinL q)), by show q + 1 ≤ 6; omega, by show _ = sinP M2 (q + 1); rw [hQ]; rfl⟩ (ent_same rfl (aI rfl (aI rfl (aI rfl (aI rfl trivial)))) (aI (aI rfl (Or.inl rfl)) (aI (aI rfl (Or.inl rfl)) (aI (aI rfl (Or.inl rfl)) (aI (aI rfl (Or.inl rfl)) (aI (aI rfl (Or.inl rfl)) (aI (aI rfl (Or.inl rfl)) (aI (aI rfl (Or.inl rfl)) (aI (aI rfl (Or.inl rfl)) (aI (aI rfl (Or.inl rfl)) trivial)))))))))) (by show 6 - (q + 1) < 6 - q; omega)
    · have he : q = 6 := by simp at hc; omega
      subst he
      conv => whnf
      exact atq_out (atq_exit (atq_mid ⟨Q, hQ⟩ (ent_drop (aI rfl (aI rfl trivial)) (aI (aI rfl (Or.inl rfl)) (aI (aI rfl (Or.inl rfl)) (aI (aI rfl (Or.inl rfl)) (aI (aI rfl (Or.inl rfl)) (aI (aI rfl (Or.inl rfl)) (aI (aI rfl (Or.inl rfl)) (aI (aI rfl (Or.inl rfl)) (aI (aI rfl (Or.inl rfl)) trivial)))))))) rfl (cpu_grpW stZ Q a b))))
  obtain ⟨Q, hQ⟩ := y
  dsimp only
  have hQk : Q.ok 1536 6 := hQ ▸ sinP_ok hk2 6
  refine satq_mid (α := Unit) (fun _ => [(3, .p (.c (.ref 7 0))), (5, .p (.c (.ref 0 0)))]) (fun _ => sinU a b (u32V 256 :: stZ.tail) Q) ?_ fun _ => ?_
  · refine satq_vcN ?_
    conv => whnf
    exact atq_mid () (ent_same rfl (aI rfl (aI rfl trivial)) (aI (aI rfl (Or.inl rfl)) (aI (aI rfl (Or.inl rfl)) (aI (aI rfl (Or.inl rfl)) (aI (aI rfl (Or.inl rfl)) (aI (aI rfl (Or.inl rfl)) (aI (aI rfl (Or.inl rfl)) (aI (aI rfl (Or.inl rfl)) (aI (aI rfl (Or.inl rfl)) trivial)))))))))
  refine satq_mid (α := { x : (Int → Int) × List CV // (∀ j, 0 ≤ j → j < 16 → x.1 j = sinR a b j) ∧ x.2 = stC { sinS a b with R := x.1 } [] ++ [.ref 1 0] }) (fun _ => [(5, .p (.c (.ref 0 0)))]) (fun x => .cells cpuT x.1.2 :: memS 1 1536 6 Q) ?_ fun y => ?_
  · refine satq_seqN ?_
    conv => whnf
    refine satq_block ?_
    refine satq_loop (α := { x : Nat × (Int → Int) × List CV // 1 ≤ x.1 ∧ x.1 ≤ 16 ∧ (∀ j, 0 ≤ j → j < (x.1 : Int) → x.2.1 j = sinR a b j) ∧ x.2.2 = stC { sinS a b with R := x.2.1 } [] ++ [.ref 1 0] }) (fun x => [(3, .p (.c (.ref 7 0))), (5, .p (.c (.ref 0 0))), (10, one (intV (x.1.1 : Int)))]) (fun x => .cells cpuT x.1.2.2 :: (memS 1 1536 6 Q ++ ([.cells w2T [.v (u32V a), .v (u32V b)]] : List Ow))) (fun x => 16 - x.1.1)
      ⟨(1, fun _ => 0, stC { sinS a b with R := fun _ => 0 } [] ++ [.ref 1 0]), by omega, by omega, fun j h0 h1 => by
        have h1 : j < ((1 : Nat) : Int) := h1
        obtain rfl : j = 0 := by omega
        rfl, rfl⟩ (ent_same rfl (aI rfl (aI rfl (aI rfl trivial))) (aI (aI rfl (Or.inl rfl)) (aI (aI rfl (Or.inl rfl)) (aI (aI rfl (Or.inl rfl)) (aI (aI rfl (Or.inl rfl)) (aI (aI rfl (Or.inl rfl)) (aI (aI rfl (Or.inl rfl)) (aI (aI rfl (Or.inl rfl)) (aI (aI rfl (Or.inl rfl)) trivial))))))))) fun x => ?_
    obtain ⟨⟨j, R, X⟩, hj1, hj, hR, hX⟩ := x
    dsimp only at hj1 hj hR hX ⊢
    have hXl : X.length = 25 := by rw [hX]; rfl
    refine satq_seqN ?_
    conv => whnf
    refine ⟨fun hc => ?_, fun hc => ?_⟩
    · have hlt : j < 16 := by simp at hc; omega
      conv => whnf
      refine satq_in (satq_block ?_)
      refine satq_vcN ?_
      conv => whnf
      refine sat_tail 14 mixed (by kernel_rfl) ?_
      conv => whnf
      refine ⟨by decide, (j : Int) % 2, Int.tmod_eq_emod_of_nonneg (by omega), ?_⟩
      conv => whnf
      (refine ⟨⟨by omega, by omega⟩, ?_⟩; (conv=>whnf))
      erw [two_at a b (j := (j : Int)) (by omega)]
      conv => whnf
      refine ⟨by decide, (j : Int) / 2, by rw [Int.tdiv_eq_ediv_of_nonneg (by omega)]; exact wr64 (by omega), ?_⟩
      conv => whnf
      refine ⟨(j : Int) / 2, by rw [wr32]; omega, ?_⟩
      conv => whnf
      refine ⟨(sinW a b (j : Int) + (j : Int) / 2) % 4294967296, by rw [wr32], ?_⟩
      conv => whnf
      (refine ⟨⟨by omega, by omega⟩, ?_⟩; (conv=>whnf))
      erw [len_ble X hXl (m := 0 + 1 + (j : Int).toNat * 1 + 1) (by omega)]
      conv => whnf
      erw [len_big X hXl (by omega)]
      conv => whnf
      refine atq_block (atq_on ?_)
      refine satq_vcN ?_
      conv => whnf
      refine ⟨(j : Int) + 1, wr64 (by omega), ?_⟩
      conv => whnf
      exact atq_next ⟨(j + 1, regU R (j : Int) ((sinW a b (j : Int) + (j : Int) / 2) % 4294967296), _), by show 1 ≤ j + 1; omega, by show j + 1 ≤ 16; omega, fun i i0 i1 => by
        have i1 : i < ((j + 1 : Nat) : Int) := i1
        show (if i = (j : Int) then (sinW a b (j : Int) + (j : Int) / 2) % 4294967296 else R i) = sinR a b i
        by_cases he : i = (j : Int)
        · rw [if_pos he, he]; unfold sinR; rw [if_neg (by omega)]
        · rw [if_neg he]; exact hR i i0 (by omega), cpu_setR _ hX (by omega) (by omega)⟩ (ent_same rfl (aI rfl (aI rfl (aI rfl trivial))) (aI (aI rfl (Or.inl rfl)) (aI (aI rfl (Or.inl rfl)) (aI (aI rfl (Or.inl rfl)) (aI (aI rfl (Or.inl rfl)) (aI (aI rfl (Or.inl rfl)) (aI (aI rfl (Or.inl rfl)) (aI (aI rfl (Or.inl rfl)) (aI (aI rfl (Or.inl rfl)) trivial))))))))) (by show 16 - (j + 1) < 16 - j; omega)
    · have he : j = 16 := by simp at hc; omega
      subst he
      conv => whnf
      exact atq_out (atq_exit (atq_mid ⟨(R, X), hR, hX⟩ (ent_drop (aI rfl trivial) (aI (aI rfl (Or.inl rfl)) (aI (aI rfl (Or.inl rfl)) (aI (aI rfl (Or.inl rfl)) (aI (aI rfl (Or.inl rfl)) (aI (aI rfl (Or.inl rfl)) (aI (aI rfl (Or.inl rfl)) (aI (aI rfl (Or.inl rfl)) trivial))))))) rfl (by show grpOk Gs.nil (.cells cpuT X :: memS 1 1536 6 Q) = true; rw [hX]; exact cpu_grp _ 1536 6 Q))))
  obtain ⟨⟨R, X⟩, hR, hX⟩ := y
  dsimp only at hR hX ⊢
  have hXe : X = (stL (sinS a b) []).map .v ++ [.ref 1 0] := by
    rw [hX, stC_congr (s := sinS a b) hR]; rfl
  rw [hXe, hQ, ← hend]
  refine satq_vcN ?_
  conv => whnf
  refine atq_ret ?_
  conv => whnf
  exact fin_newObjs 0 (cpuU 0 (stL (sinS a b) []) 1536 6 (sinM i)) (cpuU 0 (stL (sinS a b) []) 1536 6 (sinM i)) (by simp) (fun i _ => by rw [Nat.zero_add]) (cpuU_sh 0 _ 1536 6 _) (cpuU_ob _ 1536 6 _) fun w' g gs h => ⟨g, gs, rfl, h⟩
end Go.Proofs.YtnhdcclpjildjaaGreat
namespace Go.Proofs.YtnhdcclpjildjaaGreat
open Go.RowKit

section
variable {w0 : World} {G : Gs} {S : List Ow} {K : AV → List Ow → Prop}
theorem call_agrees (k n p i1 i2 i3 : Nat) (s : St) (M : MemP) (most : Int) (b : Blk) (L : List Value) (hb : b = liftM M s.pc most) (hL : L = stL s []) (hS : ∀ i, i < 7 → S[k + i]? = (cpuU k L n p M)[i]?) (hs : s.ok) (hst : s.steps < 1000000) (hM : M.ok n p) (hp : 1 ≤ p)
    (h1 : S[i1]? = some (.row 35 1 b.at_.length (b.at_.map (.int .u32)))) (h2 : S[i2]? = some (.row 3 1 b.pages.length (b.pages.map (.int .i64)))) (h3 : S[i3]? = some (.row 45 5 b.ops.length (b.ops.flatMap opC))) (hn : (i1 < k ∨ k + 7 ≤ i1) ∧ (i2 < k ∨ k + 7 ≤ i2) ∧ (i3 < k ∨ k + 7 ≤ i3))
    (hK : ∀ s' M', s'.ok → s'.steps ≤ s.steps + 64 → M'.ok n p → K (.tup [.c (.v (.bool true)), .agg ((outL (outR (runM M s most))).map .v)]) (putS S k (cpuU k (stL s' []) n p M'))) : CallS Tryz.prog w0 G 20 [.p (.agg [.row i1, .row i2, .row i3]), .p (.c (.ref k 0))] S K := by
  subst hL; subst hb
  refine call_objsX (α := St × MemP) (pre := [.p (.agg [.row i1, .row i2, .row i3])]) (suf := []) k (cpuU 0 (stL s []) n p M) (cpuU k (stL s []) n p M) (fun x => cpuU 0 (stL x.1 []) n p x.2) (fun x => cpuU k (stL x.1 []) n p x.2) (fun _ => .tuple #[.bool true, outV (outR (runM M s most))]) (fun x => x.1.ok ∧ x.1.steps ≤ s.steps + 64 ∧ x.2.ok n p) (by simp) (cpuU_sh k _ n p M) (cpuU_ob _ n p M) hS (by kernel_rfl) (fun _ _ => cpuU_sh k _ n p _) (fun _ _ => cpuU_ob _ n p _) (fun _ _ => rfl)
    (fun r w g gs xs ys hR hd hd2 hgs hU => ?_) (fun x hx => hK x.1 x.2 hx.1 hx.2.1 hx.2.2)
  obtain ⟨u, l, rfl, d1, d2⟩ := hd
  obtain rfl : l = [] := d2
  obtain rfl : ys = [] := hd2
  obtain ⟨us, rfl, hl⟩ := den_agg d1
  simp only [denL, CV.den] at hl
  obtain ⟨u1, l1, rfl, k1, u2, l2, rfl, k2, u3, l3, rfl, k3, rfl⟩ := hl
  obtain ⟨A1, c1, e1, s1⟩ := row_old hR hgs h1 hn.1 k1
  obtain ⟨A2, c2, e2, s2⟩ := row_old hR hgs h2 hn.2.1 k2
  obtain ⟨A3, c3, e3, s3⟩ := row_old hR hgs h3 hn.2.2 k3
  subst e1; subst e2; subst e3
  exact (agrees_walk s hs M n p most A1 A2 A3 c1 c2 c3 w g gs hU hM hp hst s1 s2 s3).mono fun e w' h => by
    obtain ⟨s', M', e1, e2, e3, e4, e5, e6⟩ := h
    exact ⟨(s', M'), ⟨e2, e3, e4⟩, e1, e5, e6⟩
theorem call_single (i : QI) (hop : 0 ≤ i.op ∧ i.op < 64) (hi : word i.imm) (a b : Int) (ha : word a) (hb : word b) {args : List AV} (hx : avals args = some [qiV i, .agg #[u32V a, u32V b]])
    (hK : K (.p (.c (.ref S.length 0))) (S ++ cpuU S.length (stL (sinS a b) []) 1536 6 (sinM i))) : CallS Tryz.prog w0 G 21 args S K :=
  call_newObjs (cpuU 0 (stL (sinS a b) []) 1536 6 (sinM i)) (cpuU S.length (stL (sinS a b) []) 1536 6 (sinM i)) hx (by kernel_rfl) (cpuU_sh _ _ 1536 6 _) (cpuU_ob _ 1536 6 _) (fun r w hR => single_walk i hop hi a b ha hb w) hK
end
theorem hold {p : Prop} (h : p ∨ False) : p := h.elim id False.elim
set_option maxRecDepth 100000 in
set_option maxHeartbeats 8000000 in
theorem single_law (n0 n1 n2 n3 n4 a b : Int) (ha : word a) (hb : word b) (w : World) : Calls Tryz.prog 7 #[fiveV n0 n1 n2 n3 n4, .agg #[u32V a, u32V b]] w fun e w' => e = .returned (.bool true) ∧ Below w.heap.size w w' := by
  refine calls_satq [fiveV n0 n1 n2 n3 n4, .agg #[u32V a, u32V b]] Tryz.func7 Tryz.ntmps7 rfl (by simp) ?_
  refine satq_seqN ?_
  conv => whnf
  refine satq_seqN ?_
  conv => whnf
  refine call_con (x := .bool true) rfl (by kernel_rfl) (fun r w' hR => sanity14 w') ?_
  conv => whnf
  obtain ⟨q, hq⟩ : ∃ q, q = madeQ n0 n1 n2 n3 n4 := ⟨_, rfl⟩
  have hqo : q.ok := hq ▸ madeQ_ok n0 n1 n2 n3 n4
  refine satq_as (f' := [(2, .p (.c (.ref 0 0))), (3, .p (.c (.ref 1 0))), (5, one (.bool true))]) (S' := [.cells 58 [.v (intV n0), .v (intV n1), .v (intV n2), .v (intV n3), .v (intV n4)], .cells w2T [.v (u32V a), .v (u32V b)]]) (ent_same rfl (aI rfl (aI rfl (aI rfl trivial))) (aI (aI rfl (Or.inl rfl)) (aI (aI rfl (Or.inl rfl)) trivial))) ?_
  obtain ⟨M, hM⟩ : ∃ M, M = sinM q := ⟨_, rfl⟩
  refine satq_mid (α := Unit) (fun _ => [(5, one (.bool true)), (6, .p (.c (.ref 0 0)))]) (fun _ => cpuU 0 (stL (sinS a b) []) 1536 6 M) ?_ fun _ => ?_
  · refine satq_vcN ?_
    conv => whnf
    refine sat_anyG (.alt 0 (.alt 1 (.alt 2 (.alt 3 (.alt 4 .done .no) .no) .no) (.alt 2 (.alt 1 (.alt 3 (.alt 4 .done .no) .no) .no) .no)) (.alt 2 (.alt 0 (.alt 1 (.alt 3 (.alt 4 .done .no) .no) .no) .no) .no)) mixed (by kernel_rfl) (by kernel_rfl) ?_
    conv => whnf
    repeat' (first
      | refine atq_mid () (hold ?_)
      | (refine call_con (x := qiV q) rfl (by kernel_rfl) (fun r w' hR => by rw [hq]; exact made_ref03 n0 n1 n2 n3 n4 w') ?_; conv => whnf)
      | (refine call_single q hqo.op hqo.imm a b ha hb rfl ?_; rw [← hM]; conv => whnf)
      | (refine ⟨?_, trivial⟩; conv => whnf)
      | (refine ⟨?_, ?_, trivial⟩ <;> conv => whnf)
      | fail)
    all_goals refine Or.inl (ent_ren [2, 3, 4, 5, 6, 7, 8] (aI rfl (aI rfl trivial)) ?_ rfl (cpu_grp (stL (sinS a b) []) 1536 6 M) rfl rfl rfl)
    all_goals exact (aI ((Exists.intro _ (aI rfl (aI rfl (Or.inl rfl))))) (aI ((Exists.intro _ (aI rfl (aI rfl (Or.inl rfl))))) (aI ((Exists.intro _ (aI rfl (aI rfl (Or.inl (renL_vals _ _).symm))))) (aI ((Exists.intro _ (aI rfl (aI rfl (Or.inl (renL_vals _ _).symm))))) (aI ((Exists.intro _ (aI rfl (aI rfl (Or.inl (renL_vals _ _).symm))))) (aI ((Exists.intro _ (aI rfl (aI rfl (Or.inl (renL_vals _ _).symm))))) (aI ((Exists.intro _ (aI rfl (aI rfl (Or.inl (renL_vals _ _).symm))))) trivial)))))))
  have hMk : M.ok 1536 6 := hM ▸ sinM_ok
  have hsk : (sinS a b).ok := sin_ok
  obtain ⟨s, hs⟩ : ∃ s, s = sinS a b := ⟨_, rfl⟩
  have hpc : s.pc = 256 := by rw [hs]; rfl
  have hst : s.steps < 1000000 := by rw [hs]; show (0 : Int) < 1000000; decide
  rw [← hs] at hsk ⊢
  obtain ⟨L, hL⟩ : ∃ L, L = stL s [] := ⟨_, rfl⟩
  rw [← hL]
  have hmem : ∀ T : List Ow, ∀ i, i < 6 → (cpuU 0 L 1536 6 M ++ T)[1 + i]? = (memS 1 1536 6 M)[i]? := fun T => cpu_mem L 1536 6 M T
  obtain ⟨b1, hb1⟩ : ∃ b1, b1 = liftM M s.pc 1 := ⟨_, rfl⟩
  have hb2 := hb1
  rw [hpc] at hb2
  have hLl : L.length = 24 := by rw [hL]; rfl
  have hMat : ∀ X : List CV, (L.map CV.v ++ X)[24 + 0]? = X[0]? := fun X => cpu_at hLl X 0
  refine satq_seqN ?_
  conv => whnf
  erw [cpu_at hLl [.ref (0 + 1) 0] 0]
  conv => whnf
  refine call_lifted 1 1536 6 M 256 1 (fun i hi => by have := hmem [] i hi; rwa [List.append_nil] at this) hMk (by decide) (by unfold word; decide) ?_
  rw [← hb2]
  conv => whnf
  refine satq_seqN ?_
  conv => whnf
  (repeat ((first | refine ⟨fun _ => ?_, nT⟩ | refine ⟨fun _ => ?_, nF⟩ | refine ⟨nF, fun _ => ?_⟩ | refine ⟨nT, fun _ => ?_⟩ | refine ⟨fun _ => ?_, (fun h => absurd h (by decide))⟩ | refine ⟨(fun h => absurd h (by decide)), fun _ => ?_⟩); conv => whnf))
  obtain ⟨Lo, hLo⟩ : ∃ Lo, Lo = outL (outR (runM M s 1)) := ⟨_, rfl⟩
  have hLol : (Lo.map CV.v).length = 32 := by rw [hLo]; rfl
  refine satq_seqN ?_
  conv => whnf
  refine call_agrees 0 1536 6 7 8 9 s M 1 b1 L hb1 hL (fun i hi => ?_) hsk hst hMk (by omega) rfl rfl rfl (by omega) fun s' M' hs' hs'' hM' => ?_
  · rw [Nat.zero_add]
    rcases (by omega : i = 0 ∨ i = 1 ∨ i = 2 ∨ i = 3 ∨ i = 4 ∨ i = 5 ∨ i = 6) with rfl | rfl | rfl | rfl | rfl | rfl | rfl <;> rfl
  rw [← hLo]
  obtain ⟨L2, hL2⟩ : ∃ L2, L2 = stL s' [] := ⟨_, rfl⟩
  rw [← hL2]
  have hLo1 : ∀ S, onesL S (Lo.map CV.v) = true := fun S => hLo ▸ onesL_out S _
  conv => whnf
  erw [beq_len hLol]
  conv => whnf
  erw [hLo1]
  conv => whnf
  erw [hLol]
  conv => whnf
  refine satq_vcN ?_
  conv => whnf
  (repeat ((first | refine ⟨fun _ => ?_, nT⟩ | refine ⟨fun _ => ?_, nF⟩ | refine ⟨nF, fun _ => ?_⟩ | refine ⟨nT, fun _ => ?_⟩ | refine ⟨fun _ => ?_, (fun h => absurd h (by decide))⟩ | refine ⟨(fun h => absurd h (by decide)), fun _ => ?_⟩); conv => whnf))
  refine atq_ret ?_
  conv => whnf
  exact fin_val rfl fun w2 hB => ⟨rfl, hB⟩
end Go.Proofs.YtnhdcclpjildjaaGreat
namespace Go.Proofs.YtnhdcclpjildjaaGreat
open Go.ChangeShapes Go.WideShapes Go.ChangeAt Go.RowKit

set_option maxRecDepth 100000 in
theorem qliftSingle_lifted (os : Os) (started : os.Started) (H : Type) (enc : TypeId × Value → H) :
    ReturnsInHanded {} Tryz.checked os 7 .any (Rows.qliftSingleSpec.pre6 enc Tryz.prog Tryz.f7 Rows.qliftSingleRow.domain false) (Rows.qliftSingleSpec.post enc Tryz.prog Tryz.f7 false true false false) := by
  refine returnsInHanded_of_change (C := Tryz.checked) ownK started (by kernel_rfl) Tryz.func7
    (ChangeSpec.witness6 (enc := enc) (C := Tryz.checked) false ⟨#[], #[.agg #[.int .i64 0, .int .i64 0, .int .i64 0, .int .i64 0, .int .i64 0], .agg #[.int .u32 0, .int .u32 0]], []⟩ 8 (by kernel_rfl) (by kernel_rfl) (by kernel_rfl) (by kernel_rfl)) ?_
  intro W base args ds gs before hval0 hW hcnd _
  have hval : ∀ (j : Nat) t v, Tryz.f7.params[j]? = some t → args[j]? = some v → Value.okWide Tryz.prog W .any base t v := hval0
  have hW' := hW
  obtain ⟨p, q, hA0, hV, rfl, hfz, hnd⟩ := hW
  have hA : DataW.TrodAll enc Tryz.prog W 0 (fun _ => true) true Tryz.f7.params.toList args.toList ds p := hA0
  rw [Tryz.params7] at hA hval
  obtain ⟨v0, vs0, d0, ds0, p0, q0, hargs, rfl, rfl, h0, r0⟩ := trodAll_cons hA
  obtain ⟨v1, vs1, d1, ds1, p1, q1, rfl, rfl, rfl, h1, r1⟩ := trodAll_cons r0
  obtain ⟨rfl, rfl, rfl⟩ := trodAll_nil r1
  obtain rfl : args = #[v0, v1] := by cases args; simp_all
  obtain ⟨rfl, rfl⟩ := trodVars_none hV
  obtain ⟨n0, n1, n2, n3, n4, rfl, _⟩ := open_five (hval 0 58 v0 rfl rfl) h0
  obtain ⟨x0, x1, rfl, hx0, hx1⟩ := open_w2 (hval 1 59 v1 rfl rfl) h1
  have k0 := h0
  have k1 := h1
  have lt0 : ∀ x ∈ p0, x.block < W.heap.size := by obtain ⟨m, hm⟩ := k0; exact DataW.trod_lt m _ _ _ hm
  have lt1 : ∀ x ∈ p1, x.block < W.heap.size := by obtain ⟨m, hm⟩ := k1; exact DataW.trod_lt m _ _ _ hm
  clear hA0 hval0
  refine (single_law n0 n1 n2 n3 n4 x0 x1 hx0 hx1 W).mono fun e W' ⟨he, bel⟩ => ?_
  subst he
  exact ⟨_, rfl, _, _, _, [], _, [], hW', trodAll_mk1 (shut_bool Tryz.underlying4 _), (trodAll_cons_mk (Below.trod laidOutP (by kernel_rfl) (of_decide_eq_true (by kernel_rfl)) k0 bel lt0) (trodAll_cons_mk (Below.trod laidOutP (by kernel_rfl) (of_decide_eq_true (by kernel_rfl)) k1 bel lt1) trodAll_mk0)), rfl, bel.frame _, fun h => by cases h⟩
theorem qliftSingle_holds : Rows.QliftSingleSaid :=
  OpenClaim.holds_of_wide 7 Tryz.f7 rfl rfl rfl rfl rfl rfl rfl ⟨rfl, rfl, rfl, rfl, rfl⟩ rfl rfl rfl rfl rfl (by kernel_rfl) Tryz.func7 (by kernel_rfl)
    (of_decide_eq_true (by kernel_rfl)) (by unfold Func.isWrapper; first | (rw [if_pos (by decide +kernel)]; kernel_rfl) | (rw [if_neg (by decide +kernel)]; exact ⟨rfl, rfl⟩))
    (fun os started H enc _ => qliftSingle_lifted os started H enc)
end Go.Proofs.YtnhdcclpjildjaaGreat
#print axioms Go.Proofs.YtnhdcclpjildjaaGreat.qliftSingle_holds
