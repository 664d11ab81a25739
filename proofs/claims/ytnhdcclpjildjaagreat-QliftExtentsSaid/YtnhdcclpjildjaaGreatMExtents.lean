/- For all codes, addresses and limits, the lifted block has the instructions and the pages of the reference model: for every input, without any condition. -/
import Derived.Test.YtnhdcclpjildjaaGreatMExtentsF
namespace Go.Proofs.YtnhdcclpjildjaaGreat
open Go.RowKit

set_option maxRecDepth 100000 in
set_option maxHeartbeats 4000000 in
theorem put14_walk (A : Option Addr) (c : Nat) (l : List Int) (p : Int) (w : World) (hA : SlAt w w.heap.size A (l.map (.int .i64))) (hc : l.length ≤ c) (hc2 : c ≤ maxLen) (hl : l.length ≤ 100000) (hi : Inc l) :
  Calls Tryz.prog 43 #[.slice A l.length c, intV p] w fun e w' => ∃ A' c', e = .returned (.slice A' (putP l p).length c') ∧ SlAt w' w'.heap.size A' ((putP l p).map (.int .i64)) ∧ (putP l p).length ≤ c' ∧ c' ≤ maxLen ∧ ((A' = A ∧ l ≠ []) ∨ Fresh w.heap.size A') ∧ Below w.heap.size w w' := by
 have hput := putR_is (p := p) hi
 obtain ⟨tot, htot⟩ : ∃ tot, tot = putR p l [] false := ⟨_, rfl⟩
 rw [← htot] at hput
 refine calls_satq [.slice A l.length c, intV p] Tryz.func43 Tryz.ntmps43 rfl (by simp) ?_
 refine satq_seqN ?_
 conv => whnf
 refine satq_seqN ?_
 conv => whnf
 refine satq_seqN ?_
 conv => whnf
 refine satq_as (ent_row 5 3 1 rfl) ?_
 refine satq_mid (α := { x : List Int × Bool // x.1.length ≤ 2 * l.length ∧ putR p [] x.1 x.2 = tot }) (fun x => [(1, one (intV p)), (5, .p (.c (.row 0))), (6, one (.bool x.1.2))]) (fun x => [.row 3 1 x.1.1.length (x.1.1.map (.int .i64))]) ?_ fun x => ?_
 ·refine satq_seqN ?_
  conv => whnf
  refine satq_block ?_
  refine satq_loop (α := { x : Nat × List Int × Bool // x.1 ≤ l.length ∧ x.2.1.length ≤ 2 * x.1 ∧ putR p (l.drop x.1) x.2.1 x.2.2 = tot }) (fun x => [(0, one (.slice A l.length c)), (1, one (intV p)), (5, .p (.c (.row 0))), (6, one (.bool x.1.2.2)), (7, one (intV (x.1.1 : Int)))]) (fun x => [.row 3 1 x.1.2.1.length (x.1.2.1.map (.int .i64))]) (fun x => l.length - x.1.1)
   ⟨(0, [], false), by show 0 ≤ l.length; omega, by simp, by show putR p (l.drop 0) [] false = tot; rw [List.drop_zero, htot]⟩ (ent_same rfl (aI rfl (aI rfl (aI rfl (aI rfl (aI rfl trivial))))) (aI ((aI rfl (aI rfl (aI rfl rfl)))) trivial)) fun x => ?_
  obtain ⟨⟨j, out, dn⟩, hj, ho, he⟩ := x
  dsimp only at hj ho he ⊢
  refine satq_seqN ?_
  conv => whnf
  refine ⟨fun hj2 => ?_, fun hj2 => ?_⟩
  ·have hlt : j < l.length := by simpa using hj2
   obtain ⟨y, hy⟩ : ∃ y, l[j]? = some y := ⟨_, List.getElem?_eq_getElem hlt⟩
   obtain ⟨b0, off, hA2, hb0, hc0⟩ := hA j (intV y) (by rw [List.getElem?_map, hy]; rfl)
   have hdr : l.drop j = y :: l.drop (j + 1) := by
    rw [List.drop_eq_getElem_cons hlt]
    rw [List.getElem?_eq_getElem hlt] at hy
    injection hy with hy
    rw [hy]
   rw [hdr] at he
   unfold putR at he
   have hcell : ∀ o, o = off + j * 1 → CellsAt w Gs.nil b0 o [intV y] := fun o e => cells_one hb0 (by simp) (by rw [e, Nat.mul_one]; exact hc0)
   rw [hA2]
   conv => whnf
   refine satq_in (satq_block ?_)
   refine satq_seqN ?_
   conv => whnf
   (refine ⟨⟨by omega, by omega⟩, ?_⟩; (conv=>whnf))
   refine ⟨_, hcell _ (by show off + (j : Int).toNat * 1 = _; rw [Int.toNat_natCast]), ?_⟩
   conv => whnf
   by_cases hyp : y = p
   ·rw [if_pos hyp] at he
    rw [show (y == p) = true by simpa using hyp]
    (repeat ((first | apply k1 | apply k2 | apply k3 | apply k4 | refine k5 (by decide) ?_ | refine k6 (by decide) ?_); conv => whnf))
    refine atq_up (atq_ret ?_) (fun _ _ h => h)
    conv => whnf
    have hp : putP l p = l := by rw [← hput, ← he]; rfl
    rw [hp]
    exact fin_val rfl fun w' hB => ⟨_, c, rfl, hA2 ▸ sl_later hA hB, hc, hc2, Or.inl ⟨rfl, fun e => by rw [e] at hlt; simp at hlt⟩, hB⟩
   ·rw [if_neg hyp] at he
    rw [show (y == p) = false by simpa using hyp]
    (repeat ((first | apply k1 | apply k2 | apply k3 | apply k4 | refine k5 (by decide) ?_ | refine k6 (by decide) ?_); conv => whnf))
    refine satq_mid (α := { x : List Int × Bool // x.1.length ≤ 2 * j + 1 ∧ putR p (l.drop (j + 1)) (x.1 ++ [y]) x.2 = tot }) (fun x => [(0, one (.slice A l.length c)), (1, one (intV p)), (5, .p (.c (.row 0))), (6, one (.bool x.1.2)), (7, one (intV (j : Int)))]) (fun x => [.row 3 1 x.1.1.length (x.1.1.map (.int .i64))]) ?_ fun x => ?_
    ·refine satq_vcN ?_
     conv => whnf
     cases dn with
     | true =>
      (repeat ((first | apply k1 | apply k2 | apply k3 | apply k4 | refine k5 (by decide) ?_ | refine k6 (by decide) ?_); conv => whnf))
      exact atq_mid ⟨(out, true), by show out.length ≤ _; omega, by rw [if_neg (by simp)] at he; exact he⟩ (ent_same rfl (aI ((by rw [hA2]; rfl)) (aI rfl (aI rfl (aI rfl (aI rfl trivial))))) (aI ((aI rfl (aI rfl (aI rfl rfl)))) trivial))
     | false =>
      (repeat ((first | apply k1 | apply k2 | apply k3 | apply k4 | refine k5 (by decide) ?_ | refine k6 (by decide) ?_); conv => whnf))
      (refine ⟨⟨by omega, by omega⟩, ?_⟩; (conv=>whnf))
      (repeat ((first | apply k1 | apply k2 | apply k3 | apply k4 | refine k5 (by decide) ?_ | refine k6 (by decide) ?_); conv => whnf))
      refine ⟨_, hcell _ (by show off + (j : Int).toNat * 1 = _; rw [Int.toNat_natCast]), ?_⟩
      conv => whnf
      (repeat ((first | apply k1 | apply k2 | apply k3 | apply k4 | refine k5 (by decide) ?_ | refine k6 (by decide) ?_); conv => whnf))
      by_cases hpy : p < y
      ·rw [show decide (y > p) = true from decide_eq_true hpy]
       (repeat ((first | apply k1 | apply k2 | apply k3 | apply k4 | refine k5 (by decide) ?_ | refine k6 (by decide) ?_); conv => whnf))
       refine appK_sound rfl ?_ rfl
       conv => whnf
       refine ⟨by omega, ?_⟩
       conv => whnf
       exact atq_mid ⟨(out ++ [p], true), by simp; omega, by rw [if_pos ⟨rfl, hpy⟩] at he; show putR p (l.drop (j + 1)) (out ++ [p] ++ [y]) true = tot; rw [List.append_assoc]; exact he⟩ (ent_drop (aI ((by rw [hA2]; rfl)) (aI rfl (aI rfl (aI rfl (aI rfl trivial))))) (aI ((aI rfl (aI rfl (aI (by simp) (by simp))))) trivial) rfl rfl)
      ·rw [show decide (y > p) = false from decide_eq_false hpy]
       (repeat ((first | apply k1 | apply k2 | apply k3 | apply k4 | refine k5 (by decide) ?_ | refine k6 (by decide) ?_); conv => whnf))
       exact atq_mid ⟨(out, false), by show out.length ≤ _; omega, by rw [if_neg (fun h => hpy h.2)] at he; exact he⟩ (ent_same rfl (aI ((by rw [hA2]; rfl)) (aI rfl (aI rfl (aI rfl (aI rfl trivial))))) (aI ((aI rfl (aI rfl (aI rfl rfl)))) trivial))
    obtain ⟨⟨out2, dn2⟩, ho2, he2⟩ := x
    dsimp only at ho2 he2 ⊢
    rw [hA2]
    refine satq_vcN ?_
    conv => whnf
    (refine ⟨⟨by omega, by omega⟩, ?_⟩; (conv=>whnf))
    refine ⟨_, hcell _ (by show off + (j : Int).toNat * 1 = _; rw [Int.toNat_natCast]), ?_⟩
    conv => whnf
    refine appK_sound rfl ?_ rfl
    conv => whnf
    refine ⟨by omega, ?_⟩
    conv => whnf
    refine atq_block (atq_on ?_)
    refine satq_vcN ?_
    conv => whnf
    refine ⟨(j : Int) + 1, wr64 (by omega), ?_⟩
    conv => whnf
    exact atq_next ⟨(j + 1, out2 ++ [y], dn2), hlt, by simp; omega, he2⟩ (ent_drop (aI rfl (aI rfl (aI rfl (aI rfl (aI rfl trivial))))) (aI ((aI rfl (aI rfl (aI (by simp) (by simp))))) trivial) rfl rfl) (by show l.length - (j + 1) < l.length - j; omega)
  ·have hje : j = l.length := by
    have : ¬ j < l.length := by simpa using hj2
    omega
   subst hje
   rw [List.drop_length] at he
   conv => whnf
   exact atq_out (atq_exit (atq_mid ⟨(out, dn), ho, he⟩ (ent_same rfl (aI rfl (aI rfl (aI rfl trivial))) (aI ((aI rfl (aI rfl (aI rfl rfl)))) trivial))))
 obtain ⟨⟨out, dn⟩, ho, he⟩ := x
 dsimp only at ho he ⊢
 have hfin : ∀ q : List Int, some q = tot → putP l p = q := fun q hq => by rw [← hput, ← hq]; rfl
 have hend : ∀ (w' : World) (v : Value), w'.ownsRow w.heap.size 3 1 v (putP l p).length ((putP l p).map (.int .i64)) → Below w.heap.size w w' → ∃ A' c', Ending.returned v = .returned (.slice A' (putP l p).length c') ∧ SlAt w' w'.heap.size A' ((putP l p).map (.int .i64)) ∧ (putP l p).length ≤ c' ∧ c' ≤ maxLen ∧ ((A' = A ∧ l ≠ []) ∨ Fresh w.heap.size A') ∧ Below w.heap.size w w' := fun w' v ho hB => by
  have hnew := own_new ho
  obtain ⟨A', c', rfl, h1, h2, h3, _⟩ := own_slice ho
  exact ⟨A', c', rfl, h1, h2, h3, Or.inr fun b off sp e => (hnew b (by rw [e]; rfl)).1, hB⟩
 refine satq_vcN ?_
 conv => whnf
 cases dn with
 | true =>
  have h2 := hfin out he
  (repeat ((first | apply k1 | apply k2 | apply k3 | apply k4 | refine k5 (by decide) ?_ | refine k6 (by decide) ?_); conv => whnf))
  refine atq_ret ?_
  conv => whnf
  rw [h2] at hend ⊢
  exact fin_rowOwn rfl hend
 | false =>
  have h2 := hfin (out ++ [p]) he
  (repeat ((first | apply k1 | apply k2 | apply k3 | apply k4 | refine k5 (by decide) ?_ | refine k6 (by decide) ?_); conv => whnf))
  refine appK_sound rfl ?_ rfl
  conv => whnf
  refine ⟨by omega, ?_⟩
  conv => whnf
  refine atq_ret ?_
  conv => whnf
  exact fin_rowOwn rfl fun w' v ho hB => hend w' v (own_is ho (Nat.le_refl _) (by rw [h2]; simp) (by rw [h2]; simp)) hB
end Go.Proofs.YtnhdcclpjildjaaGreat
namespace Go.Proofs.YtnhdcclpjildjaaGreat
open Go.RowKit

theorem ent_fieldV {φ : Option Addr → Prop} (hφ : φ none) {w0 : World} {G : Gs} {N : Nd} {f : Fr} {S : List Ow} (i k : Nat) {t : TypeId} {l : List CV} (hi : S[i]? = some (.cells t l)) (hk : l[k]? = some (.v (.slice none 0 0))) : Ent w0 G N f S f (S.set i (.cells t (l.set k (.row S.length))) ++ [.view φ 0 []]) := ⟨fun a w ⟨r, hR, hf, hN, hd⟩ => by
 have hle := hR.le_new none (some (.slice none 0 0))
 have hil : i < S.length := by
  rcases Nat.lt_or_ge i S.length with h1 | h1
  ·exact h1
  ·rw [List.getElem?_eq_none h1] at hi; cases hi
 have hR2 := hR.snoc (Below.refl _ _) (b := none) (v := some (.slice none 0 0)) (o := .view φ 0 []) nofun ⟨none, 0, by simp [Env.set], Nat.le_refl _, ⟨Nat.zero_le _, hφ⟩, by simp [Env.set], fun j u hj => by simp at hj⟩
 obtain ⟨b, us, e1, e2, e3⟩ := hR2.own i (.cells t l) (by rw [List.getElem?_append_left hil]; exact hi)
 obtain ⟨u, h1, h2⟩ := denL_at e3 hk
 have h2 : u = .slice none 0 0 := by simpa only [CV.den] using h2
 subst h2
 have h3 := denL_set (c := .row S.length) (u := .slice none 0 0) k e3 (by simp [CV.den, Env.set])
 have h4 : us.set k (.slice none 0 0) = us := by
  refine List.ext_getElem? fun j => ?_
  rw [List.getElem?_set]
  split
  ·rename_i hj; subst hj
   split
   ·exact h1.symm
   ·rename_i hlt; rw [List.getElem?_eq_none (by omega)] at h1; cases h1
  ·rfl
 rw [h4] at h3
 have hR3 := rel_setSame hR2 (i := i) (o := .cells t (l.set k (.row S.length))) ⟨b, us, e1, e2, h3⟩
 rw [List.set_append_left _ _ hil] at hR3
 exact ⟨_, hR3, hf.mono hle, hN, hd⟩⟩
theorem call_put {φ : Option Addr → Prop} {w0 : World} (hφ : ∀ A, Fresh w0.heap.size A → φ A) {G : Gs} {S : List Ow} {K : AV → List Ow → Prop} (i : Nat) (l : List Int) (p : Int) (hi : S[i]? = some (.view φ l.length (l.map (.int .i64)))) (hl : l.length ≤ 100000) (hin : Inc l)
  (hK : K (.p (.c (.row S.length))) (S ++ [.view φ (putP l p).length ((putP l p).map (.int .i64))])) : CallS Tryz.prog w0 G 43 [.p (.c (.row i)), one (intV p)] S K := by
 refine ⟨by kernel_rfl, fun r w us hR hd => ?_⟩
 obtain ⟨u1, l1, rfl, d1, u2, l2, rfl, d2, d3⟩ := hd
 obtain rfl : l2 = [] := d3
 obtain rfl := den_v d2
 obtain ⟨A, c, e1, h1, ⟨h2, hφA⟩, h3, h4⟩ := hR.own i _ hi
 have d1 := den_row d1
 rw [e1] at d1; injection d1 with d1; subst d1
 have hA : SlAt w w.heap.size A (l.map (.int .i64)) := fun j u hj => by
  obtain ⟨b, off, a1, a2, _, a4⟩ := h4 j u hj
  exact ⟨b, off, a1, a2, a4⟩
 refine (put14_walk A c l p w hA h1 h2 hl hin).mono fun e w' ⟨A', c', he, hs, k1, k2, hf, hB⟩ => ?_
 refine ⟨.p (.c (.row S.length)), _, _, r.set S.length none (some (.slice A' (putP l p).length c')), he, by simp [AV.den, Pc.den, CV.den, Env.set], hR.snoc (o := .view φ _ _) hB (b := none) nofun ⟨A', c', by simp [Env.set], k1, ⟨k2, hf.elim (fun h => h.1 ▸ hφA) fun h => hφ _ fun b off sp e => Nat.le_trans hR.size (h b off sp e)⟩, by simp [Env.set], fun j u hj => ?_⟩, hR.le_new _ _, hK⟩
 obtain ⟨b, off, a1, a2, a3⟩ := hs j u hj
 refine ⟨b, off, a1, a2, fun k hk => ?_, a3⟩
 have hk2 : r.blk k = some b := by
  simp only [Env.set] at hk
  split at hk
  ·cases hk
  ·exact hk
 rcases hf with ⟨hf, hne⟩ | hf
 ·subst hf
  cases l with
  | nil => exact hne rfl
  | cons x t =>
   obtain ⟨b', off', a1', _, a3', _⟩ := h4 0 (.int .i64 x) rfl
   rw [a1] at a1'
   injection a1' with a1'
   injection a1' with q1 q2
   subst q1
   exact a3' k hk2
 ·have := hf b off none a1
  have := (hR.new k b hk2).1
  omega
theorem fin_ext {w0 : World} {S : List Ow} {R : Ending → World → Prop} {l m : List Int} (h1 : S[2]? = some (.row 35 1 l.length (l.map (.int .u32)))) (h2 : S[3]? = some (.view (Fresh w0.heap.size) m.length (m.map (.int .i64)))) (h : ∀ w A1 c1 A2 c2, SlAt w w.heap.size A1 (l.map (.int .u32)) → SlAt w w.heap.size A2 (m.map (.int .i64)) → (l.length ≤ c1 ∧ c1 ≤ maxLen ∧ Fresh w0.heap.size A1) ∧ (m.length ≤ c2 ∧ c2 ≤ maxLen ∧ Fresh w0.heap.size A2) → Below w0.heap.size w0 w → R (.returned (.agg #[.slice A1 l.length c1, .slice A2 m.length c2])) w) : Fin w0 Gs.nil S (.p (.agg [.row 2, .row 3])) R := by
 refine ⟨fun r w u hR hd => ?_⟩
 obtain ⟨us, rfl, hl⟩ := den_agg hd
 simp only [denL, CV.den] at hl
 obtain ⟨u1, l1, rfl, k1, u2, l2, rfl, k2, rfl⟩ := hl
 have hown := (rowLike_at hR (.inl ⟨rfl, h1⟩) (show CV.den r (.row 2) u1 from k1)).1
 have hnew := own_new hown
 obtain ⟨A1, c1, rfl, s1, q1, q2, _⟩ := own_slice hown
 obtain ⟨A2, c2, e1, g1, ⟨g2, g3⟩, _, h4⟩ := hR.own 3 _ h2
 rw [k2] at e1; injection e1 with e1; subst e1
 exact h w A1 c1 A2 c2 s1 (fun j u hj => by
  obtain ⟨b, off, a1, a2, _, a4⟩ := h4 j u hj
  exact ⟨b, off, a1, a2, a4⟩) ⟨⟨q1, q2, fun b off sp e => (hnew b (by rw [e]; rfl)).1⟩, g1, g2, g3⟩ hR.toBelow
abbrev extT : TypeId := 51
abbrev exS (B : Nat) (ats ps : List Int) : List Ow := [.cells extT [.v nilB, .v nilB], .cells extT [.row 2, .row 3], .row 35 1 ats.length (ats.map (.int .u32)), .view (Fresh B) ps.length (ps.map (.int .i64))]
set_option maxRecDepth 100000 in
set_option maxHeartbeats 8000000 in
theorem lift14_walk (M : MemP) (n p : Nat) (pc most : Int) (w : World) (g : Nat) (gs : List Nat) (hU : ObjsAt w (g :: gs) (memS 0 n p M)) (hM : M.ok n p) (_hpc : word pc) :
  Calls Tryz.prog 19 #[u32V pc, ptrV g, intV most] w fun e w' => ∃ A1 c1 A2 c2, e = .returned (.agg #[.slice A1 (liftM M pc most).at_.length c1, .slice A2 (liftM M pc most).pages.length c2]) ∧ SlAt w' w'.heap.size A1 ((liftM M pc most).at_.map (.int .u32)) ∧ SlAt w' w'.heap.size A2 ((liftM M pc most).pages.map (.int .i64)) ∧ ((liftM M pc most).at_.length ≤ c1 ∧ c1 ≤ maxLen ∧ Fresh w.heap.size A1) ∧ ((liftM M pc most).pages.length ≤ c2 ∧ c2 ≤ maxLen ∧ Fresh w.heap.size A2) ∧ Below w.heap.size w w' := by
 refine calls_satq [u32V pc, ptrV g, intV most] Tryz.func19 Tryz.ntmps19 rfl (by simp) ?_
 refine satq_seqN ?_
 conv => whnf
 refine satq_seqN ?_
 conv => whnf
 refine op_max rfl rfl rfl rfl ?_
 conv => whnf
 refine op_min rfl rfl rfl rfl ?_
 have hlim : (if 64 < (if most < 1 then 1 else most) then 64 else (if most < 1 then 1 else most)) = ((limN most : Nat) : Int) := by
  unfold limN; split <;> split <;> omega
 rw [hlim]
 obtain ⟨hn1, hn64⟩ := limN_ok most
 obtain ⟨T, hT⟩ : ∃ T, T = liftLen (readQ M.fet) pc (limN most) (limN most) 0 := ⟨_, rfl⟩
 have hat : (liftM M pc most).at_ = liftAts pc T := by rw [hT]; rfl
 have hpg : (liftM M pc most).pages = liftPages pc T := by rw [hT]; rfl
 rw [hat, hpg]
 have hF : ∀ a i, readQ M.fet a = some i → (qForm i.op).is = true := fun a i h => (readQ_op hM h).2
 have hTr : refLen (readQ M.fet) pc (limN most) (limN most) 0 = T := by rw [hT]; exact refLen_is hF _ _ _ _
 clear hT hat hpg
 generalize limN most = nn at hn1 hn64 hTr ⊢
 clear hlim
 conv => whnf
 refine satq_seqN ?_
 conv => whnf
 refine satq_as (ent_field 1 0 35 1 rfl rfl) ?_
 refine satq_as (ent_fieldV (φ := Fresh w.heap.size) nofun 1 1 rfl rfl) ?_
 conv => whnf
 refine satq_block ?_
 refine satq_loop (α := { k : Nat // k < nn ∧ refLen (readQ M.fet) pc nn (nn - k) k = T }) (fun x => [(0, one (u32V pc)), (1, one (ptrV g)), (6, .p (.c (.ref 0 0))), (7, one (.int .i64 (nn : Int))), (8, .p (.c (.ref 1 0)))]) (fun x => exS w.heap.size (liftAts pc x.1) (liftPages pc x.1)) (fun x => nn - x.1)
  ⟨0, by omega, hTr⟩ (ent_same rfl (aI rfl (aI rfl (aI rfl (aI rfl (aI rfl trivial))))) (aI (aI rfl (Or.inl rfl)) (aI (aI rfl (Or.inl rfl)) (aI ((aI rfl (aI rfl (aI rfl rfl)))) (aI ((aI rfl (aI rfl rfl))) trivial))))) fun x => ?_
 obtain ⟨k, hk, hrl⟩ := x
 dsimp only
 have hal : (liftAts pc k).length = k := liftAts_length pc k
 have haw : word (qAddr pc k) := cut32_word _
 have hpin := liftPages_in pc k
 have hpln := liftPages_length pc k
 refine satq_block ?_
 refine satq_seqN ?_
 conv => whnf
 rw [hal]
 refine ⟨4 * (k : Int), by rw [wr64] <;> omega, ?_⟩
 conv => whnf
 refine ⟨4 * (k : Int), by rw [wr32]; omega, ?_⟩
 conv => whnf
 refine ⟨qAddr pc k, by rw [wr32]; rfl, ?_⟩
 conv => whnf
 refine satq_seqN ?_
 conv => whnf
 refine appK_sound rfl ?_ rfl
 conv => whnf
 refine ⟨by omega, ?_⟩
 conv => whnf
 refine satq_mid (α := Unit) (fun _ => [(0, one (u32V pc)), (1, one (ptrV g)), (6, .p (.c (.ref 0 0))), (7, one (.int .i64 (nn : Int))), (8, .p (.c (.ref 1 0))), (9, one (u32V (qAddr pc k)))]) (fun _ => exS w.heap.size (liftAts pc (k + 1)) (liftPages pc (k + 1))) ?_ fun _ => ?_
 ·refine satq_seqN ?_
  conv => whnf
  refine satq_block ?_
  refine satq_loop (α := { x : Nat × List Int // x.1 ≤ 4 ∧ x.2 = addTo (liftPages pc k) (qAddr pc k) x.1 ∧ PagesIn x.2 ∧ x.2.length ≤ 4 * k + x.1 }) (fun x => [(0, one (u32V pc)), (1, one (ptrV g)), (6, .p (.c (.ref 0 0))), (7, one (.int .i64 (nn : Int))), (8, .p (.c (.ref 1 0))), (9, one (u32V (qAddr pc k))), (10, one (.int .u32 (x.1.1 : Int)))]) (fun x => exS w.heap.size (liftAts pc (k + 1)) x.1.2) (fun x => 4 - x.1.1)
   ⟨(0, liftPages pc k), by show 0 ≤ 4; omega, rfl, hpin, by show (liftPages pc k).length ≤ 4 * k + 0; omega⟩ (ent_drop (aI rfl (aI rfl (aI rfl (aI rfl (aI rfl (aI rfl (aI rfl trivial))))))) (aI (aI rfl (Or.inl rfl)) (aI (aI rfl (Or.inl rfl)) (aI ((aI rfl (aI rfl (aI (by simp [liftAts]) (by simp [liftAts_succ]))))) (aI ((aI rfl (aI rfl rfl))) trivial)))) rfl rfl) fun x => ?_
  obtain ⟨⟨j, q⟩, hj, hq, hqi, hql⟩ := x
  dsimp only at hj hq hqi hql ⊢
  refine satq_seqN ?_
  conv => whnf
  refine ⟨fun hc => ?_, fun hc => ?_⟩
  ·have hlt : j < 4 := by simp at hc; omega
   have hcut : word (cut32 (qAddr pc k + j)) := cut32_word _
   conv => whnf
   refine satq_mid (α := { q2 : List Int // q2 = addTo (liftPages pc k) (qAddr pc k) (j + 1) ∧ PagesIn q2 ∧ q2.length ≤ 4 * k + (j + 1) }) (fun x => [(0, one (u32V pc)), (1, one (ptrV g)), (6, .p (.c (.ref 0 0))), (7, one (.int .i64 (nn : Int))), (8, .p (.c (.ref 1 0))), (9, one (u32V (qAddr pc k))), (10, one (.int .u32 (j : Int)))]) (fun x => exS w.heap.size (liftAts pc (k + 1)) x.1) ?_ fun x => ?_
   ·refine satq_block ?_
    refine satq_vcN ?_
    conv => whnf
    refine ⟨cut32 (qAddr pc k + j), by rw [wr32]; rfl, ?_⟩
    conv => whnf
    refine ⟨by decide, pageOf (qAddr pc k + j), by rw [Int.tdiv_eq_ediv_of_nonneg hcut.1, wr32]; unfold pageOf; unfold word at hcut; omega, ?_⟩
    conv => whnf
    refine ⟨fun hp => ?_, fun hp => ?_⟩
    ·have hp : pageOf (qAddr pc k + j) < 4096 := by simpa using hp
     have hadd : addTo (liftPages pc k) (qAddr pc k) (j + 1) = putP q (pageOf (qAddr pc k + j)) := by
      rw [addTo, ← hq]; unfold addPage; rw [if_pos hp]
     conv => whnf
     refine ⟨pageOf (qAddr pc k + j), by have : 0 ≤ pageOf (qAddr pc k + j) := Int.ediv_nonneg hcut.1 (by decide); rw [wr64] <;> omega, ?_⟩
     conv => whnf
     refine call_put (fun A h => h) 3 q (pageOf (qAddr pc k + j)) rfl (by omega) hqi.inc ?_
     conv => whnf
     exact atq_block (atq_mid ⟨putP q (pageOf (qAddr pc k + j)), hadd.symm, by rw [← hadd, addTo, ← hq]; exact addPage_in hqi _, by have := putP_length q (pageOf (qAddr pc k + j)); omega⟩ (ent_ren [0, 1, 2, 4] (aI rfl (aI rfl (aI rfl (aI rfl (aI rfl (aI rfl (aI rfl trivial))))))) (aI ((Exists.intro _ (aI rfl (aI rfl (Or.inl rfl))))) (aI ((Exists.intro _ (aI rfl (aI rfl (Or.inl rfl))))) (aI ((Exists.intro _ (aI rfl (aI rfl (aI rfl (aI rfl rfl)))))) (aI ((Exists.intro _ (aI rfl (aI rfl (aI rfl rfl))))) trivial)))) rfl rfl rfl rfl rfl))
    ·have hp : ¬ pageOf (qAddr pc k + j) < 4096 := by simpa using hp
     have hadd : addTo (liftPages pc k) (qAddr pc k) (j + 1) = q := by
      rw [addTo, ← hq]; unfold addPage; rw [if_neg hp]
     conv => whnf
     exact atq_block (atq_mid ⟨q, hadd.symm, hqi, by omega⟩ (ent_same rfl (aI rfl (aI rfl (aI rfl (aI rfl (aI rfl (aI rfl (aI rfl trivial))))))) (aI (aI rfl (Or.inl rfl)) (aI (aI rfl (Or.inl rfl)) (aI ((aI rfl (aI rfl (aI rfl rfl)))) (aI ((aI rfl (aI rfl rfl))) trivial))))))
   obtain ⟨q2, hq2, hqi2, hql2⟩ := x
   dsimp only
   refine satq_vcN ?_
   conv => whnf
   refine ⟨(j : Int) + 1, by rw [wr32]; omega, ?_⟩
   conv => whnf
   exact atq_next ⟨(j + 1, q2), by show j + 1 ≤ 4; omega, hq2, hqi2, hql2⟩ (ent_same rfl (aI rfl (aI rfl (aI rfl (aI rfl (aI rfl (aI rfl (aI rfl trivial))))))) (aI (aI rfl (Or.inl rfl)) (aI (aI rfl (Or.inl rfl)) (aI ((aI rfl (aI rfl (aI rfl rfl)))) (aI ((aI rfl (aI rfl rfl))) trivial))))) (by show 4 - (j + 1) < 4 - j; omega)
  ·have hje : j = 4 := by simp at hc; omega
   subst hje
   have hq3 : q = liftPages pc (k + 1) := by rw [hq, addTo_four]; rfl
   conv => whnf
   exact atq_out (atq_exit (atq_mid () (ent_same rfl (aI rfl (aI rfl (aI rfl (aI rfl (aI rfl (aI rfl trivial)))))) (aI (aI rfl (Or.inl rfl)) (aI (aI rfl (Or.inl rfl)) (aI ((aI rfl (aI rfl (aI rfl rfl)))) (aI ((aI rfl (aI (by rw [hq3]) (by rw [hq3])))) trivial)))))))
 have hal1 : (liftAts pc (k + 1)).length = k + 1 := liftAts_length pc (k + 1)
 obtain ⟨m, hm⟩ : ∃ m, nn - k = m + 1 := ⟨nn - k - 1, by omega⟩
 rw [hm] at hrl
 have hrl : (if goesQ (readQ M.fet) (qAddr pc k) = false ∨ k + 1 = nn then k + 1 else refLen (readQ M.fet) pc nn m (k + 1)) = T := hrl
 have hsimp : ∀ w', Below w.heap.size w w' → Calls Tryz.prog 44 #[u32V (qAddr pc k), ptrV g] w' fun e w2 => e = .returned (.bool (M.simp (qAddr pc k))) ∧ Below w'.heap.size w' w2 := fun w' hB => by
  have hU' := objs_later (memS_ob n p M) hU hB
  exact (simple_walk M n p (qAddr pc k) w' g gs hU' hM haw).mono fun e w2 ⟨h1, h2, h3⟩ => ⟨h1, objs_below (memS_ob n p M) hU' h2 h3⟩
 have hfetch : ∀ w', Below w.heap.size w w' → Calls Tryz.prog 46 #[u32V (qAddr pc k), ptrV g] w' fun e w2 => e = .returned (fetV6 ((readQ M.fet (qAddr pc k)).getD QI.zero) (M.fk (qAddr pc k)) (M.fi (qAddr pc k))) ∧ Below w'.heap.size w' w2 := fun w' hB => by
  have hU' := objs_later (memS_ob n p M) hU hB
  exact (fetch6_walk M n p (qAddr pc k) w' g gs hU' hM haw).mono fun e w2 ⟨h1, h2, h3⟩ => ⟨h1, objs_below (memS_ob n p M) hU' h2 h3⟩
 refine satq_seqN ?_
 conv => whnf
 refine call_con (x := .bool (M.simp (qAddr pc k))) rfl (by kernel_rfl) (fun r w' hR => hsimp w' hR.toBelow) ?_
 obtain ⟨sm, hsm⟩ : ∃ sm, sm = M.simp (qAddr pc k) := ⟨_, rfl⟩
 rw [← hsm]
 conv => whnf
 refine satq_as (f' := [(0, one (u32V pc)), (1, one (ptrV g)), (6, .p (.c (.ref 0 0))), (7, one (.int .i64 (nn : Int))), (8, .p (.c (.ref 1 0))), (9, one (u32V (qAddr pc k))), (12, one (.bool sm))]) (S' := exS w.heap.size (liftAts pc (k + 1)) (liftPages pc (k + 1))) (ent_same rfl (aI rfl (aI rfl (aI rfl (aI rfl (aI rfl (aI rfl (aI rfl trivial))))))) (aI (aI rfl (Or.inl rfl)) (aI (aI rfl (Or.inl rfl)) (aI ((aI rfl (aI rfl (aI rfl rfl)))) (aI ((aI rfl (aI rfl rfl))) trivial))))) ?_
 have hgo : ∀ i, readQ M.fet (qAddr pc k) = some i → goesQ (readQ M.fet) (qAddr pc k) = (sm && !endsQ i.op) := fun i hi => by
  rw [hsm]; unfold goesQ MemP.simp; rw [hi]
 have hgo0 : sm = false → T = k + 1 := fun h => by
  have : goesQ (readQ M.fet) (qAddr pc k) = false := by
   cases hr : readQ M.fet (qAddr pc k) with
   | none => unfold goesQ; rw [hr]
   | some i => rw [hgo i hr, h]; rfl
  rw [← hrl, if_pos (Or.inl this)]
 cases sm with
 | false =>
  have hTk := hgo0 rfl
  refine satq_seqN ?_
  conv => whnf
  (repeat ((first | apply k1 | apply k2 | apply k3 | apply k4 | refine k5 (by decide) ?_ | refine k6 (by decide) ?_); conv => whnf))
  refine atq_up (atq_ret ?_) (fun _ _ h => h)
  conv => whnf
  exact fin_ext (l := liftAts pc (k + 1)) (m := liftPages pc (k + 1)) rfl rfl fun w' A1 c1 A2 c2 t1 t2 t3 hB => by rw [hTk]; exact ⟨A1, c1, A2, c2, rfl, t1, t2, t3.1, t3.2, hB⟩
 | true =>
  obtain ⟨i, hi⟩ : ∃ i, readQ M.fet (qAddr pc k) = some i := by
   cases hr : readQ M.fet (qAddr pc k) with
   | none => unfold MemP.simp at hsm; rw [hr] at hsm; cases hsm
   | some i => exact ⟨i, rfl⟩
  have hiop := (readQ_op hM hi).1.op
  by_cases hkn : k + 1 = nn
  ·have hTk : T = k + 1 := by rw [← hrl, if_pos (Or.inr hkn)]
   refine satq_seqN ?_
   conv => whnf
   (repeat ((first | apply k1 | apply k2 | apply k3 | apply k4 | refine k5 (by decide) ?_ | refine k6 (by decide) ?_); conv => whnf))
   rw [show ((((liftAts pc (k + 1)).length : Nat) : Int) == (nn : Int)) = true by rw [hal1, hkn]; exact beq_self_eq_true _]
   (repeat ((first | apply k1 | apply k2 | apply k3 | apply k4 | refine k5 (by decide) ?_ | refine k6 (by decide) ?_); conv => whnf))
   refine atq_up (atq_ret ?_) (fun _ _ h => h)
   conv => whnf
   exact fin_ext (l := liftAts pc (k + 1)) (m := liftPages pc (k + 1)) rfl rfl fun w' A1 c1 A2 c2 t1 t2 t3 hB => by rw [hTk]; exact ⟨A1, c1, A2, c2, rfl, t1, t2, t3.1, t3.2, hB⟩
  ·refine satq_seqN ?_
   conv => whnf
   (repeat ((first | apply k1 | apply k2 | apply k3 | apply k4 | refine k5 (by decide) ?_ | refine k6 (by decide) ?_); conv => whnf))
   rw [show ((((liftAts pc (k + 1)).length : Nat) : Int) == (nn : Int)) = false by rw [hal1]; simp; omega]
   (repeat ((first | apply k1 | apply k2 | apply k3 | apply k4 | refine k5 (by decide) ?_ | refine k6 (by decide) ?_); conv => whnf))
   refine satq_seqN ?_
   conv => whnf
   refine call_con (x := fetV6 ((readQ M.fet (qAddr pc k)).getD QI.zero) (M.fk (qAddr pc k)) (M.fi (qAddr pc k))) rfl (by kernel_rfl) (fun r w' hR => hfetch w' hR.toBelow) ?_
   rw [hi, Option.getD_some]
   generalize M.fk (qAddr pc k) = kk
   generalize M.fi (qAddr pc k) = ii
   conv => whnf
   refine call_con (x := .bool (endsQ i.op)) rfl (by kernel_rfl) (fun r w' hR => ends_ref03 i w' hiop) ?_
   have hg1 := hgo i hi
   cases he : endsQ i.op with
   | true =>
    have hTk : T = k + 1 := by
     rw [← hrl, if_pos (Or.inl (by rw [hg1, he]; rfl))]
    conv => whnf
    refine satq_vcN ?_
    conv => whnf
    (repeat ((first | apply k1 | apply k2 | apply k3 | apply k4 | refine k5 (by decide) ?_ | refine k6 (by decide) ?_); conv => whnf))
    refine atq_up (atq_ret ?_) (fun _ _ h => h)
    conv => whnf
    exact fin_ext (l := liftAts pc (k + 1)) (m := liftPages pc (k + 1)) rfl rfl fun w' A1 c1 A2 c2 t1 t2 t3 hB => by rw [hTk]; exact ⟨A1, c1, A2, c2, rfl, t1, t2, t3.1, t3.2, hB⟩
   | false =>
    conv => whnf
    refine satq_vcN ?_
    conv => whnf
    (repeat ((first | apply k1 | apply k2 | apply k3 | apply k4 | refine k5 (by decide) ?_ | refine k6 (by decide) ?_); conv => whnf))
    refine atq_block ?_
    exact atq_next ⟨k + 1, by omega, by
     rw [if_neg (fun h => h.elim (fun h => by rw [hg1, he] at h; cases h) hkn)] at hrl
     rw [show nn - (k + 1) = m by omega]; exact hrl⟩ (ent_same rfl (aI rfl (aI rfl (aI rfl (aI rfl (aI rfl trivial))))) (aI (aI rfl (Or.inl rfl)) (aI (aI rfl (Or.inl rfl)) (aI ((aI rfl (aI rfl (aI rfl rfl)))) (aI ((aI rfl (aI rfl rfl))) trivial))))) (by show nn - (k + 1) < nn - k; omega)
end Go.Proofs.YtnhdcclpjildjaaGreat
namespace Go.Proofs.YtnhdcclpjildjaaGreat
open Go.RowKit

abbrev sm14 (A1 A2 A3 B1 B2 : Option Addr) (l m : List Int) (o c1 c2 c3 d1 d2 : Nat) : List Ow := [.cells blT [.v (.slice A1 l.length c1), .v (.slice A2 m.length c2), .v (.slice A3 o c3)], .cells extT [.v (.slice B1 l.length d1), .v (.slice B2 m.length d2)]]
set_option maxRecDepth 100000 in
set_option maxHeartbeats 4000000 in
theorem same14_walk (A1 A2 A3 B1 B2 : Option Addr) (l m : List Int) (o c1 c2 c3 d1 d2 : Nat) (w : World) (hl : l.length ≤ 1000000) (hm : m.length ≤ 1000000) (s1 : SlAt w w.heap.size A1 (l.map (.int .u32))) (s2 : SlAt w w.heap.size A2 (m.map (.int .i64))) (t1 : SlAt w w.heap.size B1 (l.map (.int .u32))) (t2 : SlAt w w.heap.size B2 (m.map (.int .i64))) :
  Calls Tryz.prog 18 #[.agg #[.slice A1 l.length c1, .slice A2 m.length c2, .slice A3 o c3], .agg #[.slice B1 l.length d1, .slice B2 m.length d2]] w fun e w' => e = .returned (.bool true) ∧ Below w.heap.size w w' := by
 refine calls_satq [.agg #[.slice A1 l.length c1, .slice A2 m.length c2, .slice A3 o c3], .agg #[.slice B1 l.length d1, .slice B2 m.length d2]] Tryz.func18 Tryz.ntmps18 rfl (by simp) ?_
 refine satq_seqN ?_
 conv => whnf
 refine satq_seqN ?_
 conv => whnf
 rw [show ((l.length : Int) != (l.length : Int)) = false from bne_self_eq_false _]
 (repeat ((first | apply k1 | apply k2 | apply k3 | apply k4 | refine k5 (by decide) ?_ | refine k6 (by decide) ?_); conv => whnf))
 rw [show ((m.length : Int) != (m.length : Int)) = false from bne_self_eq_false _]
 (repeat ((first | apply k1 | apply k2 | apply k3 | apply k4 | refine k5 (by decide) ?_ | refine k6 (by decide) ?_); conv => whnf))
 refine satq_as (f' := [(2, .p (.c (.ref 0 0))), (3, .p (.c (.ref 1 0)))]) (S' := sm14 A1 A2 A3 B1 B2 l m o c1 c2 c3 d1 d2) (ent_same rfl (aI rfl (aI rfl trivial)) (aI (aI rfl (Or.inl rfl)) (aI (aI rfl (Or.inl rfl)) trivial))) ?_
 refine satq_mid (α := Unit) (fun _ => [(2, .p (.c (.ref 0 0))), (3, .p (.c (.ref 1 0)))]) (fun _ => sm14 A1 A2 A3 B1 B2 l m o c1 c2 c3 d1 d2) ?_ fun _ => ?_
 ·refine satq_seqN ?_
  conv => whnf
  refine satq_block ?_
  refine satq_loop (α := { x : Nat // x ≤ l.length }) (fun x => [(2, .p (.c (.ref 0 0))), (3, .p (.c (.ref 1 0))), (5, one (intV (x.1 : Int)))]) (fun _ => sm14 A1 A2 A3 B1 B2 l m o c1 c2 c3 d1 d2) (fun x => l.length - x.1)
   ⟨0, by omega⟩ (ent_same rfl (aI rfl (aI rfl (aI rfl trivial))) (aI (aI rfl (Or.inl rfl)) (aI (aI rfl (Or.inl rfl)) trivial))) fun x => ?_
  obtain ⟨j, hj⟩ := x
  dsimp only
  refine satq_seqN ?_
  conv => whnf
  refine ⟨fun hc => ?_, fun hc => ?_⟩
  ·have hlt : j < l.length := by simpa using hc
   obtain ⟨y, hy⟩ : ∃ y, l[j]? = some y := ⟨_, List.getElem?_eq_getElem hlt⟩
   obtain ⟨b0, o0, hX, hb0, hc0⟩ := s1 j (.int .u32 y) (by rw [List.getElem?_map, hy]; rfl)
   obtain ⟨b1, o1, hY, hb1, hc1⟩ := t1 j (.int .u32 y) (by rw [List.getElem?_map, hy]; rfl)
   have e0 : CellsAt w Gs.nil b0 (o0 + (j : Int).toNat * 1) [.int .u32 y] := cells_one hb0 (by simp) (by rw [Nat.mul_one, Int.toNat_natCast]; exact hc0)
   have e1 : CellsAt w Gs.nil b1 (o1 + (j : Int).toNat * 1) [.int .u32 y] := cells_one hb1 (by simp) (by rw [Nat.mul_one, Int.toNat_natCast]; exact hc1)
   subst hX
   subst hY
   conv => whnf
   refine satq_mid (α := Unit) (fun _ => [(2, .p (.c (.ref 0 0))), (3, .p (.c (.ref 1 0))), (5, one (intV (j : Int)))]) (fun _ => sm14 (some ⟨b0, o0, none⟩) A2 A3 (some ⟨b1, o1, none⟩) B2 l m o c1 c2 c3 d1 d2) ?_ fun _ => ?_
   ·refine satq_block ?_
    refine satq_seqN ?_
    conv => whnf
    refine sat_quiet mixed (by kernel_rfl) ?_
    conv => whnf
    (refine ⟨⟨by omega, by omega⟩, ?_⟩; (conv=>whnf))
    refine ⟨_, e0, ?_⟩
    conv => whnf
    (refine ⟨⟨by omega, by omega⟩, ?_⟩; (conv=>whnf))
    refine ⟨_, e1, ?_⟩
    conv => whnf
    rw [show (y != y) = false from bne_self_eq_false y]
    refine satq_vcN ?_
    conv => whnf
    (repeat ((first | apply k1 | apply k2 | apply k3 | apply k4 | refine k5 (by decide) ?_ | refine k6 (by decide) ?_); conv => whnf))
    exact atq_block (atq_mid () (ent_same rfl (aI rfl (aI rfl (aI rfl trivial))) (aI (aI rfl (Or.inl rfl)) (aI (aI rfl (Or.inl rfl)) trivial))))
   refine satq_vcN ?_
   conv => whnf
   refine ⟨(j : Int) + 1, wr64 (by omega), ?_⟩
   conv => whnf
   exact atq_next ⟨j + 1, hlt⟩ (ent_same rfl (aI rfl (aI rfl (aI rfl trivial))) (aI (aI rfl (Or.inl rfl)) (aI (aI rfl (Or.inl rfl)) trivial))) (by show l.length - (j + 1) < l.length - j; omega)
  ·conv => whnf
   exact atq_out (atq_exit (atq_mid () (ent_same rfl (aI rfl (aI rfl trivial)) (aI (aI rfl (Or.inl rfl)) (aI (aI rfl (Or.inl rfl)) trivial)))))
 refine satq_mid (α := Unit) (fun _ => [(2, .p (.c (.ref 0 0))), (3, .p (.c (.ref 1 0)))]) (fun _ => sm14 A1 A2 A3 B1 B2 l m o c1 c2 c3 d1 d2) ?_ fun _ => ?_
 ·refine satq_seqN ?_
  conv => whnf
  refine satq_block ?_
  refine satq_loop (α := { x : Nat // x ≤ m.length }) (fun x => [(2, .p (.c (.ref 0 0))), (3, .p (.c (.ref 1 0))), (6, one (intV (x.1 : Int)))]) (fun _ => sm14 A1 A2 A3 B1 B2 l m o c1 c2 c3 d1 d2) (fun x => m.length - x.1)
   ⟨0, by omega⟩ (ent_same rfl (aI rfl (aI rfl (aI rfl trivial))) (aI (aI rfl (Or.inl rfl)) (aI (aI rfl (Or.inl rfl)) trivial))) fun x => ?_
  obtain ⟨j, hj⟩ := x
  dsimp only
  refine satq_seqN ?_
  conv => whnf
  refine ⟨fun hc => ?_, fun hc => ?_⟩
  ·have hlt : j < m.length := by simpa using hc
   obtain ⟨y, hy⟩ : ∃ y, m[j]? = some y := ⟨_, List.getElem?_eq_getElem hlt⟩
   obtain ⟨b0, o0, hX, hb0, hc0⟩ := s2 j (.int .i64 y) (by rw [List.getElem?_map, hy]; rfl)
   obtain ⟨b1, o1, hY, hb1, hc1⟩ := t2 j (.int .i64 y) (by rw [List.getElem?_map, hy]; rfl)
   have e0 : CellsAt w Gs.nil b0 (o0 + (j : Int).toNat * 1) [.int .i64 y] := cells_one hb0 (by simp) (by rw [Nat.mul_one, Int.toNat_natCast]; exact hc0)
   have e1 : CellsAt w Gs.nil b1 (o1 + (j : Int).toNat * 1) [.int .i64 y] := cells_one hb1 (by simp) (by rw [Nat.mul_one, Int.toNat_natCast]; exact hc1)
   subst hX
   subst hY
   conv => whnf
   refine satq_mid (α := Unit) (fun _ => [(2, .p (.c (.ref 0 0))), (3, .p (.c (.ref 1 0))), (6, one (intV (j : Int)))]) (fun _ => sm14 A1 (some ⟨b0, o0, none⟩) A3 B1 (some ⟨b1, o1, none⟩) l m o c1 c2 c3 d1 d2) ?_ fun _ => ?_
   ·refine satq_block ?_
    refine satq_seqN ?_
    conv => whnf
    refine sat_quiet mixed (by kernel_rfl) ?_
    conv => whnf
    (refine ⟨⟨by omega, by omega⟩, ?_⟩; (conv=>whnf))
    refine ⟨_, e0, ?_⟩
    conv => whnf
    (refine ⟨⟨by omega, by omega⟩, ?_⟩; (conv=>whnf))
    refine ⟨_, e1, ?_⟩
    conv => whnf
    rw [show (y != y) = false from bne_self_eq_false y]
    refine satq_vcN ?_
    conv => whnf
    (repeat ((first | apply k1 | apply k2 | apply k3 | apply k4 | refine k5 (by decide) ?_ | refine k6 (by decide) ?_); conv => whnf))
    exact atq_block (atq_mid () (ent_same rfl (aI rfl (aI rfl (aI rfl trivial))) (aI (aI rfl (Or.inl rfl)) (aI (aI rfl (Or.inl rfl)) trivial))))
   refine satq_vcN ?_
   conv => whnf
   refine ⟨(j : Int) + 1, wr64 (by omega), ?_⟩
   conv => whnf
   exact atq_next ⟨j + 1, hlt⟩ (ent_same rfl (aI rfl (aI rfl (aI rfl trivial))) (aI (aI rfl (Or.inl rfl)) (aI (aI rfl (Or.inl rfl)) trivial))) (by show m.length - (j + 1) < m.length - j; omega)
  ·conv => whnf
   exact atq_out (atq_exit (atq_mid () (ent_same rfl (aI rfl (aI rfl trivial)) (aI (aI rfl (Or.inl rfl)) (aI (aI rfl (Or.inl rfl)) trivial)))))
 refine satq_vcN ?_
 conv => whnf
 refine atq_ret ?_
 conv => whnf
 exact fin_val rfl fun w2 hB => ⟨rfl, hB⟩
end Go.Proofs.YtnhdcclpjildjaaGreat
namespace Go.Proofs.YtnhdcclpjildjaaGreat
open Go.RowKit

section
variable {w0 : World} {S : List Ow} {K : AV → List Ow → Prop} {g n p : Nat} {gs : List Nat} {M : MemP}
theorem call_lift14 (pc most : Int) (hO : ObjsAt w0 (g :: gs) (memS 0 n p M)) (hM : M.ok n p) (hpc : word pc)
  (hK : K (.p (.agg [.row S.length, .row (S.length + 1)])) (S ++ [.view viewT (liftM M pc most).at_.length ((liftM M pc most).at_.map (.int .u32)), .view viewT (liftM M pc most).pages.length ((liftM M pc most).pages.map (.int .i64))])) : CallS Tryz.prog w0 Gs.nil 19 [one (.int .u32 pc), one (ptrV g), one (intV most)] S K := by
 refine ⟨by kernel_rfl, fun r w us hR hd => ?_⟩
 obtain rfl := avals_den (xs := [u32V pc, ptrV g, intV most]) rfl hd
 refine (lift14_walk M n p pc most w g gs (objs_later (memS_ob n p M) hO hR.toBelow) hM hpc).mono fun e w' ⟨A1, c1, A2, c2, he, t1, t2, ⟨p1, p2, p3⟩, ⟨p4, p5, p6⟩, hB⟩ => ?_
 have hk : ∀ (r' : Env) (B : Nat) (A : Option Addr) (b off : Nat), (∀ k x, r'.blk k = some x → x < w.heap.size) → Fresh w.heap.size A → A = some ⟨b, off, none⟩ → ∀ k, r'.blk k ≠ some b := fun r' B A b off h1 h2 h3 k h4 => by
  have := h1 k b h4
  have := h2 b off none h3
  omega
 have hlt : ∀ k x, r.blk k = some x → x < w.heap.size := fun k x h => (hR.new k x h).1
 have hlt1 : ∀ k x, (r.set S.length none (some (.slice A1 (liftM M pc most).at_.length c1))).blk k = some x → x < w.heap.size := fun k x h => by
  simp only [Env.set] at h
  split at h
  ·cases h
  ·exact hlt k x h
 have hlt2 : ∀ k x, ((r.set S.length none (some (.slice A1 (liftM M pc most).at_.length c1))).set (S.length + 1) none (some (.slice A2 (liftM M pc most).pages.length c2))).blk k = some x → x < w.heap.size := fun k x h => by
  simp only [Env.set] at h
  split at h
  ·cases h
  ·split at h
   ·cases h
   ·exact hlt k x h
 have h1 := hR.snoc (o := .view viewT (liftM M pc most).at_.length ((liftM M pc most).at_.map (.int .u32))) hB (b := none) (v := some (.slice A1 (liftM M pc most).at_.length c1)) nofun ⟨A1, c1, by simp [Env.set], p1, ⟨p2, trivial⟩, by simp [Env.set], fun j u hj => by
  obtain ⟨b, off, a1, a2, a3⟩ := t1 j u hj
  exact ⟨b, off, a1, a2, hk _ 0 A1 b off hlt1 p3 a1, a3⟩⟩
 have hlen : (S ++ [Ow.view viewT (liftM M pc most).at_.length ((liftM M pc most).at_.map (.int .u32))]).length = S.length + 1 := by simp
 have h2 := h1.snoc (o := .view viewT (liftM M pc most).pages.length ((liftM M pc most).pages.map (.int .i64))) (Below.refl _ _) (b := none) (v := some (.slice A2 (liftM M pc most).pages.length c2)) nofun (by
  rw [hlen]
  exact ⟨A2, c2, by simp [Env.set], p4, ⟨p5, trivial⟩, by simp [Env.set], fun j u hj => by
   obtain ⟨b, off, a1, a2, a3⟩ := t2 j u hj
   exact ⟨b, off, a1, a2, hk _ 0 A2 b off hlt2 p6 a1, a3⟩⟩)
 rw [hlen, List.append_assoc] at h2
 have l1 := hR.le_new none (some (.slice A1 (liftM M pc most).at_.length c1))
 have l2 := h1.le_new none (some (.slice A2 (liftM M pc most).pages.length c2))
 rw [hlen] at l2
 exact ⟨.p (.agg [.row S.length, .row (S.length + 1)]), _, _, _, he, ⟨[.slice A1 (liftM M pc most).at_.length c1, .slice A2 (liftM M pc most).pages.length c2], rfl, by simp [denL, CV.den, Env.set]⟩, h2, l1.trans l2, hK⟩
theorem call_same14 {G : Gs} (i1 i2 i3 j1 j2 : Nat) (b : Blk) (hb : b.ok) (h1 : S[i1]? = some (.row 35 1 b.at_.length (b.at_.map (.int .u32)))) (h2 : S[i2]? = some (.row 3 1 b.pages.length (b.pages.map (.int .i64)))) (h3 : S[i3]? = some (.row 45 5 b.ops.length (b.ops.flatMap opC)))
  (k1 : S[j1]? = some (.view viewT b.at_.length (b.at_.map (.int .u32)))) (k2 : S[j2]? = some (.view viewT b.pages.length (b.pages.map (.int .i64)))) (hK : K (one (.bool true)) S) : CallS Tryz.prog w0 G 18 [.p (.agg [.row i1, .row i2, .row i3]), .p (.agg [.row j1, .row j2])] S K := by
 refine callS_val (.bool true) (by kernel_rfl) (fun r w us hR hd => ?_) hK
 obtain ⟨u, l, rfl, d1, d2⟩ := hd
 obtain ⟨u', l', rfl, d3, d4⟩ := d2
 obtain rfl : l' = [] := d4
 obtain ⟨us, rfl, hl⟩ := den_agg d1
 obtain ⟨us', rfl, hl'⟩ := den_agg d3
 simp only [denL, CV.den] at hl hl'
 obtain ⟨u1, l1, rfl, e1, u2, l2, rfl, e2, u3, l3, rfl, e3, rfl⟩ := hl
 obtain ⟨v1, m1, rfl, f1, v2, m2, rfl, f2, rfl⟩ := hl'
 obtain ⟨A1, c1, rfl, s1, _⟩ := hR.rowAt h1 e1
 obtain ⟨A2, c2, rfl, s2, _⟩ := hR.rowAt h2 e2
 obtain ⟨A3, c3, rfl, s3, _⟩ := hR.rowAt h3 e3
 obtain ⟨B1, x1, y1, _, _, _, z1⟩ := hR.own j1 _ k1
 obtain ⟨B2, x2, y2, _, _, _, z2⟩ := hR.own j2 _ k2
 rw [f1] at y1; injection y1 with y1; subst y1
 rw [f2] at y2; injection y2 with y2; subst y2
 exact same14_walk A1 A2 A3 B1 B2 b.at_ b.pages b.ops.length c1 c2 c3 x1 x2 w hb.lat hb.lpages s1 s2 (fun j u hj => by
  obtain ⟨b, off, a1, a2, _, a4⟩ := z1 j u hj
  exact ⟨b, off, a1, a2, a4⟩) fun j u hj => by
  obtain ⟨b, off, a1, a2, _, a4⟩ := z2 j u hj
  exact ⟨b, off, a1, a2, a4⟩
end
abbrev u3T : TypeId := 48
set_option maxRecDepth 100000 in
set_option maxHeartbeats 8000000 in
theorem extents_law (A : Option Addr) (n c : Nat) (n0 n1 n2 n3 q0 q1 : Int) (hn : n < 9223372036854775808) (w : World) (hA : ProgAt w A n) : Calls Tryz.prog 4 #[.slice A n c, .agg #[intV n0, intV n1, intV n2, intV n3], .agg #[intV q0, intV q1]] w fun e w' => e = .returned (.bool true) ∧ Below w.heap.size w w' := by
 refine calls_satq [.slice A n c, .agg #[intV n0, intV n1, intV n2, intV n3], .agg #[intV q0, intV q1]] Tryz.func4 Tryz.ntmps4 rfl (by simp) ?_
 refine satq_seqN ?_
 conv => whnf
 refine satq_seqN ?_
 conv => whnf
 refine call_con (x := .bool true) rfl (by kernel_rfl) (fun r w' hR => sanity14 w') ?_
 conv => whnf
 refine satq_in (satq_jumpG 2 rfl rfl rfl ?_)
 conv => whnf
 refine ⟨by kernel_rfl, fun r w1 us hR hd => ?_⟩
 obtain rfl := avals_den (xs := [.slice A n c, .agg #[intV n0, intV n1, intV n2, intV n3]]) rfl hd
 have hB := hR.toBelow
 obtain ⟨b5, vs, e1, e2, e3⟩ := hR.own 1 _ rfl
 obtain rfl := denL_vals_inv (us := [intV q0, intV q1]) e3
 refine (laid_walk w1 A n c n0 n1 n2 n3 hn (hA.later hB)).mono fun e w2 ⟨g, gs, s, M, he, hs, hpc, hst, hM, hn2⟩ => ?_
 have hB2 := hn2.below
 have hq5 : w2.heap[b5]? = some (.cells #[intV q0, intV q1] twoIT (0, 0)) := (hB2.block b5 (heap_lt e2)).trans e2
 have hBB : Below w.heap.size w w2 := hB.trans (hB2.mono hB.size)
 obtain ⟨g1, qs, hg, hO⟩ := cpu_plain hn2.at_
 refine ⟨_, one (ptrV g), w2, Gs.nil, [(5, one (ptrV b5)), (7, one (.bool true))], [], Env.none, he, rel_none w2, fun a hf => frDen ⟨slot_plain hf 5 rfl e1, slot_same hf 7 rfl, trivial⟩, den_one _ _, ?_⟩
 conv => whnf
 refine atq_on ?_
 have hg1 : CellsAt w2 Gs.nil g 24 [ptrV g1] := block_cells (us := stL s [] ++ [ptrV g1]) hg rfl
 have hq0w : word (q0 % 4294967296) := by unfold word; omega
 refine satq_mid (α := { x : Int × Int // word x.1 ∧ word x.2 }) (fun _ => [(5, one (ptrV b5)), (7, one (.bool true)), (8, one (ptrV g)), (9, .p (.c (.ref 0 0)))]) (fun x => [.cells u3T [.v (u32V x.1.1), .v (u32V (q0 % 4294967296)), .v (u32V x.1.2)]]) ?_ fun x => ?_
 ·refine satq_vcN ?_
  conv => whnf
  refine sat_anyG (.q 0 (.q 1 (.q 6 (.q 7 (.q 8 (.q 9 (.q 10 (.q 11 (.q 12 (.q 13 (.alt 2 (.q 3 (.q 4 (.q 5 (.alt 14 (.alt 15 (.alt 16 .done .no) .no) (.alt 15 (.alt 14 (.alt 16 .done .no) .no) .no))))) (.alt 15 (.alt 2 (.q 3 (.q 4 (.q 5 (.alt 14 (.alt 16 .done .no) .no)))) .no) .no)))))))))))) mixed (by kernel_rfl) (by kernel_rfl) ?_
  conv => whnf
  refine q_index_ptr (size := 1) b5 0 2 0 rfl rfl rfl rfl rfl rfl (by decide) (by decide) ?_
  conv => whnf
  refine ⟨intV q0, block_cells (off := 0) (us := [intV q0, intV q1]) hq5 rfl, ?_⟩
  conv => whnf
  refine q_index_ptr (size := 1) b5 0 2 0 rfl rfl rfl rfl rfl rfl (by decide) (by decide) ?_
  conv => whnf
  refine ⟨intV q0, block_cells (off := 0) (us := [intV q0, intV q1]) hq5 rfl, ?_⟩
  conv => whnf
  refine ⟨q0 % 4294967296, by rw [wr32], ?_⟩
  conv => whnf
  refine q_index_ptr (size := 1) b5 0 2 0 rfl rfl rfl rfl rfl rfl (by decide) (by decide) ?_
  conv => whnf
  refine ⟨intV q0, block_cells (off := 0) (us := [intV q0, intV q1]) hq5 rfl, ?_⟩
  conv => whnf
  refine ⟨by decide, ex_gen fun m hm => ?_⟩
  conv => whnf
  refine ex_gen fun m2 hm2 => ?_
  conv => whnf
  refine ex_gen fun x2 hx2 => ?_
  have hx2w : word x2 := by rw [← hx2, wr32]; unfold word; omega
  conv => whnf
  repeat' (first
   | (refine call_con (x := intV (q0 % 100)) rfl (by kernel_rfl) (fun r w' hR => mod_ref q0 100 w' (by decide)) ?_; (conv=>whnf); refine ex_gen fun a1 ha1 => ?_; (conv=>whnf); refine ex_gen fun a2 ha2 => ?_; (conv=>whnf); refine ex_gen fun x1 hx1 => ?_; have hx1w : word x1 := (by rw [← hx1, wr32]; unfold word; omega); conv => whnf)
   | (refine ⟨?_, trivial⟩; conv => whnf)
   | (refine ⟨?_, ?_, trivial⟩ <;> conv => whnf)
   | fail)
  all_goals exact atq_mid ⟨(x1, x2), hx1w, hx2w⟩ (ent_same rfl (aI rfl (aI rfl (aI rfl (aI rfl trivial)))) (aI (aI rfl (Or.inl rfl)) trivial))
 obtain ⟨⟨x1, x2⟩, hx1w, hx2w⟩ := x
 dsimp only at hx1w hx2w ⊢
 refine satq_restart fun r w3 hR3 => ?_
 have hB23 := hR3.toBelow
 have hB3 : Below w.heap.size w w3 := hBB.trans (hB23.mono hBB.size)
 have hO3 := objs_later (memS_ob 1792 7 M) hO hB23
 have hg3 : w3.heap[g]? = some (.cells (stL s [] ++ [ptrV g1]).toArray cpuT (0, 0)) := (hB23.block g (heap_lt hg)).trans hg
 have hq53 : w3.heap[b5]? = some (.cells #[intV q0, intV q1] twoIT (0, 0)) := (hB23.block b5 (heap_lt hq5)).trans hq5
 obtain ⟨b9, vs9, k1, k2, k3⟩ := hR3.own 0 _ rfl
 obtain rfl := denL_vals_inv (us := [u32V x1, u32V (q0 % 4294967296), u32V x2]) k3
 refine ⟨[(5, one (ptrV b5)), (7, one (.bool true)), (8, one (ptrV g)), (9, one (ptrV b9))], fun a hf => frDen ⟨slot_same hf 5 rfl, slot_same hf 7 rfl, slot_same hf 8 rfl, slot_plain hf 9 rfl k1, trivial⟩, ?_⟩
 clear hR3
 have hg31 : CellsAt w3 Gs.nil g 24 [ptrV g1] := block_cells (us := stL s [] ++ [ptrV g1]) hg3 rfl
 have hpcs : ∀ j : Nat, j < 3 → ∃ pc, word pc ∧ [u32V x1, u32V (q0 % 4294967296), u32V x2][j]? = some (u32V pc) := fun j hj => by
  rcases (by omega : j = 0 ∨ j = 1 ∨ j = 2) with rfl | rfl | rfl
  ·exact ⟨x1, hx1w, rfl⟩
  ·exact ⟨_, hq0w, rfl⟩
  ·exact ⟨x2, hx2w, rfl⟩
 refine satq_mid (α := Unit) (fun _ => [(7, one (.bool true))]) (fun _ => []) ?_ fun _ => ?_
 ·refine satq_seqN ?_
  conv => whnf
  refine satq_block ?_
  refine satq_loop (α := { x : Nat // x ≤ 3 }) (fun x => [(5, one (ptrV b5)), (7, one (.bool true)), (8, one (ptrV g)), (9, one (ptrV b9)), (10, one (intV (x.1 : Int)))]) (fun _ => []) (fun x => 3 - x.1)
   ⟨0, by omega⟩ (ent_same rfl (aI rfl (aI rfl (aI rfl (aI rfl (aI rfl trivial))))) trivial) fun x => ?_
  obtain ⟨j, hj⟩ := x
  dsimp only
  refine satq_seqN ?_
  conv => whnf
  refine ⟨fun hc => ?_, fun hc => ?_⟩
  ·have hlt : j < 3 := by simp at hc; omega
   obtain ⟨pc, hpcw, hpcj⟩ := hpcs j hlt
   have hcj : CellsAt w3 Gs.nil b9 (0 + (j : Int).toNat * 1) [u32V pc] := block_cells k2 (by rw [Int.toNat_natCast, Nat.mul_one, Nat.zero_add]; exact hpcj)
   obtain ⟨bl, hbl⟩ : ∃ bl, bl = liftM M pc q1 := ⟨_, rfl⟩
   have hbok : bl.ok := by rw [hbl]; exact (liftM_ok hM pc q1).1
   conv => whnf
   refine satq_in (satq_block ?_)
   refine satq_mid (α := Unit) (fun _ => [(5, one (ptrV b5)), (7, one (.bool true)), (8, one (ptrV g)), (9, one (ptrV b9)), (10, one (intV (j : Int))), (11, .p (.c (.ref 0 0))), (12, one (.bool true))]) (fun _ => .cells blT [.row 1, .row 2, .row 3] :: blkRows bl) ?_ fun _ => ?_
   ·refine satq_vcN ?_
    conv => whnf
    refine sat_anyG (.q 0 (.q 1 (.q 2 (.q 3 (.q 4 (.q 5 (.q 6 (.q 7 (.q 8 (.alt 9 (.q 10 (.alt 11 (.alt 12 (.alt 13 (.alt 14 (.alt 15 .done .no) .no) .no) (.alt 13 (.alt 12 (.alt 14 (.alt 15 .done .no) .no) (.alt 14 (.alt 12 (.alt 15 .done .no) .no) .no)) .no)) (.alt 12 (.alt 11 (.alt 13 (.alt 14 (.alt 15 .done .no) .no) .no) (.alt 13 (.alt 11 (.alt 14 (.alt 15 .done .no) .no) .no) .no)) (.alt 13 (.alt 11 (.alt 12 (.alt 14 (.alt 15 .done .no) .no) (.alt 14 (.alt 12 (.alt 15 .done .no) .no) .no)) (.alt 12 (.alt 11 (.alt 14 (.alt 15 .done .no) .no) .no) .no)) .no)))) (.alt 13 (.alt 9 (.q 10 (.alt 11 (.alt 12 (.alt 14 (.alt 15 .done .no) .no) (.alt 14 (.alt 12 (.alt 15 .done .no) .no) .no)) (.alt 12 (.alt 11 (.alt 14 (.alt 15 .done .no) .no) .no) .no))) .no) .no))))))))))) mixed (by kernel_rfl) (by kernel_rfl) ?_
    conv => whnf
    refine q_index_ptr (size := 1) b9 0 3 j rfl rfl rfl rfl rfl rfl (by omega) (by show (j : Int) < 3; omega) ?_
    conv => whnf
    refine ⟨_, hcj, ?_⟩
    conv => whnf
    refine ⟨_, hg31, ?_⟩
    conv => whnf
    refine q_index_ptr (size := 1) b5 0 2 1 rfl rfl rfl rfl rfl rfl (by decide) (by decide) ?_
    conv => whnf
    refine ⟨intV q1, block_cells (off := 1) (us := [intV q0, intV q1]) hq53 rfl, ?_⟩
    conv => whnf
    repeat' (first
     | (refine call_liftedP _ q1 hO3 hM (by decide) hpcw ?_; rw [← hbl]; conv => whnf)
     | (refine ⟨?_, trivial⟩; conv => whnf)
     | (refine ⟨?_, ?_, trivial⟩ <;> conv => whnf)
     | (refine ⟨?_, ?_, ?_, trivial⟩ <;> conv => whnf)
     | refine atq_mid () (holdE ?_)
     | fail)
    all_goals first
     | exact Or.inl (ent_same rfl (aI rfl (aI rfl (aI rfl (aI rfl (aI rfl (aI rfl (aI rfl trivial))))))) (aI (aI rfl (Or.inl rfl)) (aI ((aI rfl (aI rfl (aI rfl rfl)))) (aI ((aI rfl (aI rfl (aI rfl rfl)))) (aI ((aI rfl (aI rfl (aI rfl rfl)))) trivial)))))
     | exact Or.inl (ent_ren [3, 0, 1, 2] (aI rfl (aI rfl (aI rfl (aI rfl (aI rfl (aI rfl (aI rfl trivial))))))) (aI ((Exists.intro _ (aI rfl (aI rfl (Or.inl rfl))))) (aI ((Exists.intro _ (aI rfl (aI rfl (aI rfl (aI rfl rfl)))))) (aI ((Exists.intro _ (aI rfl (aI rfl (aI rfl (aI rfl rfl)))))) (aI ((Exists.intro _ (aI rfl (aI rfl (aI rfl (aI rfl rfl)))))) trivial)))) rfl rfl rfl rfl rfl)
     | fail
   refine satq_mid (α := Unit) (fun _ => [(5, one (ptrV b5)), (7, one (.bool true)), (8, one (ptrV g)), (9, one (ptrV b9)), (10, one (intV (j : Int))), (12, one (.bool true)), (13, one (.bool true))]) (fun _ => []) ?_ fun _ => ?_
   ·refine satq_vcN ?_
    conv => whnf
    refine sat_anyG (.q 1 (.q 2 (.q 3 (.q 4 (.q 5 (.q 6 (.q 7 (.q 8 (.q 9 (.alt 0 (.alt 10 (.alt 11 (.alt 12 .done .no) .no) .no) (.alt 10 (.alt 0 (.alt 11 (.alt 12 .done .no) .no) .no) .no))))))))))) mixed (by kernel_rfl) (by kernel_rfl) ?_
    conv => whnf
    refine q_index_ptr (size := 1) b9 0 3 j rfl rfl rfl rfl rfl rfl (by omega) (by show (j : Int) < 3; omega) ?_
    conv => whnf
    refine ⟨_, hcj, ?_⟩
    conv => whnf
    refine ⟨_, hg31, ?_⟩
    conv => whnf
    refine q_index_ptr (size := 1) b5 0 2 1 rfl rfl rfl rfl rfl rfl (by decide) (by decide) ?_
    conv => whnf
    refine ⟨intV q1, block_cells (off := 1) (us := [intV q0, intV q1]) hq53 rfl, ?_⟩
    conv => whnf
    repeat' (first
     | (refine call_lift14 _ q1 hO3 hM hpcw ?_; rw [← hbl]; conv => whnf)
     | (refine call_same14 1 2 3 4 5 bl hbok rfl rfl rfl rfl rfl ?_; conv => whnf)
     | (refine ⟨?_, trivial⟩; conv => whnf)
     | (refine ⟨?_, ?_, trivial⟩ <;> conv => whnf)
     | exact atq_mid () (ent_drop (aI rfl (aI rfl (aI rfl (aI rfl (aI rfl (aI rfl (aI rfl trivial))))))) trivial rfl rfl)
     | fail)
   refine satq_vcN ?_
   conv => whnf
   (repeat ((first | apply k1 | apply k2 | apply k3 | apply k4 | refine k5 (by decide) ?_ | refine k6 (by decide) ?_); conv => whnf))
   refine atq_block (atq_on ?_)
   refine satq_vcN ?_
   conv => whnf
   refine ⟨(j : Int) + 1, wr64 (by omega), ?_⟩
   conv => whnf
   exact atq_next ⟨j + 1, hlt⟩ (ent_same rfl (aI rfl (aI rfl (aI rfl (aI rfl (aI rfl trivial))))) trivial) (by show 3 - (j + 1) < 3 - j; omega)
  ·conv => whnf
   exact atq_out (atq_exit (atq_mid () (ent_same rfl (aI rfl trivial) trivial)))
 refine satq_vcN ?_
 conv => whnf
 refine atq_ret ?_
 conv => whnf
 exact fin_val rfl fun w4 hB => ⟨rfl, hB3.trans (hB.mono hB3.size)⟩
end Go.Proofs.YtnhdcclpjildjaaGreat
namespace Go.Proofs.YtnhdcclpjildjaaGreat
open Go.ChangeShapes Go.WideShapes Go.ChangeAt Go.RowKit

set_option maxRecDepth 100000 in
theorem qliftExtents_lifted (os : Os) (started : os.Started) (H : Type) (enc : TypeId × Value → H) :
  ReturnsInHanded {} Tryz.checked os 4 .any (Rows.qliftExtentsSpec.pre6 enc Tryz.prog Tryz.f4 Rows.qliftExtentsRow.domain false) (Rows.qliftExtentsSpec.post enc Tryz.prog Tryz.f4 false true false false) := by
 refine returnsInHanded_of_change (C := Tryz.checked) ownK started (by kernel_rfl) Tryz.func4
  (ChangeSpec.witness6 (enc := enc) (C := Tryz.checked) false ⟨#[], #[.slice none 0 0, .agg #[.int .i64 0, .int .i64 0, .int .i64 0, .int .i64 0], .agg #[.int .i64 0, .int .i64 0]], []⟩ 8 (by kernel_rfl) (by kernel_rfl) (by kernel_rfl) (by kernel_rfl)) ?_
 intro W base args ds gs before hval0 hW hcnd _
 have hval : ∀ (j : Nat) t v, Tryz.f4.params[j]? = some t → args[j]? = some v → Value.okWide Tryz.prog W .any base t v := hval0
 have hW' := hW
 obtain ⟨p, q, hA0, hV, rfl, hfz, hnd⟩ := hW
 have hA : DataW.TrodAll enc Tryz.prog W 0 (fun _ => true) true Tryz.f4.params.toList args.toList ds p := hA0
 rw [Tryz.params4] at hA hval
 obtain ⟨v0, vs0, d0, ds0, p0, q0, hargs, rfl, rfl, h0, r0⟩ := trodAll_cons hA
 obtain ⟨v1, vs1, d1, ds1, p1, q1, rfl, rfl, rfl, h1, r1⟩ := trodAll_cons r0
 obtain ⟨v2, vs2, d2, ds2, p2, q2, rfl, rfl, rfl, h2, r2⟩ := trodAll_cons r1
 obtain ⟨rfl, rfl, rfl⟩ := trodAll_nil r2
 obtain rfl : args = #[v0, v1, v2] := by cases args; simp_all
 obtain ⟨rfl, rfl⟩ := trodVars_none hV
 clear hA0
 obtain ⟨a0, l0, c0, rfl⟩ := okWide_slice Tryz.underlying22 (hval 0 22 v0 rfl rfl)
 obtain ⟨hA0, hn0⟩ := open_prog h0
 obtain ⟨y10, y11, y12, y13, rfl, _⟩ := open_n4 (hval 1 23 v1 rfl rfl) h1
 obtain ⟨y20, y21, rfl, _⟩ := open_q2 (hval 2 24 v2 rfl rfl) h2
 have k0 := h0
 have k1 := h1
 have k2 := h2
 have lt0 : ∀ x ∈ p0, x.block < W.heap.size := by obtain ⟨m, hm⟩ := k0; exact DataW.trod_lt m _ _ _ hm
 have lt1 : ∀ x ∈ p1, x.block < W.heap.size := by obtain ⟨m, hm⟩ := k1; exact DataW.trod_lt m _ _ _ hm
 have lt2 : ∀ x ∈ p2, x.block < W.heap.size := by obtain ⟨m, hm⟩ := k2; exact DataW.trod_lt m _ _ _ hm
 clear hval0
 refine (extents_law a0 l0 c0 y10 y11 y12 y13 y20 y21 hn0 W hA0).mono fun e W' ⟨he, bel⟩ => ?_
 subst he
 exact ⟨_, rfl, _, _, _, [], _, [], hW', trodAll_mk1 (shut_bool Tryz.underlying4 _), (trodAll_cons_mk (Below.trod laidOutP (by kernel_rfl) (of_decide_eq_true (by kernel_rfl)) k0 bel lt0) (trodAll_cons_mk (Below.trod laidOutP (by kernel_rfl) (of_decide_eq_true (by kernel_rfl)) k1 bel lt1) (trodAll_cons_mk (Below.trod laidOutP (by kernel_rfl) (of_decide_eq_true (by kernel_rfl)) k2 bel lt2) trodAll_mk0))), rfl, bel.frame _, fun h => by cases h⟩
theorem qliftExtents_holds : Rows.QliftExtentsSaid :=
 OpenClaim.holds_of_wide 4 Tryz.f4 rfl rfl rfl rfl rfl rfl rfl ⟨rfl, rfl, rfl, rfl, rfl⟩ rfl rfl rfl rfl rfl (by kernel_rfl) Tryz.func4 (by kernel_rfl)
  (of_decide_eq_true (by kernel_rfl)) (by unfold Func.isWrapper; first | (rw [if_pos (by decide +kernel)]; kernel_rfl) | (rw [if_neg (by decide +kernel)]; exact ⟨rfl, rfl⟩))
  (fun os started H enc _ => qliftExtents_lifted os started H enc)
end Go.Proofs.YtnhdcclpjildjaaGreat
#print axioms Go.Proofs.YtnhdcclpjildjaaGreat.qliftExtents_holds
