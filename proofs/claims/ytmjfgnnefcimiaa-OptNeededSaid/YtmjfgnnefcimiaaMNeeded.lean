/- Walks: the law OptNeeded: what Dead leaves is needed. In the result of Dead every pure operation writes a variable that is live after it: for every input, without any condition. -/
import Derived.Test.YtmjfgnnefcimiaaM14
namespace Go.Proofs.Ytmjfgnnefcimiaa
open Go.RowKit

set_option maxRecDepth 100000 in
theorem needed_law (A : Option Addr) (n c : Nat) (xs : List Int) (q0 q1 q2 : Int) (w : World) (hs : SlAt w w.heap.size A (xs.map (.int .i64))) (hl : xs.length = n) (hnc : n ≤ c) :
    Calls Try.prog 9 #[.slice A n c, .agg #[.int .i64 q0, .int .i64 q1, .int .i64 q2]] w fun e w' => e = .returned (.bool true) ∧ Below w.heap.size w w' := by
  refine calls_satq [.slice A n c, .agg #[.int .i64 q0, .int .i64 q1, .int .i64 q2]] Try.func9 Try.ntmps9 rfl (by simp) ?_
  refine satq_seq ?_
  conv => whnf
  refine satq_seq ?_
  conv => whnf
  refine call_con rfl (by kernel_rfl) (fun r w' hR => sanity_law w') ?_
  conv => whnf
  refine satq_restart fun r w1 hR => ?_
  obtain ⟨g3, us3, b3, d3, k3⟩ := own_cellsAt hR 0 rfl
  obtain rfl := denL_vals_inv (us := [.int .i64 q0, .int .i64 q1, .int .i64 q2]) d3
  have hB0 := hR.toBelow
  refine ⟨slotFr [(0, .slice A n c), (3, .pointer (some ⟨g3, 0, none⟩)), (5, .bool true)], fun a hf => slots_den ⟨slot_val hf rfl, slot_ref hf 3 rfl b3, slot_val hf rfl, trivial⟩, ?_⟩
  have hs1 := sl_later hs hB0
  clear hR b3 d3
  refine satq_mid (α := { y : Blk // TurnOk y }) (fun y => [(5, one (.bool true)), (6, .p (.c (.ref 3 0)))]) (fun y => blkRows y.1 ++ [.cells 32 [.row 0, .row 1, .row 2]]) ?_ fun y => ?_
  · refine satq_vc ?_
    refine sat_any (.q 0 (.q 2 (.alt 1 (.alt 3 (.alt 4 (.alt 5 .done .no) .no) (.alt 4 (.alt 3 (.alt 5 .done .no) .no) .no)) (.alt 4 (.alt 1 (.alt 3 (.alt 5 .done .no) .no) .no) .no)))) mixed (by kernel_rfl) (by kernel_rfl) ?_
    conv => whnf
    refine ⟨_, k3, rfl, ?_⟩
    conv => whnf
    refine ⟨?_, ?_, trivial⟩
    · conv => whnf
      refine call_blk MadeOk (by kernel_rfl) (fun r w' us hR hd => ?_) fun b hb => ?_
      · obtain rfl := avals_den (xs := [.slice A n c]) rfl hd
        exact made_walk A n c xs w' (sl_later hs1 hR.toBelow) hl hnc
      conv => whnf
      refine ⟨?_, ?_, trivial⟩
      · conv => whnf
        refine call_turned 0 1 2 b q0 q1 q2 rfl rfl rfl hb fun y hy => ?_
        conv => whnf
        refine ⟨?_, trivial⟩
        conv => whnf
        refine ⟨?_, trivial⟩
        conv => whnf
        exact atq_mid ⟨y, hy⟩ (ent_ren [3, 4, 5, 6] (And.intro (rfl) (And.intro (rfl) trivial)) (And.intro ((Exists.intro _ (And.intro rfl (And.intro rfl (And.intro rfl (And.intro (rfl) (rfl))))))) (And.intro ((Exists.intro _ (And.intro rfl (And.intro rfl (And.intro rfl (And.intro (rfl) (rfl))))))) (And.intro ((Exists.intro _ (And.intro rfl (And.intro rfl (And.intro rfl (And.intro (rfl) (rfl))))))) (And.intro ((Exists.intro _ (And.intro rfl (And.intro rfl (Or.inl rfl))))) trivial)))) rfl rfl rfl rfl rfl)
      · conv => whnf
        refine ⟨?_, trivial⟩
        conv => whnf
        refine call_turned 0 1 2 b q0 q1 q2 rfl rfl rfl hb fun y hy => ?_
        conv => whnf
        refine ⟨?_, trivial⟩
        conv => whnf
        exact atq_mid ⟨y, hy⟩ (ent_ren [4, 5, 6, 3] (And.intro (rfl) (And.intro (rfl) trivial)) (And.intro ((Exists.intro _ (And.intro rfl (And.intro rfl (And.intro rfl (And.intro (rfl) (rfl))))))) (And.intro ((Exists.intro _ (And.intro rfl (And.intro rfl (And.intro rfl (And.intro (rfl) (rfl))))))) (And.intro ((Exists.intro _ (And.intro rfl (And.intro rfl (And.intro rfl (And.intro (rfl) (rfl))))))) (And.intro ((Exists.intro _ (And.intro rfl (And.intro rfl (Or.inl rfl))))) trivial)))) rfl rfl rfl rfl rfl)
    · conv => whnf
      refine ⟨?_, trivial⟩
      conv => whnf
      refine call_blk MadeOk (by kernel_rfl) (fun r w' us hR hd => ?_) fun b hb => ?_
      · obtain rfl := avals_den (xs := [.slice A n c]) rfl hd
        exact made_walk A n c xs w' (sl_later hs1 hR.toBelow) hl hnc
      conv => whnf
      refine ⟨?_, trivial⟩
      conv => whnf
      refine call_turned 1 2 3 b q0 q1 q2 rfl rfl rfl hb fun y hy => ?_
      conv => whnf
      refine ⟨?_, trivial⟩
      conv => whnf
      exact atq_mid ⟨y, hy⟩ (ent_ren [4, 5, 6, 0] (And.intro (rfl) (And.intro (rfl) trivial)) (And.intro ((Exists.intro _ (And.intro rfl (And.intro rfl (And.intro rfl (And.intro (rfl) (rfl))))))) (And.intro ((Exists.intro _ (And.intro rfl (And.intro rfl (And.intro rfl (And.intro (rfl) (rfl))))))) (And.intro ((Exists.intro _ (And.intro rfl (And.intro rfl (And.intro rfl (And.intro (rfl) (rfl))))))) (And.intro ((Exists.intro _ (And.intro rfl (And.intro rfl (Or.inl rfl))))) trivial)))) rfl rfl rfl rfl rfl)
  obtain ⟨b, hb⟩ := y
  dsimp only
  refine satq_restart fun r w2 hR => ?_
  obtain ⟨g6, A1, c1, A2, c2, A3, c3, b6, k6, s1, s2, s3, m1, m2⟩ := own_blkRows hR 3 0 1 2 b rfl rfl rfl rfl
  have hB1 : Below w.heap.size w w2 := hB0.trans (hR.toBelow.mono hB0.size)
  refine ⟨slotFr [(5, .bool true), (6, .pointer (some ⟨g6, 0, none⟩))], fun a hf => slots_den ⟨slot_val hf rfl, slot_ref hf 6 rfl b6, trivial⟩, ?_⟩
  clear hR b6 k3 hs1 hs
  refine satq_seq ?_
  conv => whnf
  refine ⟨_, k6, rfl, ?_⟩
  conv => whnf
  refine call_pass_pl dead_pass (by kernel_rfl) hb.ok dead_nil rfl rfl rfl s1 s2 s3 m1 m2 ?_
  conv => whnf
  refine satq_seq ?_
  conv => whnf
  refine ⟨_, k6, rfl, ?_⟩
  conv => whnf
  refine call_con rfl (by kernel_rfl) (fun r w' hR => valid_ref A1 A2 A3 c1 c2 c3 b w' hb.ok (sl_later s2 hR.toBelow) (sl_later s3 hR.toBelow)) ?_
  rw [valid_same]
  conv => whnf
  refine ⟨fun hv => ?_, fun hv => ?_⟩
  · have hv : validB b = false := by simpa using hv
    have hF : deadAll b = b.ops := by unfold deadAll; rw [hv]; rfl
    rw [hF]
    conv => whnf
    refine ⟨true, fun _ => ?_, ?_⟩
    · conv => whnf
      refine ⟨_, k6, rfl, ?_⟩
      conv => whnf
      refine call_blkV2 (x := .bool true) 0 rfl (by kernel_rfl) (fun r w' A4 c4 hR h4 e1 e2 => ?_) ?_
      · refine (same_ref A1 A2 A3 A1 A2 A4 c1 c2 c3 c1 c2 c4 b b w' hb.ok.lat hb.ok.lpages hb.ok.lops (sl_later s1 hR.toBelow) (sl_later s2 hR.toBelow) (sl_later s3 hR.toBelow) (sl_later s1 hR.toBelow) (sl_later s2 hR.toBelow) h4).mono fun e w'' ⟨h, hB⟩ => ⟨?_, hB⟩
        rw [h, sameB_self]
      conv => whnf
      exact ⟨rfl, rfl, rfl, rfl, rfl⟩
    conv => whnf
    refine atq_ret ?_
    conv => whnf
    exact fin_val rfl fun w' hB => ⟨rfl, hB1.trans (hB.mono hB1.size)⟩
  conv => whnf
  refine satq_vc ?_
  conv => whnf
  refine ⟨true, fun _ => ?_, ?_⟩
  · conv => whnf
    refine call_blkV (x := .bool true) 0 rfl (by kernel_rfl) (fun r w' A4 c4 hR h4 e1 e2 => ?_) ?_
    · refine (needed_walk (deadAll b) A1 A2 A4 b.at_.length b.pages.length c1 c2 c4 w' h4 (Nat.le_trans (deadAll_length b) hb.ok.lops)).mono fun e w'' ⟨h, hB⟩ => ⟨?_, hB⟩
      rw [h, dead_law (by simpa using hv)]
    conv => whnf
    exact ⟨rfl, rfl, rfl, rfl, rfl⟩
  conv => whnf
  refine atq_ret ?_
  conv => whnf
  exact fin_val rfl fun w' hB => ⟨rfl, hB1.trans (hB.mono hB1.size)⟩
end Go.Proofs.Ytmjfgnnefcimiaa
namespace Go.Proofs.Ytmjfgnnefcimiaa
open Go.ChangeShapes Go.WideShapes Go.ChangeAt Go.RowKit

set_option maxRecDepth 100000 in
theorem optNeeded_lifted (os : Os) (started : os.Started) (H : Type) (enc : TypeId × Value → H) :
    ReturnsInHanded {} Try.checked os 9 .any (Rows.optNeededSpec.pre6 enc Try.prog Try.f9 Rows.optNeededRow.domain false) (Rows.optNeededSpec.post enc Try.prog Try.f9 false true false false) := by
  refine returnsInHanded_of_change (C := Try.checked) ownK started (by kernel_rfl) Try.func9
    (ChangeSpec.witness6 (enc := enc) (C := Try.checked) false ⟨#[], #[.slice none 0 0, .agg #[.int .i64 0, .int .i64 0, .int .i64 0]], []⟩ 8 (by kernel_rfl) (by kernel_rfl) (by kernel_rfl) (by kernel_rfl)) ?_
  intro W base args ds gs before hval0 hW hcnd _
  have hval : ∀ (j : Nat) t v, Try.f9.params[j]? = some t → args[j]? = some v → Value.okWide Try.prog W .any base t v := hval0
  have hW' := hW
  obtain ⟨p, q, hA0, hV, rfl, hfz, hnd⟩ := hW
  have hA : DataW.TrodAll enc Try.prog W 0 (fun _ => true) true Try.f9.params.toList args.toList ds p := hA0
  rw [Try.params9] at hA hval
  obtain ⟨v0, vs0, d0, ds0, p0, q0, hargs, rfl, rfl, h0, r0⟩ := trodAll_cons hA
  obtain ⟨v1, vs1, d1, ds1, p1, q1, rfl, rfl, rfl, h1, r1⟩ := trodAll_cons r0
  obtain ⟨rfl, rfl, rfl⟩ := trodAll_nil r1
  obtain rfl : args = #[v0, v1] := by cases args; simp_all
  obtain ⟨rfl, rfl⟩ := trodVars_none hV
  obtain ⟨a0, len0, cap0, rfl⟩ := okWide_slice Try.underlying22 (hval 0 22 v0 rfl rfl)
  have k0 := h0
  have k1 := h1
  have lt0 : ∀ x ∈ p0, x.block < W.heap.size := by obtain ⟨m, hm⟩ := k0; exact DataW.trod_lt m _ _ _ hm
  have lt1 : ∀ x ∈ p1, x.block < W.heap.size := by obtain ⟨m, hm⟩ := k1; exact DataW.trod_lt m _ _ _ hm
  obtain ⟨xs, w0, hl, hnc⟩ := open_sl h0
  obtain ⟨x, y, z, rfl⟩ := open_q (hval 1 23 v1 rfl rfl) h1
  clear hA0 hval0
  refine (needed_law a0 len0 cap0 xs x y z W w0 hl hnc).mono fun e W' ⟨he, bel⟩ => ?_
  subst he
  exact ⟨_, rfl, _, _, _, [], _, [], hW', trodAll_mk1 (shut_bool Try.underlying4 _), (trodAll_cons_mk (Below.trod laidOutP (by kernel_rfl) (of_decide_eq_true (by kernel_rfl)) k0 bel lt0) (trodAll_cons_mk (Below.trod laidOutP (by kernel_rfl) (of_decide_eq_true (by kernel_rfl)) k1 bel lt1) trodAll_mk0)), rfl, bel.frame _, fun h => by cases h⟩
theorem optNeeded_holds : Rows.OptNeededSaid :=
  OpenClaim.holds_of_wide 9 Try.f9 rfl rfl rfl rfl rfl rfl rfl ⟨rfl, rfl, rfl, rfl, rfl⟩ rfl rfl rfl rfl rfl (by kernel_rfl) Try.func9 (by kernel_rfl)
    (of_decide_eq_true (by kernel_rfl)) (by unfold Func.isWrapper; first | (rw [if_pos (by decide +kernel)]; kernel_rfl) | (rw [if_neg (by decide +kernel)]; exact ⟨rfl, rfl⟩))
    (fun os started H enc _ => optNeeded_lifted os started H enc)
#print axioms optNeeded_holds
end Go.Proofs.Ytmjfgnnefcimiaa
