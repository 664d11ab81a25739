/- Regions whose order is drawn: operations that read, and calls that leave alone what lay there, in whatever order, then operations in a forced order. Maps of the call's own, over states that are known part by part. States seen from a later world; entries that only cells hold; frames that name only some entries. Code walked piece by piece with any post; a range over slices.Backward. Blocks, passes over them, calls that turn a map: over states that are known part by part. -/
import Derived.RangeFuncBound
import Derived.RangeFuncLeaves
import Derived.Test.YtmjfgnnefcimiaaK1
import Derived.Test.YtmjfgnnefcimiaaK14
import Derived.Test.YtmjfgnnefcimiaaK17
import Derived.Test.YtmjfgnnefcimiaaK19
import Derived.Test.YtmjfgnnefcimiaaK20
import Derived.Test.YtmjfgnnefcimiaaK3
import Derived.Test.YtmjfgnnefcimiaaK6
namespace Go.Proofs.Ytmjfgnnefcimiaa
open Go.RowKit

section
variable {P : Program} {ops : Array Oper} {md : Region.Mode} {C : World → Prop}
/-- Whichever of the first n operations comes up, f times. -/
def headAny (P : Program) (md : Region.Mode) (ops : Array Oper) (C : World → Prop) (n : Nat) (L : Array Bool → Act → Prop) : Nat → Array Bool → Act → Prop
  | 0, listed, a => L listed a
  | f + 1, listed, a => Region.ready md ops listed ≠ [] ∧ ∀ i ∈ Region.ready md ops listed, i < n ∧ qOp P ops C i (headAny P md ops C n L f (listed.setIfInBounds i true)) a
theorem headAny_any {n g : Nat} {L : Array Bool → Act → Prop} {Q' : Exit → Act → World → Prop} (hL : ∀ listed a w, C w → L listed a → wpAny P md ops Q' g listed a w) :
    ∀ (f : Nat) (listed : Array Bool) (a : Act) (w : World), C w → headAny P md ops C n L f listed a → wpAny P md ops Q' (f + g) listed a w
  | 0, listed, a, w, hw, h => by rw [Nat.zero_add]; exact hL _ _ _ hw h
  | f + 1, listed, a, w, hw, h => by
    rw [show f + 1 + g = (f + g) + 1 by omega]
    exact ⟨fun h0 => absurd h0 h.1, fun i hi => wpOp_of_qOp hw (fun a' w' hw' h' => headAny_any hL f _ a' w' hw' h') (h.2 i hi).2⟩
theorem headAny_take {n i : Nat} {oi : Oper} {v : Value} {L : Array Bool → Act → Prop} (hi : ops[i]? = some oi) (hns : Region.noSelect ops = true) (hs : Region.sinkB md ops n = true) (hc : Region.chainB md ops n = true) (hn : n < ops.size) (hin : i < n)
    (hdone : ∀ listed a, L listed a → ∀ j ∈ Region.ready md ops listed, n ≤ j) :
    ∀ (f : Nat) (listed : Array Bool) (a : Act), HeadInv md ops n listed → (∀ j oj, ops[j]? = some oj → j ≠ i → listed.getD j true = false → (∀ e ∈ oj.after, Region.binds md e = true → e.on ≠ i) → oi.apart ops oj = true) →
      i ∈ Region.ready md ops listed → YieldsIn P ops C oi v a → headAny P md ops C n L f (listed.setIfInBounds i true) (a.put oi.dst v) → headAny P md ops C n L (f + 1) listed a := by
  have hsel := Region.noSelect_spec hns
  intro f
  induction f with
  | zero =>
    intro listed a inv hfree hr hy H
    have hun := (mem_ready.1 hr).1
    refine ⟨(fun h => by rw [h] at hr; cases hr), fun j hj => ?_⟩
    have hjn : j < n := Nat.lt_of_not_le fun h => tail_waits hs hc hn inv _ i rfl hin hun j h hj
    by_cases hji : j = i
    · subst hji; exact ⟨hjn, hy.qOp hi H⟩
    · have := hdone _ _ H j (ready_mono hj hji); omega
  | succ f ih =>
    intro listed a inv hfree hr hy H
    have hun := (mem_ready.1 hr).1
    refine ⟨(fun h => by rw [h] at hr; cases hr), fun j hj => ?_⟩
    have hjn : j < n := Nat.lt_of_not_le fun h => tail_waits hs hc hn inv _ i rfl hin hun j h hj
    refine ⟨hjn, ?_⟩
    by_cases hji : j = i
    · subst hji; exact hy.qOp hi H
    · obtain ⟨hjun, oj, hoj, hall⟩ := mem_ready.1 hj
      have hnot : ∀ e ∈ oj.after, Region.binds md e = true → e.on ≠ i := fun e he hb heq => by
        have h1 := hall e he hb
        rw [heq, getD_both hun] at h1; cases h1
      have hq := qOp_put hoj (hfree j oj hoj hji hjun hnot) (fun cs b => hsel i oi cs b hi) (fun cs b => hsel j oj cs b hoj) hy (H.2 j (ready_mono hj hji)).2
      refine qOp_mono (fun a' h3 => ih (listed.setIfInBounds j true) a' (inv.set hj hjn) (fun k ok hk hki hku hno => hfree k ok hk hki ?_ hno) (ready_mono hr (Ne.symm hji)) h3.1 ?_) hq
      · by_cases hjk : j = k
        · subst hjk; exact hjun
        · rwa [getD_set_ne true hjk] at hku
      · rw [Array.setIfInBounds_comm _ _ hji]; exact h3.2
theorem headAny_lex {n g : Nat} {Lq : Act → Prop} (hns : Region.noSelect ops = true) (hs : Region.sinkB md ops n = true) (hc : Region.chainB md ops n = true) (hn : n < ops.size) :
    ∀ (l : List Oper) (k : Nat) (listed : Array Bool) (a : Act), (∀ j, j < l.length → l[j]? = ops[k + j]?) → k + l.length = n → HeadInv md ops n listed → Region.lexHead md ops g l.length k listed = true → wpQuiet P ops C Lq l a →
      headAny P md ops C n (fun listed' a' => Region.seqB md ops g n listed' = true ∧ Lq a') l.length listed a
  | [], k, listed, a, _, hk, _, hB, h => by
    have hkn : k = n := by simpa using hk
    subst hkn
    exact ⟨by simpa [Region.lexHead] using hB, h⟩
  | o :: l, k, listed, a, hl, hk, inv, hB, h => by
    have h0 : ops[k]? = some o := by simpa using (hl 0 (by simp)).symm
    simp only [List.length_cons, Region.lexHead, Bool.and_eq_true] at hB
    have hkn : k < n := by simp only [List.length_cons] at hk; omega
    have hr : k ∈ Region.ready md ops listed := by simpa using hB.1.1
    have hq : qOp P ops C k (wpQuiet P ops C Lq l) a := by unfold qOp; simp only [h0]; exact h
    obtain ⟨v, hy, hK⟩ := yieldsIn_of_qOp h0 hq
    exact headAny_take h0 hns hs hc hn hkn (fun listed' a' hL => seqB_ready hL.1) l.length listed a inv (Region.free_spec h0 hB.1.2) hr hy
      (headAny_lex hns hs hc hn l (k + 1) _ _ (fun j hj => by have := hl (j + 1) (by simp; omega); simpa [Nat.add_assoc, Nat.add_comm 1 j] using this) (by simp only [List.length_cons] at hk; omega) (inv.set hr hkn) hB.2 hK)
/-- A drawn region: the first n operations quiet, the others in a forced order. -/
theorem region_quiet_tail {id : Nat} {Q : Exit → Act → World → Prop} {a : Act} {w : World} {l : List Oper} (n : Nat) (hm : P.follows .mixedOrders = true) (hB : Region.lexTailB .any l.toArray n = true) (hC : C w.drew)
    (h : wpQuiet P l.toArray C (fun a' => ∀ w', C w' → wpList P l.toArray Q (l.drop n) a' w') (l.take n) a) : (Code.region id l.toArray true).wp P Q a w := by
  simp only [Region.lexTailB, Bool.and_eq_true, decide_eq_true_eq] at hB
  obtain ⟨⟨⟨⟨hns, hn⟩, hs⟩, hc⟩, hlex⟩ := hB
  have hnl : n < l.length := by simpa using hn
  have htl : (l.take n).length = n := by simp; omega
  have hdl : (l.drop n).length = l.toArray.size - n := by simp
  have inv0 : HeadInv .any l.toArray n (Array.replicate l.toArray.size false) :=
    ⟨by simp, (fun j oj _ hl => by rw [getD_replicate_false] at hl; cases hl), fun t _ ht => getD_in (by simpa using ht) (getD_replicate_false _ _)⟩
  have H := headAny_lex (md := .any) (g := l.toArray.size - n) hns hs hc hn (l.take n) 0 _ a (fun j hj => by rw [htl] at hj; simp [hj]) (by simpa using htl) inv0 (by rw [htl]; exact hlex) h
  refine wp_region_any hm ?_
  have := headAny_any (Q' := Q) (g := l.toArray.size - n) (fun listed a' w' hw' hL => by
    have := wpAny_of_seq (md := .any) (Q' := Q) (l.drop n) n listed a' w' (fun j => by simp [List.getElem?_drop]) (by rw [hdl]; exact hL.1) (hL.2 w' hw')
    rwa [hdl] at this) _ _ _ w.drew hC H
  rw [htl, show n + (l.toArray.size - n) = l.toArray.size by omega] at this
  exact this
end
/-! The same over states that are known part by part. -/
/-- A call among them: it leaves alone what lay there, and hands back what its contract says. -/
structure QCall (P : Program) (w0 : World) (G : Gs) (S : List Ow) (fid : FuncId) (args : List AV) (K : AV → Prop) : Prop where
  out : fnOk P fid = true ∧ ∃ x : Value, K (AV.of x) ∧ ∀ r w us, Rel w0 G S r w → avdenL r args us → Calls P fid us.toArray w fun e w' => e = .returned x ∧ Below w.heap.size w w'
def qcallK (P : Program) (w0 : World) (G : Gs) (S : List Ow) (f : Fr) (o : Oper) (K : AV → Prop) : Prop :=
  match o.op with
  | .call ⟨.value fn, args, _⟩ => (match f.ev fn with
    | .p (.c (.clo (.func fid) cap)) => evL f args.toList fun vs => QCall P w0 G S fid (vs ++ cap.map fun c => .p (.c c)) K
    | _ => False)
  | _ => (match opTy P o.op with | true => qop P w0 G S f o K | false => False)
def quietK (P : Program) (w0 : World) (G : Gs) (N : Nd) (ops : Array Oper) (S : List Ow) : Nat → List Oper → Fr → (Fr → Prop) → Prop
  | _, [], f, K => K f
  | 0, _ :: _, _, _ => False
  | n + 1, o :: rest, f, K => (match dstOk N.n o.dst with
    | false => False
    | true => (match o.guard with
      | none => qcallK P w0 G S f o fun v => f.putK o.dst v fun f' => quietK P w0 G N ops S n rest f' K
      | some (j, pol) => (match slotOf ops j with
        | none => False
        | some d => (match f.get d with
          | .p (.c (.v (.bool x))) => (x = pol → qcallK P w0 G S ((d, one (.bool pol)) :: f) o fun v => Fr.putK ((d, one (.bool pol)) :: f) o.dst v fun f' => quietK P w0 G N ops S n rest f' K) ∧
              (x = (!pol) → Fr.putK ((d, one (.bool (!pol))) :: f) o.dst (.p (.c .any)) fun f' => quietK P w0 G N ops S n rest f' K)
          | _ => False))))
section
variable {P : Program} {w0 : World} {G : Gs} {N : Nd} {ops : Array Oper} {S : List Ow} {r : Env} {w1 : World}
theorem qcallK_sound (hR : Rel w0 G S r w1) {f : Fr} {o : Oper} {K : AV → Prop} (h : qcallK P w0 G S f o K) {a : Act} (hf : FDen r f a) :
    ∃ v u, K v ∧ v.den r u ∧ ∀ w, Below w1.heap.size w1 w → o.quietAt P a (fun w' => Below w1.heap.size w1 w') w u := by
  unfold qcallK at h
  split at h
  · rename_i fn args tys hop
    have hfn := hf.ev fn
    split at h
    · rename_i fid cap he
      rw [he] at hfn
      obtain ⟨us, hu, hcap⟩ := den_clo hfn
      rw [evL_iff] at h
      obtain ⟨hok, x, hK, hc⟩ := h.out
      refine ⟨_, x, hK, AV.of_den r x, fun w hw => ?_⟩
      have hrun : (execOp a.eval o).run P w = .ok (.enter fid ((args.map a.eval) ++ us.toArray)) w := by
        simp [execOp, hop, resolve, Deferred.ofValue, hu, invoke, run_callFunc hok]
      unfold Oper.quietAt
      rw [hrun]
      refine ⟨rfl, ?_⟩
      have := hc r w ((args.toList.map a.eval) ++ us) (hR.below hw) (avdenL_append (avdenL_ev hf _) (avdenL_cap hcap))
      rw [show ((args.toList.map a.eval) ++ us).toArray = (args.map a.eval) ++ us.toArray by apply Array.ext'; simp] at this
      exact Calls.mono this fun e w' ⟨h1, h2⟩ => ⟨h1, hw.trans (h2.mono hw.size)⟩
    · exact h.elim
  · split at h
    · rename_i hty
      obtain ⟨v, u, hK, hd, hrun⟩ := qop_sound h hty hR hf
      refine ⟨v, u, hK, hd, fun w hw => ?_⟩
      unfold Oper.quietAt
      rw [hrun w hw]
      exact ⟨rfl, rfl⟩
    · exact h.elim
theorem quietK_sound (hR : Rel w0 G S r w1) {Q : Act → Prop} : ∀ (n : Nat) (l : List Oper) (f : Fr) (K : Fr → Prop), quietK P w0 G N ops S n l f K → (∀ f' a', K f' → FDen r f' a' → a'.tmps.size = N.n → a'.defers = N.ds → Q a') →
    ∀ a, FDen r f a → a.tmps.size = N.n → a.defers = N.ds → wpQuiet P ops (fun w' => Below w1.heap.size w1 w') Q l a
  | _, [], f, K, h, hK, a, hf, hN, hd => by cases ‹Nat› <;> exact hK f a h hf hN hd
  | 0, o :: l, f, K, h, hK, a, hf, hN, hd => h.elim
  | n + 1, o :: l, f, K, h, hK, a, hf, hN, hd => by
    unfold quietK at h
    have run : ∀ {f : Fr}, FDen r f a → dstOk N.n o.dst = true → Region.wanted o (yielded ops a.tmps) = true → (qcallK P w0 G S f o fun v => f.putK o.dst v fun f' => quietK P w0 G N ops S n l f' K) → wpQuiet P ops (fun w' => Below w1.heap.size w1 w') Q (o :: l) a := by
      intro f hf hdst hw h
      obtain ⟨v, u, hKv, hv, hrun⟩ := qcallK_sound hR h hf
      unfold wpQuiet
      rw [if_pos hw]
      exact ⟨u, hrun, quietK_sound hR n l _ K (putK_iff.1 hKv) hK _ (hf.put hv (by rw [hN]; exact hdst)) ((put_size a _ _).trans hN) ((put_defers a _ _).trans hd)⟩
    split at h
    · exact h.elim
    · rename_i hdst
      split at h
      · rename_i hg
        exact run hf hdst (wanted_none hg _) h
      · rename_i j pol hg
        split at h
        · exact h.elim
        · rename_i d hs
          split at h
          · rename_i x hfx
            have hk : ∀ y, x = y → FDen r ((d, one (.bool y)) :: f) a := fun y hy k => by
              simp only [Fr.get]
              split
              · rename_i hdk; have := Nat.eq_of_beq_eq_true hdk; subst this; rw [← hy, ← show f.get d = one (.bool x) from hfx]; exact hf d
              · exact hf k
            have hyl := yielded_of hf hs hfx
            by_cases hx : x = pol
            · exact run (hk _ hx) hdst (by rw [wanted_some hg, hyl, hx]; simp) (h.1 hx)
            · have hx' : x = !pol := by cases x <;> cases pol <;> simp_all
              unfold wpQuiet
              rw [if_neg (by rw [wanted_some hg, hyl]; simpa using hx)]
              exact quietK_sound hR n l _ K (putK_iff.1 (h.2 hx')) hK _ ((hk _ hx').putAny undef (by rw [hN]; exact hdst)) ((put_size a _ _).trans hN) ((put_defers a _ _).trans hd)
          · exact h.elim
/-- A drawn region whose first n operations are quiet. -/
theorem sat_tail {id : Nat} {l : List Oper} {f : Fr} {K : Exit → Fr → List Ow → Prop} (n : Nat) (hm : P.follows .mixedOrders = true) (hB : Region.lexTailB .any l.toArray n = true)
    (h : quietK P w0 G N l.toArray S (l.take n).length (l.take n) f fun f' => opsK P w0 G N l.toArray (l.drop n).length (l.drop n) f' S (K .normal)) : Sat none P w0 G N (.region id l.toArray true) f S K := by
  refine ⟨fun n' a w ⟨r, hR, hf, hN, hd⟩ => wpIn_wide.2 ?_⟩
  refine region_quiet_tail (C := fun w' => Below w.drew.heap.size w.drew w') n hm hB (Below.refl _ _) ?_
  refine quietK_sound hR.drew _ _ f _ h (fun f' a' hk hf' hN' hd' w' hw' => ?_) a hf hN hd
  exact seL_wp (opsK_sound _ _ f' S _ hk (fun f2 S2 a2 w2 hk2 hg2 => ⟨f2, S2, hk2, hg2⟩) a' w' ⟨r, hR.drew.below hw', hf', hN', hd'⟩)
/-- A drawn region of quiet operations alone. -/
theorem sat_quiet {id : Nat} {l : List Oper} {f : Fr} {K : Exit → Fr → List Ow → Prop} (hm : P.follows .mixedOrders = true) (hB : Region.lexB .any l.toArray = true)
    (h : quietK P w0 G N l.toArray S l.length l f fun f' => K .normal f' S) : Sat none P w0 G N (.region id l.toArray true) f S K := by
  refine ⟨fun n' a w ⟨r, hR, hf, hN, hd⟩ => wpIn_wide.2 ?_⟩
  refine wp_region_quiet (C := fun w' => Below w.drew.heap.size w.drew w') hm hB (Below.refl _ _) ?_
  exact quietK_sound (Q := fun a' => ∀ w', Below w.drew.heap.size w.drew w' → PostK w0 G N K .normal a' w') hR.drew _ _ f _ h (fun f' a' hk hf' hN' hd' w' hw' => ⟨f', S, hk, r, hR.drew.below hw', hf', hN', hd'⟩) a hf hN hd
end
section
variable {P : Program} {w0 : World} {G : Gs} {fid : FuncId} {args : List AV} {S : List Ow} {K : AV → Prop} {xs : List Value} {x : Value}
theorem q_con (hx : avals args = some xs) (hok : fnOk P fid = true) (h : ∀ r w, Rel w0 G S r w → Calls P fid xs.toArray w fun e w' => e = .returned x ∧ Below w.heap.size w w') (hK : K (AV.of x)) : QCall P w0 G S fid args K :=
  ⟨⟨hok, x, hK, fun r w us hR hd => by rw [avals_den hx hd]; exact h r w hR⟩⟩
theorem q_same (hx : avals args = some xs) (hok : fnOk P fid = true) (h : ∀ r w, Rel w0 G S r w → Calls P fid xs.toArray w fun e w' => e = .returned x ∧ w = w') (hK : K (AV.of x)) : QCall P w0 G S fid args K :=
  q_con hx hok (fun r w hR => (h r w hR).mono fun e w' ⟨h1, h2⟩ => ⟨h1, by subst h2; exact Below.refl _ _⟩) hK
end
theorem Rel.slAt {w0 : World} {G : Gs} {S : List Ow} {r : Env} {w : World} (hR : Rel w0 G S r w) {i b : Nat} {t : TypeId} {xs : List Value} (hi : S[i]? = some (.cells t (xs.map CV.v))) (hb : r.blk i = some b) : SlAt w w.heap.size (some ⟨b, 0, none⟩) xs := by
  obtain ⟨b', us, h1, h2, h3⟩ := hR.own i _ hi
  rw [hb] at h1; injection h1 with h1; subst h1
  have := denL_vals_inv h3; subst this
  exact SlAt.mk_ (hR.new i b hb).1 fun j u hj => by simp [World.cell?, h2, hj]
theorem Rel.rowAt {w0 : World} {G : Gs} {S : List Ow} {r : Env} {w : World} (hR : Rel w0 G S r w) {i : Nat} {e : TypeId} {size n : Nat} {xs : List Value} (hi : S[i]? = some (.row e size n xs)) {u : Value} (hu : r.val i = some u) :
    ∃ A c, u = .slice A n c ∧ SlAt w w.heap.size A xs ∧ n ≤ c ∧ c ≤ maxLen := by
  obtain ⟨v, hv, _, hown⟩ := hR.own i _ hi
  rw [hu] at hv; injection hv with hv; subst hv
  obtain ⟨A, c, h1, h2, h3, h4, _⟩ := own_slice hown
  exact ⟨A, c, h1, h2, h3, h4⟩
theorem den_row {r : Env} {i : Nat} {u : Value} (h : AV.den r (.p (.c (.row i))) u) : r.val i = some u := by simpa only [AV.den, Pc.den, CV.den] using h
theorem den_sl {r : Env} {i off n c : Nat} {u : Value} (h : AV.den r (.p (.c (.sl i off n c))) u) : ∃ b, r.blk i = some b ∧ u = .slice (some ⟨b, off, none⟩) n c := by simpa only [AV.den, Pc.den, CV.den] using h
end Go.Proofs.Ytmjfgnnefcimiaa
namespace Go.Proofs.Ytmjfgnnefcimiaa
open Go.RowKit

/-- The own map that reads as f. -/
abbrev mapOw (R : Value → Option (DataW Unit × List MemPlace)) (cd : Int → DataW Unit) (n : Nat) (f : Int → Option Int) : Ow := .ext fun b w => IMap R cd w b n f
section
variable {R : Value → Option (DataW Unit × List MemPlace)} {mk : Int → Value} {cd : Int → DataW Unit} {good : Int → Prop} {n : Nat} {m : Int → Option Int}
variable {w0 : World} {G : Gs} {N : Nd} {o : Oper} {f : Fr} {S : List Ow} {K : Fr → List Ow → Prop}
theorem imap_holds {r : Env} {w : World} {i b : Nat} (hb : r.blk i = some b) (h : IMap R cd w b n m) : (mapOw R cd n m).holds r w i := ⟨b, hb, h, fun _w' hw => h.block hw⟩
theorem op_makeMap {t : TypeId} (hop : o.op = .makeMap t none) (hdst : dstOk N.n o.dst = true) (hk : K (f.put o.dst (.p (.c (.mp S.length)))) (S ++ [mapOw R cd 0 fun _ => none])) : OpS Try.prog w0 G N o f S K := by
  refine ⟨fun r a w hR hf hN hd next Q hK => ?_⟩
  have hrun : (execOp a.eval o).run Try.prog w = .ok (.value (.map (some w.heap.size))) (w.alloc (.map #[] 0)) := by
    simp [execOp, hop, Instr.makeMap]
  have hle := hR.le_new (some w.heap.size) none
  refine wp_of_value hrun (hK _ _ _ _ hk (good_value hR hf hN hd hdst (r' := r.set S.length (some w.heap.size) none) ?_ (hR.snoc ((Below.refl _ _).alloc (Nat.le_refl _) _) (fun x hx => by injection hx with hx; subst hx; simp) (imap_holds (by simp [Env.set]) (IMap.made w))) hle))
  simp only [AV.den, Pc.den, CV.den]
  exact ⟨w.heap.size, by simp [Env.set], rfl⟩
theorem Rel.lt_of_blk {S : List Ow} {r : Env} {w : World} (h : Rel w0 G S r w) {i b : Nat} (hb : r.blk i = some b) : i < S.length := by
  rcases Nat.lt_or_ge i S.length with h1 | h1
  · exact h1
  · rw [h.outB i h1] at hb; cases hb
theorem den_mp {r : Env} {i : Nat} {u : Value} (h : AV.den r (.p (.c (.mp i))) u) : ∃ b, r.blk i = some b ∧ u = .map (some b) := by simpa only [AV.den, Pc.den, CV.den] using h
theorem op_mapUpdate {t e : TypeId} {mo x v : Operand} (hop : o.op = .mapUpdate t mo x v) (ht : Try.prog.underlying t = some (.map 3 e)) (E : Elems R mk cd good) (i : Nat) (k y : Int)
    (hm : f.ev mo = .p (.c (.mp i))) (hi : S[i]? = some (mapOw R cd n m)) (hx : f.ev x = one (.int .i64 k)) (hv : f.ev v = one (mk y)) (hn : n < 1000000) (hkw : (Lit.int .i64 k).wf = true) (hy : good y) (hdst : dstOk N.n o.dst = true)
    (hk : K (f.put o.dst (.p (.c .any))) (S.set i (mapOw R cd (n + 1) (mput m k y)))) : OpS Try.prog w0 G N o f S K := by
  refine ⟨fun r a w hR hf hN hd next Q hK => ?_⟩
  have h1 := hf.ev mo
  have h2 := hf.ev x
  have h3 := hf.ev v
  rw [hm] at h1; rw [hx] at h2; rw [hv] at h3
  obtain ⟨b, hb, hu⟩ := den_mp h1
  obtain ⟨b', hb', hmap, _⟩ := hR.own i _ hi
  rw [hb] at hb'; injection hb' with hb'; subst hb'
  obtain ⟨w', hrun, hmap', hg⟩ := hmap.put E ht hn hkw hy (t := t)
  have hex : (execOp a.eval o).run Try.prog w = .ok .skip w' := by
    simp [execOp, hop, hu, den_v h2, den_v h3, hrun]
  exact wp_of_skip hex (hK _ _ _ _ hk (good_value hR hf hN hd hdst (by simp [AV.den, Pc.den, CV.den]) (hR.setBlock hb hg (imap_holds hb hmap') (hR.lt_of_blk hb)) (Env.le.refl r)))
theorem op_delete {t e : TypeId} {mo x : Operand} (hop : o.op = .call ⟨.builtin .delete, #[mo, x], #[t, 3]⟩) (ht : Try.prog.underlying t = some (.map 3 e)) (i : Nat) (k : Int)
    (hm : f.ev mo = .p (.c (.mp i))) (hi : S[i]? = some (mapOw R cd n m)) (hx : f.ev x = one (.int .i64 k)) (hkw : (Lit.int .i64 k).wf = true) (hdst : dstOk N.n o.dst = true)
    (hk : K (f.put o.dst (.p (.c .any))) (S.set i (mapOw R cd n (mdel m k)))) : OpS Try.prog w0 G N o f S K := by
  refine ⟨fun r a w hR hf hN hd next Q hK => ?_⟩
  have h1 := hf.ev mo
  have h2 := hf.ev x
  rw [hm] at h1; rw [hx] at h2
  obtain ⟨b, hb, hu⟩ := den_mp h1
  obtain ⟨b', hb', hmap, _⟩ := hR.own i _ hi
  rw [hb] at hb'; injection hb' with hb'; subst hb'
  obtain ⟨w', hrun, hmap', hg⟩ := hmap.del ht o.type hkw
  have hex : (execOp a.eval o).run Try.prog w = .ok (.value (.tuple #[])) w' := by
    simp [execOp, hop, resolve, invoke, builtin, hu, den_v h2, hrun]
  exact wp_of_value hex (hK _ _ _ _ hk (good_value hR hf hN hd hdst (by simp [AV.den, Pc.den, CV.den]) (hR.setBlock hb hg (imap_holds hb hmap') (hR.lt_of_blk hb)) (Env.le.refl r)))
end
section
variable {n : Nat} {m : Int → Option Int} {w0 : World} {G : Gs} {o : Oper} {f : Fr} {S : List Ow} {K : AV → Prop}
end
theorem cells_one {w0 : World} {G : Gs} {b off : Nat} {x : Value} (hb : b < w0.heap.size) (hG : b ∉ G) (h : w0.cell? ⟨b, off, none⟩ = some x) : CellsAt w0 G b off [x] :=
  ⟨hb, hG, fun j u hj => by cases j with | zero => simp at hj; subst hj; exact h | succ j => simp at hj⟩
section
variable {n b : Nat} {m : Int → Option Int} {w0 : World} {G : Gs} {o : Oper} {f : Fr} {S : List Ow} {K : AV → Prop}
theorem q_look_u32_old {mo x : Operand} (hop : o.op = .lookup 56 mo x true) (k : Int) (hm : f.ev mo = one (.map (some b))) (hmap : IMap u32R u32D w0 b n m) (hG : b ∉ G) (hx : f.ev x = one (.int .i64 k)) (hkw : (Lit.int .i64 k).wf = true)
    (hK : K (.tup [.c (.v (.int .u32 ((m k).getD 0))), .c (.v (.bool (m k).isSome))])) : QRun Try.prog w0 G S f o K := by
  refine ⟨_, hK, fun r a hf => ⟨.tuple #[.int .u32 ((m k).getD 0), .bool (m k).isSome], ⟨_, rfl, _, _, rfl, by simp [Pc.den, CV.den], _, _, rfl, by simp [Pc.den, CV.den], rfl⟩, fun w hR => ?_⟩⟩
  have h1 := hf.ev mo
  have h2 := hf.ev x
  rw [hm] at h1; rw [hx] at h2
  simp [execOp, hop, den_v h1, den_v h2, look_u32 (hmap.block (hR.old b hmap.lt hG)) hkw]
theorem q_look_i64_old {mo x : Operand} (hop : o.op = .lookup 64 mo x true) (k : Int) (hm : f.ev mo = one (.map (some b))) (hmap : IMap i64R i64D w0 b n m) (hG : b ∉ G) (hx : f.ev x = one (.int .i64 k)) (hkw : (Lit.int .i64 k).wf = true)
    (hK : K (.tup [.c (.v (.int .i64 ((m k).getD 0))), .c (.v (.bool (m k).isSome))])) : QRun Try.prog w0 G S f o K := by
  refine ⟨_, hK, fun r a hf => ⟨.tuple #[.int .i64 ((m k).getD 0), .bool (m k).isSome], ⟨_, rfl, _, _, rfl, by simp [Pc.den, CV.den], _, _, rfl, by simp [Pc.den, CV.den], rfl⟩, fun w hR => ?_⟩⟩
  have h1 := hf.ev mo
  have h2 := hf.ev x
  rw [hm] at h1; rw [hx] at h2
  simp [execOp, hop, den_v h1, den_v h2, look_i64 (hmap.block (hR.old b hmap.lt hG)) hkw]
end
end Go.Proofs.Ytmjfgnnefcimiaa
namespace Go.Proofs.Ytmjfgnnefcimiaa
open Go.RowKit

/-! Frames that name only some own entries, by their blocks. -/
def CV.fx (ok : Nat → Bool) : CV → Bool
  | .v _ => true
  | .ref i _ => ok i
  | .any => true
  | _ => false
def fxL (ok : Nat → Bool) : List CV → Bool
  | [] => true
  | c :: l => match c.fx ok with | true => fxL ok l | false => false
def AV.fx (ok : Nat → Bool) : AV → Bool
  | .p (.c x) => x.fx ok
  | .p (.agg l) => fxL ok l
  | _ => false
def Fr.fx (ok : Nat → Bool) : Fr → Bool
  | [] => true
  | (_, x) :: f => match x.fx ok with | true => Fr.fx ok f | false => false
section
variable {ok : Nat → Bool} {r r' : Env}
theorem CV.den_fx (h : ∀ i b, ok i = true → r.blk i = some b → r'.blk i = some b) : ∀ {c : CV} {u : Value}, c.fx ok = true → c.den r u → c.den r' u
  | .v x, u, _, hd => by simpa only [CV.den] using hd
  | .ref i off, u, hb, hd => by
    simp only [CV.den] at hd ⊢; obtain ⟨x, hx, hu⟩ := hd
    exact ⟨x, h i x hb hx, hu⟩
  | .any, u, _, hd => by simp only [CV.den]
  | .vref .., _, hb, _ => by cases hb
  | .row .., _, hb, _ => by cases hb
  | .sl .., _, hb, _ => by cases hb
  | .mp .., _, hb, _ => by cases hb
  | .clo .., _, hb, _ => by cases hb
theorem denL_fx (h : ∀ i b, ok i = true → r.blk i = some b → r'.blk i = some b) : ∀ {l : List CV} {us : List Value}, fxL ok l = true → denL r l us → denL r' l us
  | [], us, _, hd => by simpa only [denL] using hd
  | c :: cs, us, hb, hd => by
    simp only [denL] at hd ⊢; obtain ⟨u, l, hu, hc, hl⟩ := hd
    simp only [fxL] at hb
    split at hb
    · rename_i hb1; exact ⟨u, l, hu, CV.den_fx h hb1 hc, denL_fx h hb hl⟩
    · cases hb
theorem AV.den_fx (h : ∀ i b, ok i = true → r.blk i = some b → r'.blk i = some b) {x : AV} {u : Value} (hx : x.fx ok = true) (hd : x.den r u) : x.den r' u := by
  unfold AV.fx at hx
  split at hx
  · exact CV.den_fx h hx hd
  · obtain ⟨us, hu, hl⟩ := hd; exact ⟨us, hu, denL_fx h hx hl⟩
  · cases hx
theorem Fr.fx_get : ∀ {f : Fr} (k : Nat), f.fx ok = true → (f.get k).fx ok = true
  | [], k, _ => rfl
  | (d, x) :: f, k, h => by
    simp only [Fr.fx] at h
    split at h
    · simp only [Fr.get]
      split
      · assumption
      · exact Fr.fx_get k h
    · cases h
theorem FDen.fx {f : Fr} {a : Act} (hf : FDen r f a) (h : ∀ i b, ok i = true → r.blk i = some b → r'.blk i = some b) (hx : f.fx ok = true) : FDen r' f a := fun k => AV.den_fx h (Fr.fx_get k hx) (hf k)
end
/-- The own entries' blocks, all fixed. -/
def fixE (gs : List Nat) (M bx : Nat) : Env := ⟨fun i => if i = M then some bx else gs[i]?, fun _ => none⟩

/-! Own entries of cells. -/
def Ow.flat : Ow → Bool
  | .cells _ _ => true
  | .row _ _ _ _ => true
  | _ => false
def flatS (S : List Ow) : Bool := S.all Ow.flat
theorem flat_get {S : List Ow} (h : flatS S = true) {i : Nat} {o : Ow} (hi : S[i]? = some o) : o.flat = true := by
  unfold flatS at h
  rw [List.all_eq_true] at h
  exact h o (List.mem_of_getElem? hi)
theorem flat_blk {r : Env} {w : World} {i : Nat} {o : Ow} (hf : o.flat = true) (h : o.holds r w i) {b : Nat} (hb : r.blk i = some b) : ∃ cs t fr, w.heap[b]? = some (.cells cs t fr) := by
  cases o with
  | cells t l => obtain ⟨b', us, h1, h2, h3⟩ := h; rw [hb] at h1; injection h1 with h1; subst h1; exact ⟨_, _, _, h2⟩
  | row e size n xs =>
    obtain ⟨v, h1, h2, h3, h4⟩ := h
    rcases h4 with ⟨h4, _⟩ | ⟨g, cap, cur, hv, hg, hh, hr⟩
    · rw [hb, h4] at h2; cases h2
    · rw [hb, hv] at h2; injection h2 with h2
      have h2 : g = b := h2
      subst h2; exact ⟨_, _, _, hh⟩
  | ext φ => cases hf
  | view φ n xs => cases hf
  | gone => cases hf
theorem Ow.holds_flat {r : Env} {w w' : World} {i : Nat} {o : Ow} (h : o.holds r w i) (hf : o.flat = true) (hb : ∀ b, r.blk i = some b → w'.heap[b]? = w.heap[b]?) : o.holds r w' i := by
  cases o with
  | cells t l => obtain ⟨b, us, h1, h2, h3⟩ := h; exact ⟨b, us, h1, (hb b h1).trans h2, h3⟩
  | row e size n xs =>
    obtain ⟨v, h1, h2, h3, h4⟩ := h
    refine ⟨v, h1, h2, h3, ?_⟩
    rcases h4 with h4 | ⟨g, cap, cur, hv, hg, hh, hr⟩
    · exact .inl h4
    · have : r.blk i = some g := by rw [← h2, hv]; rfl
      exact .inr ⟨g, cap, cur, hv, hg, (hb g this).trans hh, hr⟩
  | ext φ => cases hf
  | view φ n xs => cases hf
  | gone => cases hf
section
variable {w0 : World} {G : Gs} {S : List Ow} {r : Env} {W : World}
theorem Rel.lenB (h : Rel w0 G S r W) {i b : Nat} (hb : r.blk i = some b) : i < S.length := by
  rcases Nat.lt_or_ge i S.length with h1 | h1
  · exact h1
  · rw [h.outB i h1] at hb; cases hb
theorem rel_cells (h : Rel w0 G S r W) (hS : flatS S = true) {i b : Nat} (hb : r.blk i = some b) : ∃ cs t fr, W.heap[b]? = some (.cells cs t fr) := by
  have hi := h.lenB hb
  have ho := List.getElem?_eq_getElem hi
  exact flat_blk (flat_get hS ho) (h.own i _ ho) hb
/-- Behind what turns no cells, and none of what lay there. -/
theorem rel_grow (h : Rel w0 G S r W) (hS : flatS S = true) {W' : World} {row : Option Nat} (hg : W.grownBy W' row) (hr : ∀ q, row = some q → w0.heap.size ≤ q ∧ ∃ o : Obj, W.heap[q]? = some o ∧ o.isCells = false) : Rel w0 G S r W' := by
  have hown : ∀ i b, r.blk i = some b → W'.heap[b]? = W.heap[b]? := fun i b hb => hg.block b (h.new i b hb).1 fun e => by
    obtain ⟨_, o, ho, hc⟩ := hr b e.symm
    obtain ⟨cs, t, fr, hh⟩ := rel_cells h hS hb
    rw [ho] at hh; injection hh with hh; subst hh; cases hc
  refine ⟨hg.os.trans h.os, hg.tape.trans h.tape, hg.output.trans h.output, Nat.le_trans h.size hg.size, fun k hk hG => (hg.block k (Nat.lt_of_lt_of_le hk h.size) fun e => ?_).trans (h.old k hk hG),
    fun i o ho => Ow.holds_flat (h.own i o ho) (flat_get hS ho) (hown i), h.inj, fun i b hb => ⟨Nat.lt_of_lt_of_le (h.new i b hb).1 hg.size, (h.new i b hb).2⟩, h.outB, h.outV, h.first⟩
  have := (hr k e.symm).1
  omega
/-- Seen from the world as it stands. -/
theorem rel_base (h : Rel w0 G S r W) {gs ext : List Nat} (hgs : ∀ (i g : Nat), gs[i]? = some g → r.blk i = some g) (hext : ∀ i b, r.blk i = some b → b ∈ gs ∨ b ∈ ext) : Rel W ⟨gs, ext⟩ S r W :=
  ⟨rfl, rfl, rfl, Nat.le_refl _, fun _ _ _ => rfl, h.own, h.inj, fun i b hb => ⟨(h.new i b hb).1, fun _ => hext i b hb⟩, h.outB, h.outV, hgs⟩
/-- And back. -/
theorem rel_back (h : Rel w0 G S r W) {gs ext : List Nat} {S' : List Ow} {r' : Env} {W' : World} (h2 : Rel W ⟨gs, ext⟩ S' r' W') (hx : ∀ b, b ∈ gs ∨ b ∈ ext → ∃ i, r.blk i = some b) (hf : ∀ (i g : Nat), G.fix[i]? = some g → gs[i]? = some g) : Rel w0 G S' r' W' := by
  refine ⟨h2.os.trans h.os, h2.tape.trans h.tape, h2.output.trans h.output, Nat.le_trans h.size h2.size, fun k hk hG => (h2.old k (Nat.lt_of_lt_of_le hk h.size) fun hm => ?_).trans (h.old k hk hG), h2.own, h2.inj, fun i b hb => ⟨(h2.new i b hb).1, fun hlt => ?_⟩, h2.outB, h2.outV, fun i g hg => h2.first i g (hf i g hg)⟩
  · obtain ⟨i, hi⟩ := hx k hm
    exact hG ((h.new i k hi).2 hk)
  · obtain ⟨j, hj⟩ := hx b ((h2.new i b hb).2 (Nat.lt_of_lt_of_le hlt h.size))
    exact (h.new j b hj).2 hlt
/-- An entry for a block that lies there. -/
theorem rel_add (h : Rel w0 G S r W) {b : Nat} {o : Ow} (hb : b < W.heap.size) (hG : b < w0.heap.size → b ∈ G) (hn : ∀ i, r.blk i ≠ some b) (hS : flatS S = true) (ho : o.holds (r.set S.length (some b) none) W S.length) : Rel w0 G (S ++ [o]) (r.set S.length (some b) none) W := by
  have hle := h.le_new (some b) none
  refine ⟨h.os, h.tape, h.output, h.size, h.old, fun i o' hi => ?_, fun i j x hx hy => ?_, fun i x hx => ?_, fun i hi => ?_, fun i hi => ?_, fun i g hg => hle.blk _ _ (h.first i g hg)⟩
  · rcases get_snoc hi with ⟨h1, h2⟩ | ⟨h1, h2⟩
    · have hfl := flat_get hS h2
      have hh := h.own i o' h2
      have hbl : (r.set S.length (some b) none).blk i = r.blk i := by simp only [Env.set]; rw [if_neg (by omega)]
      cases o' with
      | cells t l => obtain ⟨b, us, h1, h2, h3⟩ := hh; exact ⟨b, us, hle.blk _ _ h1, h2, denL_mono hle _ _ h3⟩
      | row e size n xs => obtain ⟨v, h1, h2, h3⟩ := hh; exact ⟨v, hle.val _ _ h1, h2.trans hbl.symm, h3⟩
      | ext φ => cases hfl
      | view φ n xs => cases hfl
      | gone => cases hfl
    · subst h1; subst h2; exact ho
  · simp only [Env.set] at hx hy
    split at hx <;> split at hy
    · omega
    · injection hx with hx; subst hx; exact absurd hy (hn _)
    · injection hy with hy; subst hy; exact absurd hx (hn _)
    · exact h.inj i j x hx hy
  · simp only [Env.set] at hx
    split at hx
    · injection hx with hx; subst hx; exact ⟨hb, hG⟩
    · exact h.new i x hx
  · simp only [Env.set]; rw [if_neg (by simp at hi; omega)]; exact h.outB i (by simp at hi; omega)
  · simp only [Env.set]; rw [if_neg (by simp at hi; omega)]; exact h.outV i (by simp at hi; omega)
/-- From the world at the start of the loop to the world at the call's start. -/
theorem rel_home {w : World} {A : List Ow} {ra : Env} (h : Rel w0 Gs.nil A ra w) {gs ext : List Nat} (h2 : Rel w ⟨gs, ext⟩ S r W) (hx : ∀ b, b ∈ gs ∨ b ∈ ext → ∃ i, ra.blk i = some b) : Rel w0 Gs.nil S r W :=
  rel_back h h2 hx (fun i g hg => by simp [Gs.nil] at hg)
theorem blocks_of (r : Env) (n : Nat) : ∃ ext : List Nat, (∀ i b, i < n → r.blk i = some b → b ∈ ext) ∧ ∀ b, b ∈ ext → ∃ i, r.blk i = some b := by
  refine ⟨(List.range n).filterMap r.blk, fun i b hi hb => List.mem_filterMap.2 ⟨i, by simpa using hi, hb⟩, fun b hb => ?_⟩
  obtain ⟨i, _, hi⟩ := List.mem_filterMap.1 hb
  exact ⟨i, hi⟩
end
end Go.Proofs.Ytmjfgnnefcimiaa
namespace Go.Proofs.Ytmjfgnnefcimiaa
open Go.RowKit

structure SatQ (P : Program) (w0 : World) (G : Gs) (N : Nd) (c : Code) (f : Fr) (S : List Ow) (Q : Exit → Act → World → Prop) : Prop where
  out : ∀ a w, Good w0 G N f S a w → c.wpIn Fence.wide 10 P Q a w
structure AtQ (w0 : World) (G : Gs) (N : Nd) (e : Exit) (f : Fr) (S : List Ow) (Q : Exit → Act → World → Prop) : Prop where
  out : ∀ a w, Good w0 G N f S a w → Q e a w
section
variable {P : Program} {w0 : World} {G : Gs} {N : Nd} {c d : Code} {f : Fr} {S : List Ow} {Q : Exit → Act → World → Prop}
theorem satq_vc (h : vc none P w0 G N c f S fun e f S => AtQ w0 G N e f S Q) : SatQ P w0 G N c f S Q :=
  ⟨fun a w hg => wpIn_mono ((vc_sound (ro := none) c f S _ h).out 10 a w hg) fun _e a' w' ⟨_f', _S', hk, hg'⟩ => hk.out a' w' hg'⟩
theorem satq_seq (h : vc none P w0 G N c f S fun e f S => match e with | .normal => SatQ P w0 G N d f S Q | e => AtQ w0 G N e f S Q) : SatQ P w0 G N (.seq c d) f S Q :=
  ⟨fun a w hg => wpIn_seq (wpIn_mono ((vc_sound (ro := none) c f S _ h).out 10 a w hg) fun e a' w' ⟨f', S', hk, hg'⟩ => by
    cases e with
    | normal => exact hk.out a' w' hg'
    | exit id => exact hk.out a' w' hg'
    | goto l => exact hk.out a' w' hg'
    | ret => exact hk.out a' w' hg'
    | panic ch => exact hk.out a' w' hg'
    | outgrown => exact hk.out a' w' hg')⟩
theorem satq_in (h : SatQ P w0 G N c f S (Exit.then (d.wpIn Fence.wide 10 P Q) Q)) : SatQ P w0 G N (.seq c d) f S Q := ⟨fun a w hg => wpIn_seq (h.out a w hg)⟩
theorem satq_block {id : Nat} (h : SatQ P w0 G N c f S (Exit.inBlock id Q)) : SatQ P w0 G N (.block id c) f S Q := ⟨fun a w hg => wpIn_block (h.out a w hg)⟩
end
/-- One state as another, with no new blocks. -/
structure EntB (f : Fr) (S : List Ow) (f' : Fr) (S' : List Ow) : Prop where
  out : ∀ w0 w r a, Rel w0 Gs.nil S r w → FDen r f a → ∃ r', Rel w0 Gs.nil S' r' w ∧ FDen r' f' a ∧ ∀ i b, r'.blk i = some b → ∃ j, r.blk j = some b
def cellsS (S : List Ow) : Bool := S.all fun o => match o with | .cells _ _ => true | _ => false
theorem cells_blk {w0 w : World} {G : Gs} {S T : List Ow} {r : Env} (h : Rel w0 G (S ++ T) r w) (hS : cellsS S = true) {i : Nat} (hi : i < S.length) : ∃ b, r.blk i = some b := by
  have ho : (S ++ T)[i]? = some S[i] := by rw [List.getElem?_append_left hi]; exact List.getElem?_eq_getElem hi
  have hc : (match S[i] with | .cells _ _ => true | _ => false) = true := (List.all_eq_true.1 hS) S[i] (List.getElem_mem hi)
  have hh := h.own i _ ho
  revert hc hh
  cases S[i] with
  | cells t l => rintro - ⟨b, us, h1, _⟩; exact ⟨b, h1⟩
  | row e s n xs => intro hc; cases hc
  | ext φ => intro hc; cases hc
  | view φ n xs => intro hc; cases hc
  | gone => intro hc; cases hc
theorem list_of {n : Nat} {p : Nat → Option Nat} (h : ∀ i, i < n → ∃ b, p i = some b) : ∃ gs : List Nat, gs.length = n ∧ ∀ (i g : Nat), gs[i]? = some g ↔ i < n ∧ p i = some g := by
  refine ⟨(List.range n).map fun i => (p i).getD 0, by simp, fun i g => ?_⟩
  rw [List.getElem?_map]
  rcases Nat.lt_or_ge i n with hi | hi
  · obtain ⟨b, hb⟩ := h i hi
    rw [List.getElem?_eq_getElem (by simpa using hi)]
    simp [hb, hi]
  · rw [List.getElem?_eq_none (by simpa using hi)]
    simp; omega
end Go.Proofs.Ytmjfgnnefcimiaa
namespace Go.Proofs.Ytmjfgnnefcimiaa
open Go.RowKit

/-- No address below B. -/
def Fresh (B : Nat) (A : Option Addr) : Prop := ∀ b off sp, A = some ⟨b, off, sp⟩ → B ≤ b
/-- What a pass does: it hands back the block with other operations. -/
def Pass (P : Program) (fid : FuncId) (F : Blk → List BOp) : Prop :=
  ∀ (b : Blk) (A1 A2 A3 : Option Addr) (c1 c2 c3 : Nat) (w : World), b.ok → SlAt w w.heap.size A1 (b.at_.map (.int .u32)) → SlAt w w.heap.size A2 (b.pages.map (.int .i64)) → OpsAt w w.heap.size A3 b.ops → b.ops.length ≤ c3 → c3 ≤ maxLen →
    Calls P fid #[.agg #[.slice A1 b.at_.length c1, .slice A2 b.pages.length c2, .slice A3 b.ops.length c3]] w fun e w' =>
      ∃ A c, e = .returned (.agg #[.slice A1 b.at_.length c1, .slice A2 b.pages.length c2, .slice A (F b).length c]) ∧ OpsAt w' w'.heap.size A (F b) ∧ (F b).length ≤ c ∧ c ≤ maxLen ∧ (Fresh w.heap.size A ∨ A = A3) ∧ Below w.heap.size w w'
theorem cells_op {w : World} {G : Gs} {bb off k : Nat} {l : List BOp} {o : BOp} (h : OpsAt w w.heap.size (some ⟨bb, off, none⟩) l) (hG : bb ∉ G) (hk : l[k]? = some o) : CellsAt w G bb (off + (k : Int).toNat * 5) (opC o) := by
  have hlt : k < l.length := by
    rcases Nat.lt_or_ge k l.length with h1 | h1
    · exact h1
    · rw [List.getElem?_eq_none h1] at hk; cases hk
  obtain ⟨b', off', hA, hb, hc⟩ := SlAt.open_ h (by rw [flat_length]; omega)
  injection hA with hA; injection hA with e1 e2; subst e1; subst e2
  refine ⟨hb, hG, fun j u hj => ?_⟩
  have hj5 : j < 5 := by
    rcases Nat.lt_or_ge j 5 with h1 | h1
    · exact h1
    · rw [List.getElem?_eq_none (by rw [opC_length]; exact h1)] at hj; cases hj
  have := hc (k * 5 + j) u ((flat_at l k j o hk hj5).trans hj)
  simpa [Nat.add_assoc] using this
/-- A value that some fields of a block are. -/
theorem ops_addr {w : World} {A : Option Addr} {l : List BOp} (h : OpsAt w w.heap.size A l) (hl : 0 < l.length) : ∃ bb off, A = some ⟨bb, off, none⟩ := by
  obtain ⟨b, off, hA, _⟩ := SlAt.open_ h (by rw [flat_length]; omega)
  exact ⟨b, off, hA⟩
section
variable {R : Value → Option (DataW Unit × List MemPlace)} {cd : Int → DataW Unit} {n : Nat} {m m' : Int → Option Int}
variable {w0 : World} {G : Gs} {fid : FuncId} {S : List Ow} {K : AV → List Ow → Prop} {x : Value}
/-- A call that turns one map of the call's own. -/
theorem call_map (i : Nat) (hi : S[i]? = some (mapOw R cd n m)) (hok : fnOk Try.prog fid = true) (h : ∀ w b, IMap R cd w b n m → Calls Try.prog fid #[.map (some b)] w fun e w' => e = .returned x ∧ IMap R cd w' b n m' ∧ w.grownBy w' (some b)) (hK : K (AV.of x) (S.set i (mapOw R cd n m'))) :
    CallS Try.prog w0 G fid [.p (.c (.mp i))] S K := by
  refine ⟨hok, fun r w us hR hd => ?_⟩
  obtain ⟨u, l, rfl, h1, h2⟩ := hd
  obtain rfl : l = [] := h2
  obtain ⟨b, hb, rfl⟩ := den_mp h1
  obtain ⟨b', hb', hmap, _⟩ := hR.own i _ hi
  rw [hb] at hb'; injection hb' with hb'; subst hb'
  exact (h w b hmap).mono fun e w' ⟨he, hm', hg⟩ => ⟨_, x, _, r, he, AV.of_den r x, hR.setBlock hb hg (imap_holds hb hm') (hR.lt_of_blk hb), Env.le.refl r, hK⟩
end
theorem imap_le {R : Value → Option (DataW Unit × List MemPlace)} {cd : Int → DataW Unit} {n n' : Nat} {m m' : Int → Option Int} (hn : n ≤ n') (h : ∀ k, m k = m' k) : OLe (mapOw R cd n m) (mapOw R cd n' m') := fun _ _ hm => (hm.mono hn).is h
theorem calls_val {P : Program} {fid : FuncId} {fn : Func} {c : Code} {N : Nat} {w0 : World} (xs : List Value) (hf : P.funcs[fid]? = some fn) (hN : fn.ntmps = N) (hb : fn.body = some c) (hle : xs.length ≤ N) {R : Ending → World → Prop}
    (h : vc none P w0 Gs.nil ⟨N, []⟩ c (argFr (xs.map fun x => AV.of x) 0) [] (RetK P w0 Gs.nil fn.results.toList R)) : Calls P fid xs.toArray w0 R :=
  calls_vc hf hN hb (rel_none w0) (avdenL_of xs) hle h
theorem wr64 {n : Int} (h : -9223372036854775808 ≤ n ∧ n < 9223372036854775808) : IntKind.i64.wrap n = n := by
  have e : IntKind.i64.wrap n = wrap64 n := by
    show (if (true && decide (n % (2 ^ 64 : Int) ≥ (2 ^ 63 : Int))) then n % (2 ^ 64 : Int) - (2 ^ 64 : Int) else n % (2 ^ 64 : Int)) = _
    unfold wrap64
    by_cases h : n % (2 ^ 64 : Int) ≥ (2 ^ 63 : Int)
    · rw [decide_eq_true h]; simp only [Bool.and_self, if_true]; omega
    · rw [decide_eq_false h]; simp only [Bool.and_false, Bool.false_eq_true, if_false]; omega
  rw [e]; unfold wrap64; omega
theorem wr32 (n : Int) : IntKind.u32.wrap n = n % 4294967296 := by
  show (if (false && decide (n % (2 ^ 32 : Int) ≥ (2 ^ 31 : Int))) then n % (2 ^ 32 : Int) - (2 ^ 32 : Int) else n % (2 ^ 32 : Int)) = _
  simp
theorem num_succ (k : Nat) : one (.int .i64 ((k : Int) + 1)) = one (.int .i64 ((k + 1 : Nat) : Int)) := by simp
/-- The end of a pass. -/
theorem fin_block {w0 : World} {S : List Ow} {i n : Nat} {e : TypeId} {xs : List Value} {l : List BOp} {x1 x2 : Value} {R : Ending → World → Prop} (hi : S[i]? = some (.row e 5 n xs)) (hn : n = l.length) (hx : xs = l.flatMap opC)
    (h : ∀ w' A c, OpsAt w' w'.heap.size A l → l.length ≤ c → c ≤ maxLen → Fresh w0.heap.size A → Below w0.heap.size w0 w' → R (.returned (.agg #[x1, x2, .slice A l.length c])) w') : Fin w0 Gs.nil S (.p (.agg [.v x1, .v x2, .row i])) R := by
  refine ⟨fun r w u hR hd => ?_⟩
  subst hn; subst hx
  obtain ⟨us, rfl, hl⟩ := den_agg hd
  simp only [denL] at hl
  obtain ⟨u1, l1, rfl, d1, u2, l2, rfl, d2, u3, l3, rfl, d3, rfl⟩ := hl
  simp only [CV.den] at d1 d2 d3
  subst d1; subst d2
  obtain ⟨A, c, hu, hs, hc, hm⟩ := hR.rowAt hi d3
  subst hu
  refine h w A c hs hc hm (fun b off sp hA => ?_) hR.toBelow
  subst hA
  obtain ⟨v, hv, hob, _⟩ := hR.own i _ hi
  rw [d3] at hv; injection hv with hv; subst hv
  have hb : r.blk i = some b := by rw [← hob]; rfl
  rcases Nat.lt_or_ge b w0.heap.size with h1 | h1
  · have := (hR.new i b hb).2 h1; simp at this
  · exact h1
/-- A call that hands back a new row. -/
theorem call_row {P : Program} {w0 : World} {G : Gs} {fid : FuncId} {args : List AV} {S : List Ow} {K : AV → List Ow → Prop} {xs : List Value} {e : TypeId} {size n : Nat} {ys : List Value} (hx : avals args = some xs) (hok : fnOk P fid = true)
    (h : ∀ r w, Rel w0 G S r w → Calls P fid xs.toArray w fun en w' => ∃ v, en = .returned v ∧ w'.ownsRow w.heap.size e size v n ys ∧ Below w.heap.size w w') (hK : K (.p (.c (.row S.length))) (S ++ [.row e size n ys])) : CallS P w0 G fid args S K := by
  refine ⟨hok, fun r w us hR hd => ?_⟩
  rw [avals_den hx hd]
  refine (h r w hR).mono fun en w' ⟨v, he, hown, hb⟩ => ⟨.p (.c (.row S.length)), v, _, r.set S.length v.ownBlock (some v), he, by simp [AV.den, Pc.den, CV.den, Env.set], ?_, hR.le_new _ _, hK⟩
  refine hR.snoc hb (fun x hx => ?_) ⟨v, by simp [Env.set], by simp [Env.set], own_base hown (Nat.zero_le _)⟩
  rcases hown.2 with ⟨h1, _⟩ | ⟨g, cap, cur, h1, hg, hh, _⟩
  · rw [h1] at hx; cases hx
  · rw [h1] at hx; simp [Value.ownBlock] at hx; subst hx
    refine ⟨hg, ?_⟩
    rcases Nat.lt_or_ge g w'.heap.size with h2 | h2
    · exact h2
    · rw [Array.getElem?_eq_none h2] at hh; cases hh
end Go.Proofs.Ytmjfgnnefcimiaa
