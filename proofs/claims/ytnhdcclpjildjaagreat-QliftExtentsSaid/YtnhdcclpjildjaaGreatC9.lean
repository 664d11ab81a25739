/- Regions whose order is drawn: operations that read, and calls that leave alone what lay there, in wh. -/
import Derived.RangeFuncBound
import Derived.RangeFuncLeaves
import Derived.Conc.MuLone
import Derived.Shelf.SlicesQ.Reverse
import Derived.Ground.SlgnProg
import Derived.OrdersHeld
import Derived.Laws.BytesString
import Derived.Test.YtnhdcclpjildjaaGreatC8
namespace Go.Proofs.YtnhdcclpjildjaaGreat
open Go.RowKit

section
variable {P : Program} {ops : Array Oper} {md : Region.Mode} {C : World → Prop}
def headAny (P : Program) (md : Region.Mode) (ops : Array Oper) (C : World → Prop) (n : Nat) (L : Array Bool → Act → Prop) : Nat → Array Bool → Act → Prop
 | 0, listed, a => L listed a
 | f + 1, listed, a => Region.ready md ops listed ≠ [] ∧ ∀ i ∈ Region.ready md ops listed, i < n ∧ qOp P ops C i (headAny P md ops C n L f (listed.setIfInBounds i true)) a
theorem headAny_any {n g : Nat} {L : Array Bool → Act → Prop} {Q' : Exit → Act → World → Prop} (hL : ∀ listed a w, C w → L listed a → wpAny P md ops Q' g listed a w) :
  ∀ (f : Nat) (listed : Array Bool) (a : Act) (w : World), C w → headAny P md ops C n L f listed a → wpAny P md ops Q' (f + g) listed a w
 | 0, listed, a, w, hw, h => by rw [Nat.zero_add]; exact hL _ _ _ hw h
 | f + 1, listed, a, w, hw, h => by
  rw [show f + 1 + g = (f + g) + 1 by omega]
  exact ⟨fun h0 => absurd h0 h.1, fun i hi => wpOp_of_qOp hw (fun a' w' hw' h' => headAny_any hL f _ a' w' hw' h') (h.2 i hi).2⟩
theorem headAny_take {n i : Nat} {oi : Oper} {v : Value} {L : Array Bool → Act → Prop} (hi : ops[i]? = some oi) (hns : Region.noSelect ops = true) (hs : Region.sinkB md ops n = true) (hc : Region.chainB md ops n = true) (hn : n < ops.size) (hin : i < n)
  (hdone : ∀ listed a, L listed a → ∀ j ∈ Region.ready md ops listed, n ≤ j) :
  ∀ (f : Nat) (listed : Array Bool) (a : Act), HeadInv md ops n listed → (∀ j oj, ops[j]? = some oj → j ≠ i → listed.getD j true = false → (∀ e ∈ oj.after, Region.binds md e = true → e.on ≠ i) → oi.apart ops oj = true) →
   i ∈ Region.ready md ops listed → YieldsIn P ops C oi v a → headAny P md ops C n L f (listed.setIfInBounds i true) (a.put oi.dst v) → headAny P md ops C n L (f + 1) listed a := by
 have hsel := Region.noSelect_spec hns
 intro f
 induction f with
 | zero =>
  intro listed a inv hfree hr hy H
  have hun := (mem_ready.1 hr).1
  refine ⟨(fun h => by rw [h] at hr; cases hr), fun j hj => ?_⟩
  have hjn : j < n := Nat.lt_of_not_le fun h => tail_waits hs hc hn inv _ i rfl hin hun j h hj
  by_cases hji : j = i
  ·subst hji; exact ⟨hjn, hy.qOp hi H⟩
  ·have := hdone _ _ H j (ready_mono hj hji); omega
 | succ f ih =>
  intro listed a inv hfree hr hy H
  have hun := (mem_ready.1 hr).1
  refine ⟨(fun h => by rw [h] at hr; cases hr), fun j hj => ?_⟩
  have hjn : j < n := Nat.lt_of_not_le fun h => tail_waits hs hc hn inv _ i rfl hin hun j h hj
  refine ⟨hjn, ?_⟩
  by_cases hji : j = i
  ·subst hji; exact hy.qOp hi H
  ·obtain ⟨hjun, oj, hoj, hall⟩ := mem_ready.1 hj
   have hnot : ∀ e ∈ oj.after, Region.binds md e = true → e.on ≠ i := fun e he hb heq => by
    have h1 := hall e he hb
    rw [heq, getD_both hun] at h1; cases h1
   have hq := qOp_put hoj (hfree j oj hoj hji hjun hnot) (fun cs b => hsel i oi cs b hi) (fun cs b => hsel j oj cs b hoj) hy (H.2 j (ready_mono hj hji)).2
   refine qOp_mono (fun a' h3 => ih (listed.setIfInBounds j true) a' (inv.set hj hjn) (fun k ok hk hki hku hno => hfree k ok hk hki ?_ hno) (ready_mono hr (Ne.symm hji)) h3.1 ?_) hq
   ·by_cases hjk : j = k
    ·subst hjk; exact hjun
    ·rwa [getD_set_ne true hjk] at hku
   ·rw [Array.setIfInBounds_comm _ _ hji]; exact h3.2
theorem headAny_lex {n g : Nat} {Lq : Act → Prop} (hns : Region.noSelect ops = true) (hs : Region.sinkB md ops n = true) (hc : Region.chainB md ops n = true) (hn : n < ops.size) :
  ∀ (l : List Oper) (k : Nat) (listed : Array Bool) (a : Act), (∀ j, j < l.length → l[j]? = ops[k + j]?) → k + l.length = n → HeadInv md ops n listed → Region.lexHead md ops g l.length k listed = true → wpQuiet P ops C Lq l a →
   headAny P md ops C n (fun listed' a' => Region.seqB md ops g n listed' = true ∧ Lq a') l.length listed a
 | [], k, listed, a, _, hk, _, hB, h => by
  have hkn : k = n := by simpa using hk
  subst hkn
  exact ⟨by simpa [Region.lexHead] using hB, h⟩
 | o :: l, k, listed, a, hl, hk, inv, hB, h => by
  have h0 : ops[k]? = some o := by simpa using (hl 0 (by simp)).symm
  simp only [List.length_cons, Region.lexHead, Bool.and_eq_true] at hB
  have hkn : k < n := by simp only [List.length_cons] at hk; omega
  have hr : k ∈ Region.ready md ops listed := by simpa using hB.1.1
  have hq : qOp P ops C k (wpQuiet P ops C Lq l) a := by unfold qOp; simp only [h0]; exact h
  obtain ⟨v, hy, hK⟩ := yieldsIn_of_qOp h0 hq
  exact headAny_take h0 hns hs hc hn hkn (fun listed' a' hL => seqB_ready hL.1) l.length listed a inv (Region.free_spec h0 hB.1.2) hr hy
   (headAny_lex hns hs hc hn l (k + 1) _ _ (fun j hj => by have := hl (j + 1) (by simp; omega); simpa [Nat.add_assoc, Nat.add_comm 1 j] using this) (by simp only [List.length_cons] at hk; omega) (inv.set hr hkn) hB.2 hK)
theorem region_quiet_tail {id : Nat} {Q : Exit → Act → World → Prop} {a : Act} {w : World} {l : List Oper} (n : Nat) (hm : P.follows .mixedOrders = true) (hB : Region.lexTailB .any l.toArray n = true) (hC : C w.drew)
  (h : wpQuiet P l.toArray C (fun a' => ∀ w', C w' → wpList P l.toArray Q (l.drop n) a' w') (l.take n) a) : (Code.region id l.toArray true).wp P Q a w := by
 simp only [Region.lexTailB, Bool.and_eq_true, decide_eq_true_eq] at hB
 obtain ⟨⟨⟨⟨hns, hn⟩, hs⟩, hc⟩, hlex⟩ := hB
 have hnl : n < l.length := by simpa using hn
 have htl : (l.take n).length = n := by simp; omega
 have hdl : (l.drop n).length = l.toArray.size - n := by simp
 have inv0 : HeadInv .any l.toArray n (Array.replicate l.toArray.size false) :=
  ⟨by simp, (fun j oj _ hl => by rw [getD_replicate_false] at hl; cases hl), fun t _ ht => getD_in (by simpa using ht) (getD_replicate_false _ _)⟩
 have H := headAny_lex (md := .any) (g := l.toArray.size - n) hns hs hc hn (l.take n) 0 _ a (fun j hj => by rw [htl] at hj; simp [hj]) (by simpa using htl) inv0 (by rw [htl]; exact hlex) h
 refine wp_region_any hm ?_
 have := headAny_any (Q' := Q) (g := l.toArray.size - n) (fun listed a' w' hw' hL => by
  have := wpAny_of_seq (md := .any) (Q' := Q) (l.drop n) n listed a' w' (fun j => by simp [List.getElem?_drop]) (by rw [hdl]; exact hL.1) (hL.2 w' hw')
  rwa [hdl] at this) _ _ _ w.drew hC H
 rw [htl, show n + (l.toArray.size - n) = l.toArray.size by omega] at this
 exact this
end
/-! The same over states that are known part by part. -/
structure QCall (P : Program) (w0 : World) (G : Gs) (S : List Ow) (fid : FuncId) (args : List AV) (K : AV → Prop) : Prop where
 out : fnOk P fid = true ∧ ∃ x : Value, K (AV.of x) ∧ ∀ r w us, Rel w0 G S r w → avdenL r args us → Calls P fid us.toArray w fun e w' => e = .returned x ∧ Below w.heap.size w w'
def qcallK (P : Program) (w0 : World) (G : Gs) (S : List Ow) (f : Fr) (o : Oper) (K : AV → Prop) : Prop :=
 match o.op with
 | .call ⟨.value fn, args, _⟩ => (match f.ev fn with
  | .p (.c (.clo (.func fid) cap)) => evL f args.toList fun vs => QCall P w0 G S fid (vs ++ cap.map fun c => .p (.c c)) K
  | _ => False)
 | _ => (match opTy P o.op with | true => qop P w0 G S f o K | false => False)
def quietK (P : Program) (w0 : World) (G : Gs) (N : Nd) (ops : Array Oper) (S : List Ow) : Nat → List Oper → Fr → (Fr → Prop) → Prop
 | _, [], f, K => K f
 | 0, _ :: _, _, _ => False
 | n + 1, o :: rest, f, K => (match dstOk N.n o.dst with
  | false => False
  | true => (match o.guard with
   | none => qcallK P w0 G S f o fun v => f.putK o.dst v fun f' => quietK P w0 G N ops S n rest f' K
   | some (j, pol) => (match slotOf ops j with
    | none => False
    | some d => (match f.get d with
     | .p (.c (.v (.bool x))) => (x = pol → qcallK P w0 G S ((d, one (.bool pol)) :: f) o fun v => Fr.putK ((d, one (.bool pol)) :: f) o.dst v fun f' => quietK P w0 G N ops S n rest f' K) ∧
       (x = (!pol) → Fr.putK ((d, one (.bool (!pol))) :: f) o.dst (.p (.c .any)) fun f' => quietK P w0 G N ops S n rest f' K)
     | _ => False))))
section
variable {P : Program} {w0 : World} {G : Gs} {N : Nd} {ops : Array Oper} {S : List Ow} {r : Env} {w1 : World}
theorem qcallK_sound (hR : Rel w0 G S r w1) {f : Fr} {o : Oper} {K : AV → Prop} (h : qcallK P w0 G S f o K) {a : Act} (hf : FDen r f a) :
  ∃ v u, K v ∧ v.den r u ∧ ∀ w, Below w1.heap.size w1 w → o.quietAt P a (fun w' => Below w1.heap.size w1 w') w u := by
 unfold qcallK at h
 split at h
 ·rename_i fn args tys hop
  have hfn := hf.ev fn
  split at h
  ·rename_i fid cap he
   rw [he] at hfn
   obtain ⟨us, hu, hcap⟩ := den_clo hfn
   rw [evL_iff] at h
   obtain ⟨hok, x, hK, hc⟩ := h.out
   refine ⟨_, x, hK, AV.of_den r x, fun w hw => ?_⟩
   have hrun : (execOp a.eval o).run P w = .ok (.enter fid ((args.map a.eval) ++ us.toArray)) w := by
    simp [execOp, hop, resolve, Deferred.ofValue, hu, invoke, run_callFunc hok]
   unfold Oper.quietAt
   rw [hrun]
   refine ⟨rfl, ?_⟩
   have := hc r w ((args.toList.map a.eval) ++ us) (hR.below hw) (avdenL_append (avdenL_ev hf _) (avdenL_cap hcap))
   rw [show ((args.toList.map a.eval) ++ us).toArray = (args.map a.eval) ++ us.toArray by apply Array.ext'; simp] at this
   exact Calls.mono this fun e w' ⟨h1, h2⟩ => ⟨h1, hw.trans (h2.mono hw.size)⟩
  ·exact h.elim
 ·split at h
  ·rename_i hty
   obtain ⟨v, u, hK, hd, hrun⟩ := qop_sound h hty hR hf
   refine ⟨v, u, hK, hd, fun w hw => ?_⟩
   unfold Oper.quietAt
   rw [hrun w hw]
   exact ⟨rfl, rfl⟩
  ·exact h.elim
theorem quietK_sound (hR : Rel w0 G S r w1) {Q : Act → Prop} : ∀ (n : Nat) (l : List Oper) (f : Fr) (K : Fr → Prop), quietK P w0 G N ops S n l f K → (∀ f' a', K f' → FDen r f' a' → a'.tmps.size = N.n → a'.defers = N.ds → Q a') →
  ∀ a, FDen r f a → a.tmps.size = N.n → a.defers = N.ds → wpQuiet P ops (fun w' => Below w1.heap.size w1 w') Q l a
 | _, [], f, K, h, hK, a, hf, hN, hd => by cases ‹Nat› <;> exact hK f a h hf hN hd
 | 0, o :: l, f, K, h, hK, a, hf, hN, hd => h.elim
 | n + 1, o :: l, f, K, h, hK, a, hf, hN, hd => by
  unfold quietK at h
  have run : ∀ {f : Fr}, FDen r f a → dstOk N.n o.dst = true → Region.wanted o (yielded ops a.tmps) = true → (qcallK P w0 G S f o fun v => f.putK o.dst v fun f' => quietK P w0 G N ops S n l f' K) → wpQuiet P ops (fun w' => Below w1.heap.size w1 w') Q (o :: l) a := by
   intro f hf hdst hw h
   obtain ⟨v, u, hKv, hv, hrun⟩ := qcallK_sound hR h hf
   unfold wpQuiet
   rw [if_pos hw]
   exact ⟨u, hrun, quietK_sound hR n l _ K (putK_iff.1 hKv) hK _ (hf.put hv (by rw [hN]; exact hdst)) ((put_size a _ _).trans hN) ((put_defers a _ _).trans hd)⟩
  split at h
  ·exact h.elim
  ·rename_i hdst
   split at h
   ·rename_i hg
    exact run hf hdst (wanted_none hg _) h
   ·rename_i j pol hg
    split at h
    ·exact h.elim
    ·rename_i d hs
     split at h
     ·rename_i x hfx
      have hk : ∀ y, x = y → FDen r ((d, one (.bool y)) :: f) a := fun y hy k => by
       simp only [Fr.get]
       split
       ·rename_i hdk; have := Nat.eq_of_beq_eq_true hdk; subst this; rw [← hy, ← show f.get d = one (.bool x) from hfx]; exact hf d
       ·exact hf k
      have hyl := yielded_of hf hs hfx
      by_cases hx : x = pol
      ·exact run (hk _ hx) hdst (by rw [wanted_some hg, hyl, hx]; simp) (h.1 hx)
      ·have hx' : x = !pol := by cases x <;> cases pol <;> simp_all
       unfold wpQuiet
       rw [if_neg (by rw [wanted_some hg, hyl]; simpa using hx)]
       exact quietK_sound hR n l _ K (putK_iff.1 (h.2 hx')) hK _ ((hk _ hx').putAny undef (by rw [hN]; exact hdst)) ((put_size a _ _).trans hN) ((put_defers a _ _).trans hd)
     ·exact h.elim
theorem sat_tail {id : Nat} {l : List Oper} {f : Fr} {K : Exit → Fr → List Ow → Prop} (n : Nat) (hm : P.follows .mixedOrders = true) (hB : Region.lexTailB .any l.toArray n = true)
  (h : quietK P w0 G N l.toArray S (l.take n).length (l.take n) f fun f' => opsK P w0 G N l.toArray (l.drop n).length (l.drop n) f' S (K .normal)) : Sat none P w0 G N (.region id l.toArray true) f S K := by
 refine ⟨fun n' a w ⟨r, hR, hf, hN, hd⟩ => wpIn_wide.2 ?_⟩
 refine region_quiet_tail (C := fun w' => Below w.drew.heap.size w.drew w') n hm hB (Below.refl _ _) ?_
 refine quietK_sound hR.drew _ _ f _ h (fun f' a' hk hf' hN' hd' w' hw' => ?_) a hf hN hd
 exact seL_wp (opsK_sound _ _ f' S _ hk (fun f2 S2 a2 w2 hk2 hg2 => ⟨f2, S2, hk2, hg2⟩) a' w' ⟨r, hR.drew.below hw', hf', hN', hd'⟩)
theorem sat_quiet {id : Nat} {l : List Oper} {f : Fr} {K : Exit → Fr → List Ow → Prop} (hm : P.follows .mixedOrders = true) (hB : Region.lexB .any l.toArray = true)
  (h : quietK P w0 G N l.toArray S l.length l f fun f' => K .normal f' S) : Sat none P w0 G N (.region id l.toArray true) f S K := by
 refine ⟨fun n' a w ⟨r, hR, hf, hN, hd⟩ => wpIn_wide.2 ?_⟩
 refine wp_region_quiet (C := fun w' => Below w.drew.heap.size w.drew w') hm hB (Below.refl _ _) ?_
 exact quietK_sound (Q := fun a' => ∀ w', Below w.drew.heap.size w.drew w' → PostK w0 G N K .normal a' w') hR.drew _ _ f _ h (fun f' a' hk hf' hN' hd' w' hw' => ⟨f', S, hk, r, hR.drew.below hw', hf', hN', hd'⟩) a hf hN hd
end
section
variable {P : Program} {w0 : World} {G : Gs} {fid : FuncId} {args : List AV} {S : List Ow} {K : AV → Prop} {xs : List Value} {x : Value}
theorem q_con (hx : avals args = some xs) (hok : fnOk P fid = true) (h : ∀ r w, Rel w0 G S r w → Calls P fid xs.toArray w fun e w' => e = .returned x ∧ Below w.heap.size w w') (hK : K (AV.of x)) : QCall P w0 G S fid args K :=
 ⟨⟨hok, x, hK, fun r w us hR hd => by rw [avals_den hx hd]; exact h r w hR⟩⟩
end
theorem Rel.rowAt {w0 : World} {G : Gs} {S : List Ow} {r : Env} {w : World} (hR : Rel w0 G S r w) {i : Nat} {e : TypeId} {size n : Nat} {xs : List Value} (hi : S[i]? = some (.row e size n xs)) {u : Value} (hu : r.val i = some u) :
  ∃ A c, u = .slice A n c ∧ SlAt w w.heap.size A xs ∧ n ≤ c ∧ c ≤ maxLen := by
 obtain ⟨v, hv, _, hown⟩ := hR.own i _ hi
 rw [hu] at hv; injection hv with hv; subst hv
 obtain ⟨A, c, h1, h2, h3, h4, _⟩ := own_slice hown
 exact ⟨A, c, h1, h2, h3, h4⟩
theorem den_row {r : Env} {i : Nat} {u : Value} (h : AV.den r (.p (.c (.row i))) u) : r.val i = some u := by simpa only [AV.den, Pc.den, CV.den] using h
theorem den_sl {r : Env} {i off n c : Nat} {u : Value} (h : AV.den r (.p (.c (.sl i off n c))) u) : ∃ b, r.blk i = some b ∧ u = .slice (some ⟨b, off, none⟩) n c := by simpa only [AV.den, Pc.den, CV.den] using h
end Go.Proofs.YtnhdcclpjildjaaGreat
namespace Go.Proofs.YtnhdcclpjildjaaGreat
open Go.RowKit

abbrev mapOw (R : Value → Option (DataW Unit × List MemPlace)) (cd : Int → DataW Unit) (n : Nat) (f : Int → Option Int) : Ow := .ext fun b w => IMap R cd w b n f
section
variable {R : Value → Option (DataW Unit × List MemPlace)} {mk : Int → Value} {cd : Int → DataW Unit} {good : Int → Prop} {n : Nat} {m : Int → Option Int}
variable {w0 : World} {G : Gs} {N : Nd} {o : Oper} {f : Fr} {S : List Ow} {K : Fr → List Ow → Prop}
theorem imap_holds {r : Env} {w : World} {i b : Nat} (hb : r.blk i = some b) (h : IMap R cd w b n m) : (mapOw R cd n m).holds r w i := ⟨b, hb, h, fun _w' hw => h.block hw⟩
theorem op_makeMap {t : TypeId} (hop : o.op = .makeMap t none) (hdst : dstOk N.n o.dst = true) (hk : K (f.put o.dst (.p (.c (.mp S.length)))) (S ++ [mapOw R cd 0 fun _ => none])) : OpS Tryz.prog w0 G N o f S K := by
 refine ⟨fun r a w hR hf hN hd next Q hK => ?_⟩
 have hrun : (execOp a.eval o).run Tryz.prog w = .ok (.value (.map (some w.heap.size))) (w.alloc (.map #[] 0)) := by
  simp [execOp, hop, Instr.makeMap]
 have hle := hR.le_new (some w.heap.size) none
 refine wp_of_value hrun (hK _ _ _ _ hk (good_value hR hf hN hd hdst (r' := r.set S.length (some w.heap.size) none) ?_ (hR.snoc ((Below.refl _ _).alloc (Nat.le_refl _) _) (fun x hx => by injection hx with hx; subst hx; simp) (imap_holds (by simp [Env.set]) (IMap.made w))) hle))
 simp only [AV.den, Pc.den, CV.den]
 exact ⟨w.heap.size, by simp [Env.set], rfl⟩
theorem Rel.lt_of_blk {S : List Ow} {r : Env} {w : World} (h : Rel w0 G S r w) {i b : Nat} (hb : r.blk i = some b) : i < S.length := by
 rcases Nat.lt_or_ge i S.length with h1 | h1
 ·exact h1
 ·rw [h.outB i h1] at hb; cases hb
theorem den_mp {r : Env} {i : Nat} {u : Value} (h : AV.den r (.p (.c (.mp i))) u) : ∃ b, r.blk i = some b ∧ u = .map (some b) := by simpa only [AV.den, Pc.den, CV.den] using h
end
section
variable {n : Nat} {m : Int → Option Int} {w0 : World} {G : Gs} {o : Oper} {f : Fr} {S : List Ow} {K : AV → Prop}
theorem q_look_i64 {mo x : Operand} (hop : o.op = .lookup 176 mo x true) (i : Nat) (k : Int) (hm : f.ev mo = .p (.c (.mp i))) (hi : S[i]? = some (mapOw i64R i64D n m)) (hx : f.ev x = one (.int .i64 k)) (hkw : (Lit.int .i64 k).wf = true)
  (hK : K (.tup [.c (.v (.int .i64 ((m k).getD 0))), .c (.v (.bool (m k).isSome))])) : QRun Tryz.prog w0 G S f o K := by
 refine ⟨_, hK, fun r a hf => ⟨.tuple #[.int .i64 ((m k).getD 0), .bool (m k).isSome], ⟨_, rfl, _, _, rfl, by simp [Pc.den, CV.den], _, _, rfl, by simp [Pc.den, CV.den], rfl⟩, fun w hR => ?_⟩⟩
 have h1 := hf.ev mo
 have h2 := hf.ev x
 rw [hm] at h1; rw [hx] at h2
 obtain ⟨b, hb, hu⟩ := den_mp h1
 obtain ⟨b', hb', hmap, _⟩ := hR.own i _ hi
 rw [hb] at hb'; injection hb' with hb'; subst hb'
 simp [execOp, hop, hu, den_v h2, look_i64 hmap hkw]
end
theorem cells_one {w0 : World} {G : Gs} {b off : Nat} {x : Value} (hb : b < w0.heap.size) (hG : b ∉ G) (h : w0.cell? ⟨b, off, none⟩ = some x) : CellsAt w0 G b off [x] :=
 ⟨hb, hG, fun j u hj => by cases j with | zero => simp at hj; subst hj; exact h | succ j => simp at hj⟩
theorem cells_list {w0 : World} {G : Gs} {b off : Nat} {xs : List Value} (hb : b < w0.heap.size) (hG : b ∉ G) (h : ∀ j u, xs[j]? = some u → w0.cell? ⟨b, off + j, none⟩ = some u) : CellsAt w0 G b off xs := ⟨hb, hG, h⟩
section
variable {n b : Nat} {m : Int → Option Int} {w0 : World} {G : Gs} {o : Oper} {f : Fr} {S : List Ow} {K : AV → Prop}
end
end Go.Proofs.YtnhdcclpjildjaaGreat
namespace Go.Proofs.YtnhdcclpjildjaaGreat
open Go.RowKit

section
variable {R : Value → Option (DataW Unit × List MemPlace)} {cd : Int → DataW Unit} {n : Nat} {m m' : Int → Option Int}
variable {w0 : World} {G : Gs} {fid : FuncId} {S : List Ow} {K : AV → List Ow → Prop} {x : Value}
end
theorem calls_val {P : Program} {fid : FuncId} {fn : Func} {c : Code} {N : Nat} {w0 : World} (xs : List Value) (hf : P.funcs[fid]? = some fn) (hN : fn.ntmps = N) (hb : fn.body = some c) (hle : xs.length ≤ N) {R : Ending → World → Prop}
  (h : vc none P w0 Gs.nil ⟨N, []⟩ c (argFr (xs.map fun x => AV.of x) 0) [] (RetK P w0 Gs.nil fn.results.toList R)) : Calls P fid xs.toArray w0 R :=
 calls_vc hf hN hb (rel_none w0) (avdenL_of xs) hle h
theorem wr64 {n : Int} (h : -9223372036854775808 ≤ n ∧ n < 9223372036854775808) : IntKind.i64.wrap n = n := by
 have e : IntKind.i64.wrap n = wrap64 n := by
  show (if (true && decide (n % (2 ^ 64 : Int) ≥ (2 ^ 63 : Int))) then n % (2 ^ 64 : Int) - (2 ^ 64 : Int) else n % (2 ^ 64 : Int)) = _
  unfold wrap64
  by_cases h : n % (2 ^ 64 : Int) ≥ (2 ^ 63 : Int)
  ·rw [decide_eq_true h]; simp only [Bool.and_self, if_true]; omega
  ·rw [decide_eq_false h]; simp only [Bool.and_false, Bool.false_eq_true, if_false]; omega
 rw [e]; unfold wrap64; omega
theorem wr32 (n : Int) : IntKind.u32.wrap n = n % 4294967296 := by
 show (if (false && decide (n % (2 ^ 32 : Int) ≥ (2 ^ 31 : Int))) then n % (2 ^ 32 : Int) - (2 ^ 32 : Int) else n % (2 ^ 32 : Int)) = _
 simp
end Go.Proofs.YtnhdcclpjildjaaGreat
namespace Go.Proofs.YtnhdcclpjildjaaGreat
open Go.RowKit

structure FoldSt (n : Nat) (ops : List BOp) where
 k : Nat
 f : Int → Option Int
 out : List BOp
 hk : k ≤ n
 hw : wordsF f
 hl : out.length ≤ k
 eq : foldRun noneF ops = out ++ foldRun f (ops.drop k)
end Go.Proofs.YtnhdcclpjildjaaGreat
namespace Go.Proofs.YtnhdcclpjildjaaGreat
open Go.RowKit

theorem wpListIn_split {P : Program} {ops : Array Oper} {Q : Exit → Act → World → Prop} {Q1 : Act → World → Prop} (ro : Option Nat) (n : Nat) : ∀ (k : Nat) {l : List Oper} {a : Act} {w : World}, seL P ops Q1 (l.take k) a w → (∀ a w, Q1 a w → wpListIn (fenceR ro) n P ops Q (l.drop k) a w) → wpListIn (fenceR ro) n P ops Q l a w
 | 0, l, a, w, h, h2 => by simpa using h2 a w h
 | k + 1, [], a, w, h, h2 => by simpa using h2 a w h
 | k + 1, o :: l, a, w, h, h2 => by
  simp only [List.take_succ_cons, List.drop_succ_cons] at h h2
  unfold seL at h
  unfold wpListIn
  split at h
  ·rename_i hw; rw [if_pos hw]; exact se_wpIn ro n h fun a w h => wpListIn_split ro n k h h2
  ·rename_i hw; rw [if_neg hw]; exact ⟨fun f _ => fenceR_fn ro f, wpListIn_split ro n k h h2⟩
def Slots (a : Act) : List (Nat × Value) → Prop
 | [] => True
 | (d, v) :: l => a.tmps.getD d undef = v ∧ Slots a l
def slotFr : List (Nat × Value) → Fr
 | [] => []
 | (d, v) :: l => (d, AV.of v) :: slotFr l
theorem slots_den {r : Env} {a : Act} : ∀ {l : List (Nat × Value)}, Slots a l → FDen r (slotFr l) a
 | [], _ => fun k => by simp [slotFr, Fr.get, AV.den, Pc.den, CV.den]
 | (d, v) :: l, h => fun k => by
  simp only [slotFr, Fr.get]
  split
  ·rename_i hk; have := Nat.eq_of_beq_eq_true hk; subst this
   rw [h.1]; exact AV.of_den r v
  ·exact slots_den h.2 k
end Go.Proofs.YtnhdcclpjildjaaGreat
namespace Go.Proofs.YtnhdcclpjildjaaGreat
open Go.RowKit

/-! Frames that name only some own entries, by their blocks. -/
def CV.fx (ok : Nat → Bool) : CV → Bool
 | .v _ => true
 | .ref i _ => ok i
 | .any => true
 | _ => false
def fxL (ok : Nat → Bool) : List CV → Bool
 | [] => true
 | c :: l => match c.fx ok with | true => fxL ok l | false => false
def AV.fx (ok : Nat → Bool) : AV → Bool
 | .p (.c x) => x.fx ok
 | .p (.agg l) => fxL ok l
 | _ => false
def Fr.fx (ok : Nat → Bool) : Fr → Bool
 | [] => true
 | (_, x) :: f => match x.fx ok with | true => Fr.fx ok f | false => false
section
variable {ok : Nat → Bool} {r r' : Env}
theorem CV.den_fx (h : ∀ i b, ok i = true → r.blk i = some b → r'.blk i = some b) : ∀ {c : CV} {u : Value}, c.fx ok = true → c.den r u → c.den r' u
 | .v x, u, _, hd => by simpa only [CV.den] using hd
 | .ref i off, u, hb, hd => by
  simp only [CV.den] at hd ⊢; obtain ⟨x, hx, hu⟩ := hd
  exact ⟨x, h i x hb hx, hu⟩
 | .any, u, _, hd => by simp only [CV.den]
 | .vref .., _, hb, _ => by cases hb
 | .row .., _, hb, _ => by cases hb
 | .sl .., _, hb, _ => by cases hb
 | .mp .., _, hb, _ => by cases hb
 | .clo .., _, hb, _ => by cases hb
theorem denL_fx (h : ∀ i b, ok i = true → r.blk i = some b → r'.blk i = some b) : ∀ {l : List CV} {us : List Value}, fxL ok l = true → denL r l us → denL r' l us
 | [], us, _, hd => by simpa only [denL] using hd
 | c :: cs, us, hb, hd => by
  simp only [denL] at hd ⊢; obtain ⟨u, l, hu, hc, hl⟩ := hd
  simp only [fxL] at hb
  split at hb
  ·rename_i hb1; exact ⟨u, l, hu, CV.den_fx h hb1 hc, denL_fx h hb hl⟩
  ·cases hb
theorem AV.den_fx (h : ∀ i b, ok i = true → r.blk i = some b → r'.blk i = some b) {x : AV} {u : Value} (hx : x.fx ok = true) (hd : x.den r u) : x.den r' u := by
 unfold AV.fx at hx
 split at hx
 ·exact CV.den_fx h hx hd
 ·obtain ⟨us, hu, hl⟩ := hd; exact ⟨us, hu, denL_fx h hx hl⟩
 ·cases hx
theorem Fr.fx_get : ∀ {f : Fr} (k : Nat), f.fx ok = true → (f.get k).fx ok = true
 | [], k, _ => rfl
 | (d, x) :: f, k, h => by
  simp only [Fr.fx] at h
  split at h
  ·simp only [Fr.get]
   split
   ·assumption
   ·exact Fr.fx_get k h
  ·cases h
theorem FDen.fx {f : Fr} {a : Act} (hf : FDen r f a) (h : ∀ i b, ok i = true → r.blk i = some b → r'.blk i = some b) (hx : f.fx ok = true) : FDen r' f a := fun k => AV.den_fx h (Fr.fx_get k hx) (hf k)
end
/-! Own entries of cells. -/
def Ow.flat : Ow → Bool
 | .cells _ _ => true
 | .row _ _ _ _ => true
 | _ => false
section
variable {w0 : World} {G : Gs} {S : List Ow} {r : Env} {W : World}
end
end Go.Proofs.YtnhdcclpjildjaaGreat
namespace Go.Proofs.YtnhdcclpjildjaaGreat
open Go.RowKit

structure SatQ (P : Program) (w0 : World) (G : Gs) (N : Nd) (c : Code) (f : Fr) (S : List Ow) (Q : Exit → Act → World → Prop) : Prop where
 out : ∀ a w, Good w0 G N f S a w → c.wpIn Fence.wide 10 P Q a w
structure AtQ (w0 : World) (G : Gs) (N : Nd) (e : Exit) (f : Fr) (S : List Ow) (Q : Exit → Act → World → Prop) : Prop where
 out : ∀ a w, Good w0 G N f S a w → Q e a w
section
variable {P : Program} {w0 : World} {G : Gs} {N : Nd} {c d : Code} {f : Fr} {S : List Ow} {Q : Exit → Act → World → Prop}
theorem satq_vc (h : vc none P w0 G N c f S fun e f S => AtQ w0 G N e f S Q) : SatQ P w0 G N c f S Q :=
 ⟨fun a w hg => wpIn_mono ((vc_sound (ro := none) c f S _ h).out 10 a w hg) fun _e a' w' ⟨_f', _S', hk, hg'⟩ => hk.out a' w' hg'⟩
theorem satq_seq (h : vc none P w0 G N c f S fun e f S => match e with | .normal => SatQ P w0 G N d f S Q | e => AtQ w0 G N e f S Q) : SatQ P w0 G N (.seq c d) f S Q :=
 ⟨fun a w hg => wpIn_seq (wpIn_mono ((vc_sound (ro := none) c f S _ h).out 10 a w hg) fun e a' w' ⟨f', S', hk, hg'⟩ => by
  cases e with
  | normal => exact hk.out a' w' hg'
  | exit id => exact hk.out a' w' hg'
  | goto l => exact hk.out a' w' hg'
  | ret => exact hk.out a' w' hg'
  | panic ch => exact hk.out a' w' hg'
  | outgrown => exact hk.out a' w' hg')⟩
theorem satq_in (h : SatQ P w0 G N c f S (Exit.then (d.wpIn Fence.wide 10 P Q) Q)) : SatQ P w0 G N (.seq c d) f S Q := ⟨fun a w hg => wpIn_seq (h.out a w hg)⟩
theorem satq_block {id : Nat} (h : SatQ P w0 G N c f S (Exit.inBlock id Q)) : SatQ P w0 G N (.block id c) f S Q := ⟨fun a w hg => wpIn_block (h.out a w hg)⟩
end
structure EntB (f : Fr) (S : List Ow) (f' : Fr) (S' : List Ow) : Prop where
 out : ∀ w0 w r a, Rel w0 Gs.nil S r w → FDen r f a → ∃ r', Rel w0 Gs.nil S' r' w ∧ FDen r' f' a ∧ ∀ i b, r'.blk i = some b → ∃ j, r.blk j = some b
end Go.Proofs.YtnhdcclpjildjaaGreat
namespace Go.Proofs.YtnhdcclpjildjaaGreat
open Go.RowKit

theorem rel_setSame {w0 : World} {G : Gs} {S : List Ow} {r : Env} {w : World} (h : Rel w0 G S r w) {i : Nat} {o : Ow} (ho : o.holds r w i) : Rel w0 G (S.set i o) r w := by
 refine ⟨h.os, h.tape, h.output, h.size, h.old, fun j o' hj => ?_, h.inj, h.new, fun j hj => h.outB j (by simpa using hj), fun j hj => h.outV j (by simpa using hj), h.first⟩
 rw [List.getElem?_set] at hj
 split at hj
 ·rename_i hij; subst hij
  split at hj
  ·injection hj with hj; subst hj; exact ho
  ·cases hj
 ·exact h.own j o' hj
mutual
def CV.ren (σ : Nat → Nat) : CV → CV
 | .v x => .v x
 | .ref i o => .ref (σ i) o
 | .vref i o => .vref (σ i) o
 | .row i => .row (σ i)
 | .sl i o n c => .sl (σ i) o n c
 | .mp i => .mp (σ i)
 | .clo f cap => .clo f (renL σ cap)
 | .any => .any
def renL (σ : Nat → Nat) : List CV → List CV
 | [] => []
 | c :: l => c.ren σ :: renL σ l
end
def Pc.ren (σ : Nat → Nat) : Pc → Pc
 | .c x => .c (x.ren σ)
 | .agg l => .agg (renL σ l)
def prenL (σ : Nat → Nat) : List Pc → List Pc
 | [] => []
 | c :: l => c.ren σ :: prenL σ l
def AV.ren (σ : Nat → Nat) : AV → AV
 | .p x => .p (x.ren σ)
 | .tup l => .tup (prenL σ l)
def Ow.ren (σ : Nat → Nat) : Ow → Ow
 | .cells t l => .cells t (renL σ l)
 | o => o
def Env.comp (r : Env) (σ : Nat → Nat) (n : Nat) : Env := ⟨fun i => if i < n then r.blk (σ i) else Option.none, fun i => if i < n then r.val (σ i) else Option.none⟩
section
variable {r : Env} {σ : Nat → Nat} {n : Nat}
theorem comp_blk {i : Nat} (h : i < n) : (r.comp σ n).blk i = r.blk (σ i) := if_pos h
theorem comp_val {i : Nat} (h : i < n) : (r.comp σ n).val i = r.val (σ i) := if_pos h
mutual
theorem CV.den_ren : ∀ (c : CV) (u : Value), c.bnd n = true → (c.ren σ).den r u → c.den (r.comp σ n) u
 | .v x, u, _, hd => by simpa only [CV.den, CV.ren] using hd
 | .ref i off, u, hb, hd => by
  have hi : i < n := by simpa [CV.bnd, Nat.blt_eq] using hb
  simp only [CV.den, CV.ren] at hd ⊢; rw [comp_blk hi]; exact hd
 | .vref i off, u, hb, hd => by
  have hi : i < n := by simpa [CV.bnd, Nat.blt_eq] using hb
  simp only [CV.den, CV.ren] at hd ⊢; rw [comp_val hi]; exact hd
 | .row i, u, hb, hd => by
  have hi : i < n := by simpa [CV.bnd, Nat.blt_eq] using hb
  simp only [CV.den, CV.ren] at hd ⊢; rw [comp_val hi]; exact hd
 | .sl i off m c, u, hb, hd => by
  have hi : i < n := by simpa [CV.bnd, Nat.blt_eq] using hb
  simp only [CV.den, CV.ren] at hd ⊢; rw [comp_blk hi]; exact hd
 | .mp i, u, hb, hd => by
  have hi : i < n := by simpa [CV.bnd, Nat.blt_eq] using hb
  simp only [CV.den, CV.ren] at hd ⊢; rw [comp_blk hi]; exact hd
 | .clo f cap, u, hb, hd => by
  simp only [CV.den, CV.ren] at hd ⊢; obtain ⟨us, hu, hl⟩ := hd
  exact ⟨us, hu, denL_ren cap us (by simpa only [CV.bnd] using hb) hl⟩
 | .any, u, _, hd => by simp only [CV.den]
theorem denL_ren : ∀ (l : List CV) (us : List Value), bndL n l = true → denL r (renL σ l) us → denL (r.comp σ n) l us
 | [], us, _, hd => by simpa only [denL, renL] using hd
 | c :: cs, us, hb, hd => by
  simp only [denL, renL] at hd ⊢; obtain ⟨u, l, hu, hc, hl⟩ := hd
  simp only [bndL] at hb
  split at hb
  ·rename_i h1; exact ⟨u, l, hu, CV.den_ren c u h1 hc, denL_ren cs l hb hl⟩
  ·cases hb
end
theorem Pc.den_ren : ∀ (c : Pc) (u : Value), c.bnd n = true → (c.ren σ).den r u → c.den (r.comp σ n) u
 | .c x, u, hb, hd => CV.den_ren x u hb hd
 | .agg l, u, hb, hd => by obtain ⟨us, hu, hl⟩ := hd; exact ⟨us, hu, denL_ren l us hb hl⟩
theorem pdenL_ren : ∀ (l : List Pc) (us : List Value), pbndL n l = true → pdenL r (prenL σ l) us → pdenL (r.comp σ n) l us
 | [], us, _, hd => hd
 | c :: cs, us, hb, hd => by
  obtain ⟨u, l, hu, hc, hl⟩ := hd
  simp only [pbndL] at hb
  split at hb
  ·rename_i h1; exact ⟨u, l, hu, Pc.den_ren c u h1 hc, pdenL_ren cs l hb hl⟩
  ·cases hb
theorem AV.den_ren : ∀ (c : AV) (u : Value), c.bnd n = true → (c.ren σ).den r u → c.den (r.comp σ n) u
 | .p x, u, hb, hd => Pc.den_ren x u hb hd
 | .tup l, u, hb, hd => by obtain ⟨us, hu, hl⟩ := hd; exact ⟨us, hu, pdenL_ren l us hb hl⟩
end
def FRen (f : Fr) (σ : Nat → Nat) : Fr → Prop
 | [] => True
 | (d, x) :: g => AVle (f.get d) (x.ren σ) ∧ FRen f σ g
theorem FRen.get {f : Fr} {σ : Nat → Nat} : ∀ {g : Fr} (k : Nat), FRen f σ g → g.get k = .p (.c .any) ∨ AVle (f.get k) ((g.get k).ren σ)
 | [], k, _ => .inl rfl
 | (d, x) :: g, k, h => by
  simp only [Fr.get]
  split
  ·rename_i hk; have := Nat.eq_of_beq_eq_true hk; subst this; exact .inr h.1
  ·exact FRen.get k h.2
def RLe (S : List Ow) (σ : Nat → Nat) : List Ow → List Nat → Prop
 | [], [] => True
 | o' :: S', k :: l => (∃ o, S[k]? = some o ∧ OLe o (o'.ren σ)) ∧ RLe S σ S' l
 | _, _ => False
theorem RLe.length {S : List Ow} {σ : Nat → Nat} : ∀ {S' : List Ow} {l : List Nat}, RLe S σ S' l → S'.length = l.length
 | [], [], _ => rfl
 | _ :: S', _ :: l, h => by simp [RLe.length h.2]
 | [], _ :: _, h => h.elim
 | _ :: _, [], h => h.elim
theorem RLe.get {S : List Ow} {σ : Nat → Nat} : ∀ {S' : List Ow} {l : List Nat} {i : Nat} {o' : Ow}, RLe S σ S' l → S'[i]? = some o' → ∃ k o, l[i]? = some k ∧ S[k]? = some o ∧ OLe o (o'.ren σ)
 | [], _, i, o', _, h => by simp at h
 | o :: S', k :: l, 0, o', h, hi => by simp at hi; subst hi; obtain ⟨o1, h1, h2⟩ := h.1; exact ⟨k, o1, by simp, h1, h2⟩
 | o :: S', k :: l, i + 1, o', h, hi => by simpa using RLe.get h.2 (by simpa using hi)
 | _ :: _, [], _, _, h, _ => h.elim
theorem FRen.den {r : Env} {f f' : Fr} {σ : Nat → Nat} {n : Nat} {a : Act} (h : FRen f σ f') (hb : f'.bnd n = true) (hf : FDen r f a) : FDen (r.comp σ n) f' a := fun k => by
 rcases h.get k with h1 | h1
 ·rw [h1]; simp [AV.den, Pc.den, CV.den]
 ·exact AV.den_ren _ _ (Fr.bnd_get k hb) (h1.den (hf k))
end Go.Proofs.YtnhdcclpjildjaaGreat
namespace Go.Proofs.YtnhdcclpjildjaaGreat
open Go.RowKit

structure CopySt (n : Nat) (ops : List BOp) where
 k : Nat
 f : Int → Option Int
 out : List BOp
 hk : k ≤ n
 hm : midF f
 hl : out.length ≤ k
 eq : copyRun noneF ops = out ++ copyRun f (ops.drop k)
end Go.Proofs.YtnhdcclpjildjaaGreat
namespace Go.Proofs.YtnhdcclpjildjaaGreat
open Go.RowKit

structure EqSt (l m : List BOp) where
 k : Nat
 hk : k ≤ l.length
 h : l.take k = m.take k
end Go.Proofs.YtnhdcclpjildjaaGreat
namespace Go.Proofs.YtnhdcclpjildjaaGreat
open Go.RowKit

section
variable {P : Program} {w0 : World} {G : Gs} {N : Nat} {c d : Code} {f : Fr} {S : List Ow} {Q : Exit → Act → World → Prop} {fn : Func} {R : Ending → World → Prop}
theorem atq_then {N : Nd} {id : Nat} (h : SatQ P w0 G N d f S Q) : AtQ w0 G N .normal f S (Exit.inBlock id (Exit.then (d.wpIn Fence.wide 10 P Q) Q)) := ⟨fun a w hg => h.out a w hg⟩
theorem atq_ret (h : resK P w0 G S f fn.results.toList fun v => Fin w0 G S v R) : AtQ w0 G ⟨N, []⟩ .ret f S (bodyPostM Fence.wide 10 P fn R) := by
 refine ⟨fun a w ⟨r, hR, hf, hN, hd⟩ => ?_⟩
 obtain ⟨v, u, hK, hdn, hrun⟩ := resK_sound h hR hf
 show LeavesInM _ _ _ _ _ _ a.defers _ _
 rw [show a.defers = [] from hd]
 exact ⟨u, hrun, hK.out r w u hR hdn⟩
theorem calls_satq {fid : FuncId} (xs : List Value) (hf : P.funcs[fid]? = some fn) (hN : fn.ntmps = N) (hb : fn.body = some c) (hle : xs.length ≤ N) {w : World} {R : Ending → World → Prop}
  (h : SatQ P w Gs.nil ⟨N, []⟩ c (argFr (xs.map fun x => AV.of x) 0) [] (bodyPostM Fence.wide 10 P fn R)) : Calls P fid xs.toArray w R := by
 refine callsIn_wide.1 (callsIn_of_wp_marks (n := 10) hf hb trivial (h.out _ w ⟨Env.none, rel_none w, fun i => ?_, by simp; omega, rfl⟩))
 refine argFr_get (r := Env.none) (xs.map fun x => AV.of x) xs 0 (avdenL_of xs) (fun j u hj => ?_) i
 rw [Nat.zero_add, Array.getD_eq_getD_getElem?, Array.getElem?_append_left (by simp; rcases Nat.lt_or_ge j xs.length with h1 | h1; exact h1; rw [List.getElem?_eq_none h1] at hj; cases hj)]
 simp [hj]
end
end Go.Proofs.YtnhdcclpjildjaaGreat
namespace Go.Proofs.YtnhdcclpjildjaaGreat
open Go.RowKit

structure RepSt (mu : Blk → Nat) (b0 : Blk) where
 b : Blk
 ok : b.ok
 hat : b.at_ = b0.at_
 hpg : b.pages = b0.pages
 eq : optN (mu b0) b0 = optN (mu b) b
end Go.Proofs.YtnhdcclpjildjaaGreat
namespace Go.Proofs.YtnhdcclpjildjaaGreat
open Go.RowKit

structure CkSim (s s' : Ck) : Prop where
 marks : s'.marks = s.marks
 known : ∀ v, readB s v = true → readB s' v = true
 ch : s'.changed = true → s.changed = true
/-! Dead. -/
structure DeadSim (s s' : Ck) (r : List BOp) : Prop where
 marks : s'.marks = s.marks
 known : ∀ v, liveAtL r v = true → readB s v = true → readB s' v = true
 ch : s'.changed = true → s.changed = true
/-! The result of Opt. -/
end Go.Proofs.YtnhdcclpjildjaaGreat
namespace Go.Proofs.YtnhdcclpjildjaaGreat
open Go.RowKit

def guardOf (ops : Array Oper) (f : Fr) (o : Oper) : Option Bool := match o.guard with
 | none => some true
 | some (j, pol) => (match slotOf ops j with
  | some d => (match f.get d with | .p (.c (.v (.bool x))) => some (x == pol) | _ => none)
  | none => none)
section
variable (P : Program) (W : World) (N : Nd) (ops : Array Oper)
end
section
variable {P : Program} {W : World} {N : Nd} {ops : Array Oper}
theorem guard_wanted {r : Env} {f : Fr} {a : Act} {o : Oper} {x : Bool} (hf : FDen r f a) (h : guardOf ops f o = some x) : Region.wanted o (yielded ops a.tmps) = x := by
 unfold guardOf at h
 split at h
 ·rename_i hg; injection h with h; subst h; exact wanted_none hg _
 ·rename_i j pol hg
  split at h
  ·rename_i d hs
   split at h
   ·rename_i y hy
    injection h with h; subst h
    rw [wanted_some hg, yielded_of hf hs hy]
    cases y <;> cases pol <;> rfl
   ·cases h
  ·cases h
theorem satq_restart {w0 : World} {d : Code} {f : Fr} {S : List Ow} {Q : Exit → Act → World → Prop} (h : ∀ r w, Rel w0 Gs.nil S r w → ∃ f2, (∀ a, FDen r f a → FDen Env.none f2 a) ∧ SatQ P w Gs.nil N d f2 [] Q) : SatQ P w0 Gs.nil N d f S Q :=
 ⟨fun a w ⟨r, hR, hf, hN, hd⟩ => by
  obtain ⟨f2, h1, h2⟩ := h r w hR
  exact h2.out a w ⟨Env.none, rel_none w, h1 a hf, hN, hd⟩⟩
end
end Go.Proofs.YtnhdcclpjildjaaGreat
namespace Go.Proofs.YtnhdcclpjildjaaGreat
open Go.RowKit
def envOne (g : Nat) : Env := ⟨fun i => if i = 0 then some g else Option.none, fun _ => Option.none⟩
theorem envOne_blk {g i b : Nat} (h : (envOne g).blk i = some b) : i = 0 ∧ b = g := by
 simp only [envOne] at h
 split at h
 ·rename_i hi; injection h with h; exact ⟨hi, h.symm⟩
 ·cases h
theorem rel_own1 (w : World) {g : Nat} {t : TypeId} {us : List Value} (h : w.heap[g]? = some (.cells us.toArray t (0, 0))) : Rel w ⟨[g], []⟩ [.cells t (us.map .v)] (envOne g) w := by
 have hlt : g < w.heap.size := by
  rcases Nat.lt_or_ge g w.heap.size with h1 | h1
  ·exact h1
  ·rw [Array.getElem?_eq_none h1] at h; cases h
 refine ⟨rfl, rfl, rfl, Nat.le_refl _, fun k _ _ => rfl, fun i o ho => ?_, fun i j b hi hj => ?_, fun i b hb => ?_, fun i hi => ?_, fun i _ => rfl, fun i x hx => ?_⟩
 ·cases i with
  | zero => simp at ho; subst ho; exact ⟨g, us, rfl, h, denL_vals us⟩
  | succ i => simp at ho
 ·rw [(envOne_blk hi).1, (envOne_blk hj).1]
 ·rw [(envOne_blk hb).2]; exact ⟨hlt, fun _ => .inl (by simp)⟩
 ·show (if i = 0 then some g else Option.none) = Option.none
  have : ¬ i = 0 := by intro e; subst e; simp at hi
  rw [if_neg this]
 ·cases i with
  | zero => simp at hx; subst hx; rfl
  | succ i => simp at hx
theorem Rel.grown {w0 : World} {g : Nat} {S : List Ow} {r : Env} {w : World} (h : Rel w0 ⟨[g], []⟩ S r w) : w0.grownBy w (some g) :=
 ⟨h.os, h.tape, h.output, h.size, fun k hk hn => h.old k hk (by
  rintro (h1 | h1)
  ·simp at h1; exact hn (by rw [h1])
  ·cases h1)⟩
theorem fin_own {w0 : World} {g : Nat} {S : List Ow} {t : TypeId} {us : List Value} {v : AV} {x : Value} {R : Ending → World → Prop} (hv : v.val = some x) (h0 : S[0]? = some (.cells t (us.map .v))) (h : ∀ w, w.heap[g]? = some (.cells us.toArray t (0, 0)) → w0.grownBy w (some g) → R (.returned x) w) : Fin w0 ⟨[g], []⟩ S v R := by
 refine ⟨fun r w u hR hd => ?_⟩
 obtain rfl := AV.val_den hv hd
 obtain ⟨b, us', e1, e2, e3⟩ := hR.own 0 _ h0
 have := hR.first 0 g rfl
 rw [this] at e1; injection e1 with e1; subst e1
 obtain rfl := denL_vals_inv e3
 exact h w e2 hR.grown
end Go.Proofs.YtnhdcclpjildjaaGreat
namespace Go.Proofs.YtnhdcclpjildjaaGreat
open Go.RowKit
inductive Tr where
 | done
 | q (i : Nat) (t : Tr)
 | alt (i : Nat) (t more : Tr)
 | no
def Tr.alts : Tr → List Nat
 | .alt i _ more => i :: more.alts
 | _ => []
def Tr.depth : Tr → Nat
 | .done => 0
 | .no => 0
 | .q _ t => t.depth + 1
 | .alt _ t more => max (t.depth + 1) more.depth
def Tr.ok (ops : Array Oper) : Tr → Bool → Array Bool → Bool
 | .done, inner, listed => !inner && (Region.ready .any ops listed).isEmpty
 | .q i t, inner, listed => !inner && Region.free .any ops listed i && (Region.ready .any ops listed).contains i && t.ok ops false (listed.setIfInBounds i true)
 | .alt i t more, inner, listed => (inner || Region.ready .any ops listed == i :: more.alts) && t.ok ops false (listed.setIfInBounds i true) && more.ok ops true listed
 | .no, inner, _ => inner
section
variable (P : Program) (W : World) (N : Nd)
end
section
variable {P : Program} {W : World} {N : Nd} {ops : Array Oper} {l : List Oper}
end
end Go.Proofs.YtnhdcclpjildjaaGreat
namespace Go.Proofs.YtnhdcclpjildjaaGreat
open Go.RowKit
section
variable {w0 : World} {G : Gs} {S : List Ow} {r : Env} {w : World}
end
theorem own_new {w' : World} {B : Nat} {e : TypeId} {size n : Nat} {v : Value} {ys : List Value} (hown : w'.ownsRow B e size v n ys) : ∀ x, v.ownBlock = some x → B ≤ x ∧ x < w'.heap.size := by
 intro x hx
 rcases hown.2 with ⟨h1, _⟩ | ⟨g, cap, cur, h1, hg, hh, _⟩
 ·rw [h1] at hx; cases hx
 ·rw [h1] at hx; simp [Value.ownBlock] at hx; subst hx
  refine ⟨hg, ?_⟩
  rcases Nat.lt_or_ge g w'.heap.size with h2 | h2
  ·exact h2
  ·rw [Array.getElem?_eq_none h2] at hh; cases hh
section
variable {P : Program} {w0 : World} {G : Gs} {N : Nat} {c d : Code} {f : Fr} {S : List Ow} {Q : Exit → Act → World → Prop} {fn : Func} {R : Ending → World → Prop}
theorem satq_cut {α : Type} {N : Nd} (T : α → Fr) (U : α → List Ow) (hc : vc none P w0 G N c f S fun e f S => match e with | .normal => ∃ y, Ent w0 G N f S (T y) (U y) | e => AtQ w0 G N e f S Q) (hd : ∀ y, SatQ P w0 G N d (T y) (U y) Q) : SatQ P w0 G N (.seq c d) f S Q :=
 ⟨fun a w hg => wpIn_seq (wpIn_mono ((vc_sound (ro := none) c f S _ hc).out 10 a w hg) fun e a' w' ⟨f', S', hk, hg'⟩ => by
  cases e with
  | normal => obtain ⟨y, hy⟩ := hk; exact (hd y).out a' w' (hy.out a' w' hg')
  | exit id => exact hk.out a' w' hg'
  | goto l => exact hk.out a' w' hg'
  | ret => exact hk.out a' w' hg'
  | panic ch => exact hk.out a' w' hg'
  | outgrown => exact hk.out a' w' hg')⟩
theorem satq_as {N : Nd} {f' : Fr} {S' : List Ow} (h : Ent w0 G N f S f' S') (k : SatQ P w0 G N d f' S' Q) : SatQ P w0 G N d f S Q := ⟨fun a w hg => k.out a w (h.out a w hg)⟩
end
end Go.Proofs.YtnhdcclpjildjaaGreat
namespace Go.Proofs.YtnhdcclpjildjaaGreat
open Go.RowKit
def guardU (ops : Array Oper) (f : Fr) (o : Oper) : Option Bool := match o.guard with
 | none => some true
 | some (j, pol) => (match slotOf ops j with
  | some d => (match f.get d with
   | .p (.c (.v (.bool x))) => some (x == pol)
   | .p (.c (.v (.tuple _))) => some false
   | _ => none)
  | none => none)
section
variable {P : Program} {w0 : World} {G : Gs} {N : Nd} {c d : Code} {f : Fr} {S : List Ow} {Q : Exit → Act → World → Prop}
theorem guardU_wanted {ops : Array Oper} {r : Env} {a : Act} {o : Oper} {x : Bool} (hf : FDen r f a) (h : guardU ops f o = some x) : Region.wanted o (yielded ops a.tmps) = x := by
 unfold guardU at h
 split at h
 ·rename_i hg; injection h with h; subst h; exact wanted_none hg _
 ·rename_i j pol hg
  split at h
  ·rename_i d hs
   split at h
   ·rename_i y hy
    injection h with h; subst h
    rw [wanted_some hg, yielded_of hf hs hy]
    cases y <;> cases pol <;> rfl
   ·rename_i vs hy
    injection h with h; subst h
    rw [wanted_some hg]
    have hv := hf d
    rw [hy] at hv
    have hv := den_v hv
    unfold slotOf at hs
    have : yielded ops a.tmps j = none := by
     unfold yielded
     rw [hs]
     show (match a.tmps[d]? with | some (.bool b) => some b | _ => none) = none
     rw [Array.getD_eq_getD_getElem?] at hv
     cases hd : a.tmps[d]? with
     | none => rfl
     | some v =>
      rw [hd] at hv
      simp at hv; subst hv; rfl
    rw [this]
    cases pol <;> rfl
   ·cases h
  ·cases h
theorem atq_up {Q' : Exit → Act → World → Prop} (h : AtQ w0 G N .ret f S Q) (hQ : ∀ a w, Q .ret a w → Q' .ret a w) : AtQ w0 G N .ret f S Q' := ⟨fun a w hg => hQ a w (h.out a w hg)⟩
end
end Go.Proofs.YtnhdcclpjildjaaGreat
namespace Go.Proofs.YtnhdcclpjildjaaGreat
open Go.RowKit

def envOf (gs : List Nat) : Env := ⟨fun i => gs[i]?, fun _ => Option.none⟩
structure ObjsAt (w : World) (gs : List Nat) (U : List Ow) : Prop where
 len : U.length = gs.length
 nodup : ∀ (i j b : Nat), gs[i]? = some b → gs[j]? = some b → i = j
 lt : ∀ g ∈ gs, g < w.heap.size
 own : ∀ (i : Nat) (o : Ow), U[i]? = some o → o.holds (envOf gs) w i
structure GrownBys (w w' : World) (gs : List Nat) : Prop where
 os : w'.os = w.os
 tape : w'.tape = w.tape
 output : w'.output = w.output
 size : w.heap.size ≤ w'.heap.size
 block : ∀ k, k < w.heap.size → k ∉ gs → w'.heap[k]? = w.heap[k]?
theorem rel_objs {w : World} {gs : List Nat} {U : List Ow} (h : ObjsAt w gs U) : Rel w ⟨gs, []⟩ U (envOf gs) w := by
 refine ⟨rfl, rfl, rfl, Nat.le_refl _, fun k _ _ => rfl, h.own, h.nodup, fun i b hb => ?_, fun i hi => ?_, fun i _ => rfl, fun i g hg => hg⟩
 ·have hm : b ∈ gs := List.mem_of_getElem? hb
  exact ⟨h.lt b hm, fun _ => .inl hm⟩
 ·show gs[i]? = Option.none
  exact List.getElem?_eq_none (by rw [← h.len]; exact hi)
def CV.ob (n : Nat) : CV → Bool
 | .v _ => true
 | .ref i _ => Nat.blt i n
 | .sl i _ _ _ => Nat.blt i n
 | _ => false
def CV.sh (k : Nat) : CV → CV
 | .ref i o => .ref (k + i) o
 | .sl i o n c => .sl (k + i) o n c
 | c => c
theorem CV.den_sh {r r' : Env} {n k : Nat} (h : ∀ i b, i < n → r.blk (k + i) = some b → r'.blk i = some b) : ∀ {c : CV} {u : Value}, c.ob n = true → (c.sh k).den r u → c.den r' u
 | .v x, u, _, hd => by simpa only [CV.den, CV.sh] using hd
 | .ref i off, u, hb, hd => by
  simp only [CV.den, CV.sh] at hd ⊢; obtain ⟨x, hx, hu⟩ := hd
  exact ⟨x, h i x (by simpa [CV.ob, Nat.blt_eq] using hb) hx, hu⟩
 | .sl i off m c, u, hb, hd => by
  simp only [CV.den, CV.sh] at hd ⊢; obtain ⟨x, hx, hu⟩ := hd
  exact ⟨x, h i x (by simpa [CV.ob, Nat.blt_eq] using hb) hx, hu⟩
 | .any, u, hb, _ => by cases hb
 | .vref .., _, hb, _ => by cases hb
 | .row .., _, hb, _ => by cases hb
 | .mp .., _, hb, _ => by cases hb
 | .clo .., _, hb, _ => by cases hb
theorem denL_sh {r r' : Env} {n k : Nat} (h : ∀ i b, i < n → r.blk (k + i) = some b → r'.blk i = some b) : ∀ {l : List CV} {us : List Value}, (∀ c ∈ l, c.ob n = true) → denL r (l.map (CV.sh k)) us → denL r' l us
 | [], us, _, hd => by simpa only [denL, List.map_nil] using hd
 | c :: cs, us, hb, hd => by
  simp only [List.map_cons, denL] at hd ⊢; obtain ⟨u, l, hu, hc, hl⟩ := hd
  exact ⟨u, l, hu, CV.den_sh h (hb c (by simp)) hc, denL_sh h (fun x hx => hb x (by simp [hx])) hl⟩
def Ow.Ob (n : Nat) : Ow → Prop
 | .cells _ l => ∀ c ∈ l, c.ob n = true
 | _ => False
def ObAll (n : Nat) (U : List Ow) : Prop := ∀ o ∈ U, o.Ob n
def Ow.Sh (k : Nat) : Ow → Ow → Prop
 | .cells t l, .cells t' l' => t = t' ∧ l' = l.map (CV.sh k)
 | _, _ => False
def ShAll (k : Nat) : List Ow → List Ow → Prop
 | [], [] => True
 | o :: U, o' :: V => o.Sh k o' ∧ ShAll k U V
 | _, _ => False
theorem ShAll.length {k : Nat} : ∀ {U V : List Ow}, ShAll k U V → U.length = V.length
 | [], [], _ => rfl
 | _ :: _, _ :: _, h => by simp [h.2.length]
 | [], _ :: _, h => h.elim
 | _ :: _, [], h => h.elim
theorem ShAll.get {k : Nat} : ∀ {U V : List Ow} (i : Nat), ShAll k U V → ∀ {o}, U[i]? = some o → ∃ o', V[i]? = some o' ∧ o.Sh k o'
 | [], [], i, _, o, h => by simp at h
 | a :: U, b :: V, 0, hs, o, h => by simp at h; subst h; exact ⟨b, rfl, hs.1⟩
 | a :: U, b :: V, i + 1, hs, o, h => by simpa using ShAll.get i hs.2 (by simpa using h)
 | [], _ :: _, _, h, _, _ => h.elim
 | _ :: _, [], _, h, _, _ => h.elim
section
variable {P : Program} {w0 : World} {G : Gs} {N : Nat} {c : Code} {fn : Func} {R : Ending → World → Prop}
theorem calls_objs_satq {fid : FuncId} {w : World} {gs : List Nat} {U : List Ow} (avs : List AV) (args : List Value) (hf : P.funcs[fid]? = some fn) (hN : fn.ntmps = N) (hb : fn.body = some c) (hle : args.length ≤ N) (hU : ObjsAt w gs U) (hargs : avdenL (envOf gs) avs args)
  (h : SatQ P w ⟨gs, []⟩ ⟨N, []⟩ c (argFr avs 0) U (bodyPostM Fence.wide 10 P fn R)) : Calls P fid args.toArray w R := by
 refine callsIn_wide.1 (callsIn_of_wp_marks (n := 10) hf hb trivial (h.out _ w ⟨envOf gs, rel_objs hU, fun i => ?_, by simp; omega, rfl⟩))
 refine argFr_get (r := envOf gs) avs args 0 hargs (fun j u hj => ?_) i
 rw [Nat.zero_add, Array.getD_eq_getD_getElem?, Array.getElem?_append_left (by simp; rcases Nat.lt_or_ge j args.length with h1 | h1; exact h1; rw [List.getElem?_eq_none h1] at hj; cases hj)]
 have : args.toArray[j]? = some u := by simpa using hj
 rw [this]; rfl
theorem calls_objs {fid : FuncId} {w : World} {gs : List Nat} {U : List Ow} (avs : List AV) (args : List Value) (hf : P.funcs[fid]? = some fn) (hN : fn.ntmps = N) (hb : fn.body = some c) (hle : args.length ≤ N) (hU : ObjsAt w gs U) (hargs : avdenL (envOf gs) avs args)
  (h : vc none P w ⟨gs, []⟩ ⟨N, []⟩ c (argFr avs 0) U (RetK P w ⟨gs, []⟩ fn.results.toList R)) : Calls P fid args.toArray w R :=
 calls_vc hf hN hb (rel_objs hU) hargs hle h
theorem Rel.growns {gs : List Nat} {S : List Ow} {r : Env} {w : World} (h : Rel w0 ⟨gs, []⟩ S r w) : GrownBys w0 w gs :=
 ⟨h.os, h.tape, h.output, h.size, fun k hk hn => h.old k hk (by
  rintro (h1 | h1)
  ·exact hn h1
  ·cases h1)⟩
theorem Rel.objs {gs : List Nat} {S U : List Ow} {r : Env} {w : World} (h : Rel w0 ⟨gs, []⟩ S r w) (hlen : U.length = gs.length) (hU : ∀ (i : Nat) (o : Ow), U[i]? = some o → S[i]? = some o) (hob : ObAll gs.length U) : ObjsAt w gs U := by
 have hblk : ∀ i b, gs[i]? = some b → r.blk i = some b := fun i b hb => h.first i b hb
 refine ⟨hlen, fun i j b hi hj => h.inj i j b (hblk i b hi) (hblk j b hj), fun g hg => ?_, fun i o ho => ?_⟩
 ·obtain ⟨i, hi⟩ := List.getElem?_of_mem hg
  exact (h.new i g (hblk i g hi)).1
 ·have hio := h.own i o (hU i o ho)
  have hb := hob o (List.mem_of_getElem? ho)
  cases o with
  | cells t l =>
   obtain ⟨b, us, e1, e2, e3⟩ := hio
   have hi : i < gs.length := by
    rw [← hlen]
    rcases Nat.lt_or_ge i U.length with h1 | h1
    ·exact h1
    ·rw [List.getElem?_eq_none h1] at ho; cases ho
   have hg : gs[i]? = some b := by
    obtain ⟨g, hg⟩ : ∃ g, gs[i]? = some g := ⟨_, List.getElem?_eq_getElem hi⟩
    have := hblk i g hg
    rw [e1] at this; injection this with this; rw [this]; exact hg
   refine ⟨b, us, hg, e2, ?_⟩
   refine denL_sh (k := 0) (n := gs.length) (r := r) (fun i b hi hb => ?_) hb ?_
   ·obtain ⟨g, hg⟩ : ∃ g, gs[i]? = some g := ⟨_, List.getElem?_eq_getElem hi⟩
    have := hblk i g hg
    rw [Nat.zero_add] at hb
    rw [hb] at this; injection this with this; rw [this]; exact hg
   ·have : ∀ l : List CV, l.map (CV.sh 0) = l := fun l => by
     refine (List.map_congr_left fun c _ => ?_).trans (List.map_id l)
     cases c <;> simp [CV.sh]
    rw [this]; exact e3
  | row => exact hb.elim
  | ext => exact hb.elim
  | view => exact hb.elim
  | gone => exact hb.elim
theorem fin_objs {gs : List Nat} {S U : List Ow} {v : AV} {x : Value} (hv : v.val = some x) (hlen : U.length = gs.length) (hU : ∀ (i : Nat) (o : Ow), U[i]? = some o → S[i]? = some o) (hob : ObAll gs.length U) (h : ∀ w, ObjsAt w gs U → GrownBys w0 w gs → R (.returned x) w) : Fin w0 ⟨gs, []⟩ S v R := by
 refine ⟨fun r w u hR hd => ?_⟩
 obtain rfl := AV.val_den hv hd
 exact h w (hR.objs hlen hU hob) hR.growns
end
def OldKeeps (w0 : World) (G : Gs) (w : World) (gs : List Nat) : Prop := ∀ b, b < w0.heap.size → b ∉ G → b < w.heap.size ∧ b ∉ gs ∧ w.heap[b]? = w0.heap[b]?
theorem OldKeeps.cells {w0 : World} {G : Gs} {w : World} {gs : List Nat} (h : OldKeeps w0 G w gs) {b off : Nat} {xs : List Value} (hc : CellsAt w0 G b off xs) : CellsAt w ⟨gs, []⟩ b off xs := by
 obtain ⟨h1, h2, h3⟩ := hc
 obtain ⟨k1, k2, k3⟩ := h b h1 h2
 refine ⟨k1, ?_, fun j u hj => ?_⟩
 ·rintro (h4 | h4)
  ·exact k2 h4
  ·cases h4
 ·have := h3 j u hj
  unfold World.cell? at this ⊢
  rw [k3]; exact this
theorem avden_append {r : Env} : ∀ {l m : List AV} {us : List Value}, avdenL r (l ++ m) us → ∃ us1 us2, us = us1 ++ us2 ∧ avdenL r l us1 ∧ avdenL r m us2
 | [], m, us, h => ⟨[], us, rfl, rfl, h⟩
 | x :: l, m, us, h => by
  obtain ⟨u, l', rfl, h1, h2⟩ := h
  obtain ⟨us1, us2, rfl, h3, h4⟩ := avden_append h2
  exact ⟨u :: us1, us2, rfl, ⟨u, us1, rfl, h1, h3⟩, h4⟩
end Go.Proofs.YtnhdcclpjildjaaGreat
namespace Go.Proofs.YtnhdcclpjildjaaGreat
open Go.RowKit

theorem slot_ref {r : Env} {f : Fr} {a : Act} (hf : FDen r f a) (d : Nat) {i g : Nat} (h : f.get d = .p (.c (.ref i 0))) (hb : r.blk i = some g) : a.tmps.getD d undef = .pointer (some ⟨g, 0, none⟩) := by
 have := hf d
 rw [h] at this
 obtain ⟨b, h1, h2⟩ := den_ref this
 rw [hb] at h1; injection h1 with h1; subst h1
 exact h2
end Go.Proofs.YtnhdcclpjildjaaGreat
namespace Go.Proofs.YtnhdcclpjildjaaGreat
open Go.RowKit

structure Ins1 (k0 : Int) where
 n : Int
 l : List BOp
 W : Nat
 k : Int
 hn : 0 ≤ n ∧ n ≤ 3
 hb : BodyOk l W false
 hl : (l.length : Int) + n ≤ 3
 hk : k0 ≤ k ∧ k + 8 * n ≤ k0 + 24
structure Ins2 (k0 : Int) where
 l : List BOp
 W : Nat
 ch : Bool
 k : Int
 hb : BodyOk l W ch
 hl : l.length ≤ 4
 hk : k0 ≤ k ∧ k ≤ k0 + 40
structure Ins3 (k0 : Int) (W : Nat) where
 n : Int
 l : List BOp
 ch : Bool
 k : Int
 hn : 0 ≤ n ∧ n ≤ 3
 hb : BodyOk l W ch
 hl : (l.length : Int) + n ≤ 7
 hk : k0 ≤ k ∧ k + 8 * n ≤ k0 + 24
end Go.Proofs.YtnhdcclpjildjaaGreat
namespace Go.Proofs.YtnhdcclpjildjaaGreat
open Go.RowKit

structure MadeSt (n : Int) (k0 : Int) where
 i : Nat
 ats : List Int
 ops : List BOp
 W : Nat
 ch : Bool
 k : Int
 hi : (i : Int) ≤ n
 hats : ∀ x ∈ ats, word x
 hatl : ats.length = i
 pre : PreOk ops i W ch
 hlen : ops.length ≤ 11 * i
 hk : 0 ≤ k ∧ k ≤ k0 + 210 * i
end Go.Proofs.YtnhdcclpjildjaaGreat
namespace Go.Proofs.YtnhdcclpjildjaaGreat
open Go.RowKit

section
variable {w0 : World} {S : List Ow} {K : AV → List Ow → Prop} {b : Blk} {A1 A2 A3 : Option Addr} {n1 n2 n3 c1 c2 c3 : Nat}
end
theorem slot_val {r : Env} {f : Fr} {a : Act} (hf : FDen r f a) {d : Nat} {x : Value} (h : (f.get d).val = some x) : a.tmps.getD d undef = x := AV.val_den h (hf d)
end Go.Proofs.YtnhdcclpjildjaaGreat
namespace Go.Proofs.YtnhdcclpjildjaaGreat
open Go.RowKit

theorem bits_and7 {x : Int} (h : 0 ≤ x ∧ x < 8) : bits .and .i64 x 7 = x := by
 have : x = 0 ∨ x = 1 ∨ x = 2 ∨ x = 3 ∨ x = 4 ∨ x = 5 ∨ x = 6 ∨ x = 7 := by omega
 rcases this with rfl | rfl | rfl | rfl | rfl | rfl | rfl | rfl <;> decide
end Go.Proofs.YtnhdcclpjildjaaGreat
namespace Go.Proofs.YtnhdcclpjildjaaGreat
open Go.RowKit

def simpleQ (op : Int) : Bool := decide (op < 48)
end Go.Proofs.YtnhdcclpjildjaaGreat
namespace Go.Proofs.YtnhdcclpjildjaaGreat
open Go.RowKit

theorem liftAts_succ (pc : Int) (m : Nat) : liftAts pc (m + 1) = liftAts pc m ++ [qAddr pc m] := by
 unfold liftAts; rw [List.range_succ]; simp
end Go.Proofs.YtnhdcclpjildjaaGreat
namespace Go.Proofs.YtnhdcclpjildjaaGreat
open Go.RowKit

theorem orI_add {a b : Int} (k : Nat) (ha : 0 ≤ a) (hd : a % 2 ^ k = 0) (hb : 0 ≤ b ∧ b < 2 ^ k) : orI a b = a + b := by
 obtain ⟨n, rfl⟩ : ∃ n : Nat, a = n := ⟨a.toNat, by omega⟩
 obtain ⟨m, rfl⟩ : ∃ m : Nat, b = m := ⟨b.toNat, by omega⟩
 have hm : m < 2 ^ k := by
  have := hb.2
  exact_mod_cast this
 have hn : n % 2 ^ k = 0 := by exact_mod_cast hd
 unfold orI
 rw [Int.toNat_natCast, Int.toNat_natCast]
 have e : n = (n / 2 ^ k) <<< k := by
  rw [Nat.shiftLeft_eq]
  have := Nat.div_add_mod n (2 ^ k)
  rw [hn, Nat.add_zero, Nat.mul_comm] at this
  exact this.symm
 have key : n ||| m = n + m := by
  rw [e, ← Nat.shiftLeft_add_eq_or_of_lt hm]
 rw [key]
 push_cast
 rfl
theorem andI_mod {a : Int} (k : Nat) (ha : 0 ≤ a) : andI a (2 ^ k - 1) = a % 2 ^ k := by
 obtain ⟨n, rfl⟩ : ∃ n : Nat, a = n := ⟨a.toNat, by omega⟩
 have h1 : ((2 : Int) ^ k - 1).toNat = 2 ^ k - 1 := by
  have e : ((2 ^ k : Nat) : Int) = (2 : Int) ^ k := by push_cast; rfl
  have hp := Nat.one_le_two_pow (n := k)
  rw [← e]
  generalize 2 ^ k = x at hp ⊢
  omega
 unfold andI
 rw [Int.toNat_natCast, h1, Nat.and_two_pow_sub_one_eq_mod]
 push_cast
 rfl
theorem enc_or {i : QI} (hv : validQ i = true) (him : word i.imm) :
  orI (orI (orI (orI (i.op * 67108864) (i.d * 4194304)) (i.a * 262144)) (i.b * 16384)) (andI i.imm (2 ^ (qForm i.op).bits - 1)) = wordQ i := by
 obtain ⟨h1, h2, h3, h4, h5⟩ := validQ_parts hv
 obtain ⟨q1, q2, q2', q4, q5, q6, q7, q8⟩ := qForm_cases i.op
 have r2 := regB_range h2
 have r3 := regB_range h3
 have r4 := regB_range h4
 have r1 := q5 h1
 unfold word at him
 rw [andI_mod _ him.1]
 have lo := low_range i.imm q1
 have p26 : (2 : Int) ^ 26 = 67108864 := rfl
 have p22 : (2 : Int) ^ 22 = 4194304 := rfl
 have p18 : (2 : Int) ^ 18 = 262144 := rfl
 have p0 : (2 : Int) ^ 0 = 1 := rfl
 rw [orI_add (a := i.op * 67108864) 26 (by omega) (by rw [p26]; omega) (by rw [p26]; omega)]
 rw [orI_add (a := i.op * 67108864 + i.d * 4194304) 22 (by omega) (by rw [p22]; omega) (by rw [p22]; omega)]
 rw [orI_add (a := i.op * 67108864 + i.d * 4194304 + i.a * 262144) 18 (by omega) (by rw [p18]; omega) (by rw [p18]; omega)]
 unfold wordQ
 rcases q1 with q | q | q
 ·rw [q] at lo ⊢
  rw [orI_add 0 (by omega) (by rw [p0]; omega) (by rw [p0]; omega)]
 ·have hb := r4.2.2 (by cases hb : (qForm i.op).b with | false => rfl | true => rw [q6 hb] at q; cases q)
  rw [q] at lo ⊢
  rw [p18] at lo
  rw [orI_add 18 (by omega) (by rw [p18]; omega) (by rw [p18]; omega)]
 ·have hb := r4.2.2 (by cases hb : (qForm i.op).b with | false => rfl | true => rw [q6 hb] at q; cases q)
  have ha := r3.2.2 (q7 q)
  rw [q] at lo ⊢
  rw [p22] at lo
  rw [orI_add 22 (by omega) (by rw [p22]; omega) (by rw [p22]; omega)]
theorem sgn_shift18 (n : Int) (_h : word n) : signedI (n * 16384 % 4294967296) / 16384 % 4294967296 = sgnW n 18 := by
 
 rw [sgn18]
 unfold signedI
 split <;> split <;> omega
theorem sgn_shift22 (n : Int) (_h : word n) : signedI (n * 1024 % 4294967296) / 1024 % 4294967296 = sgnW n 22 := by
 
 rw [sgn22]
 unfold signedI
 split <;> split <;> omega
end Go.Proofs.YtnhdcclpjildjaaGreat
namespace Go.Proofs.YtnhdcclpjildjaaGreat
open Go.RowKit
section
variable {P : Program} {w0 : World} {G : Gs} {N : Nd} {S : List Ow} {f : Fr} {o : Oper}
theorem q_slice_arr {K : AV → Prop} {t e : TypeId} {x : Operand} {inf : TypeInfo} (i off n : Nat) (hop : o.op = .slice t x none none none) (ht : P.underlying t = some (.array n e)) (hif : P.info? e = some inf) (hx : f.ev x = .p (.c (.ref i off))) (_hsz : inf.size = 1) (hk : K (.p (.c (.sl i off n n)))) : QRun P w0 G S f o K := by
 refine ⟨_, hk, fun r a hf => ?_⟩
 have h1 := hf.ev x
 rw [hx] at h1
 obtain ⟨b, hb, hu⟩ := den_ref h1
 refine ⟨.slice (some ⟨b, off, none⟩) n n, ?_, fun w hR => ?_⟩
 ·simp only [AV.den, Pc.den, CV.den]; exact ⟨b, hb, rfl⟩
 ·have hs := run_sizeOf P e w hif
  simp [execOp, hop, hu, Instr.sliceAt, underlying, ht, Instr.sureAddr, Instr.sliceBounds, hs, addr_add]
end
end Go.Proofs.YtnhdcclpjildjaaGreat
namespace Go.Proofs.YtnhdcclpjildjaaGreat
open Go.RowKit

def sbits (b : Nat) : Prop := b = 12 ∨ b = 18 ∨ b = 22
end Go.Proofs.YtnhdcclpjildjaaGreat
namespace Go.Proofs.YtnhdcclpjildjaaGreat
open Go.RowKit

structure FOk (f : QForm) : Prop where
 bits : f.bits = 0 ∨ f.bits = 18 ∨ f.bits = 22
 most : 0 ≤ f.most ∧ f.most ≤ 4
 sgn : f.signed = true → 0 < f.bits ∧ f.most = 0
theorem form_ok (op : Int) : FOk (qForm op) := by
 obtain ⟨h1, h2, h3, h4, _⟩ := qForm_cases op
 exact ⟨h1, ⟨h2, h3⟩, h4⟩
end Go.Proofs.YtnhdcclpjildjaaGreat
namespace Go.Proofs.YtnhdcclpjildjaaGreat
open Go.RowKit

def byteAt (n : Int) (j : Nat) : Int := n / 2 ^ (8 * j) % 256
end Go.Proofs.YtnhdcclpjildjaaGreat
