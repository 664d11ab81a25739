/- A range over a map of the call's own whose rounds delete, over states that are known part by part. Own entries renamed, doubled, dropped. Walks: the folding of one operation. The iterator of slices.Backward, as its contract. Functions that hold a range over a function: how they begin and end. The iterator of slices.Backward as a call hands it back. -/
import Derived.Conc.MuLone
import Derived.Test.YtmjfgnnefcimiaaK1
import Derived.Test.YtmjfgnnefcimiaaK13
import Derived.Test.YtmjfgnnefcimiaaK14
import Derived.Test.YtmjfgnnefcimiaaK16
import Derived.Test.YtmjfgnnefcimiaaK17
import Derived.Test.YtmjfgnnefcimiaaK19
import Derived.Test.YtmjfgnnefcimiaaK2
import Derived.Test.YtmjfgnnefcimiaaK20
import Derived.Test.YtmjfgnnefcimiaaK21
import Derived.Test.YtmjfgnnefcimiaaK3
import Derived.Test.YtmjfgnnefcimiaaK5
import Derived.Test.YtmjfgnnefcimiaaK6
namespace Go.Proofs.Ytmjfgnnefcimiaa
open Go.RowKit
open Go.Maps (Keyed)

/-- The block that holds this very object. -/
abbrev objOw (b : Nat) (M : Obj) : Ow := .ext fun b' w => b' = b ∧ w.heap[b]? = some M
abbrev litK (k : Int) : Lit := .int .i64 k
section
variable (R : Value → Option (DataW Unit × List MemPlace)) (cd : Int → DataW Unit)
/-- Map block b and iterator block r, holding M and I: the loop is under way, the map reads as m; the keys still to come; how many. -/
structure Ranging (b r : Nat) (M I : Obj) (n : Nat) (m : Int → Option Int) (left : Int → Bool) (cnt : Nat) : Prop where
  out : ∃ (D : DataW Unit) (lf : Lit → Bool), (∀ w : World, w.heap[b]? = some M → w.heap[r]? = some I → w.ranges Try.prog 3 R b r n D lf cnt) ∧
    (∀ k, (litK k).wf = true → Maps.has D (litK k) = (m k).isSome ∧ ∀ z, D.atKey (litK k) z = ((m k).map cd).getD z) ∧ ∀ k, (litK k).wf = true → lf (litK k) = left k
  map : ∀ w : World, w.heap[b]? = some M → IMap R cd w b n m
end
section
variable {R : Value → Option (DataW Unit × List MemPlace)} {mk : Int → Value} {cd : Int → DataW Unit} {good : Int → Prop}
theorem ranges_local {w w' : World} {b r n : Nat} {D : DataW Unit} {lf : Lit → Bool} {cnt : Nat} (h : w.ranges Try.prog 3 R b r n D lf cnt) (h1 : w'.heap[b]? = w.heap[b]?) (h2 : w'.heap[r]? = w.heap[r]?) : w'.ranges Try.prog 3 R b r n D lf cnt := by
  obtain ⟨es, clock, since, seen, c0, hb, F, hs, hD, hr, rest⟩ := h
  exact ⟨es, clock, since, seen, c0, h1.trans hb, F, hs, hD, h2.trans hr, rest⟩
theorem owns_local {w w' : World} {b n : Nat} {D : DataW Unit} (h : w.ownsMap Try.prog 3 R b n D) (h1 : w'.heap[b]? = w.heap[b]?) : w'.ownsMap Try.prog 3 R b n D := by
  obtain ⟨es, clock, hh, rr⟩ := h
  exact ⟨es, clock, h1.trans hh, rr⟩
theorem obj_of {w : World} {b r n : Nat} {D : DataW Unit} {lf : Lit → Bool} {cnt : Nat} (h : w.ranges Try.prog 3 R b r n D lf cnt) : ∃ M I, w.heap[b]? = some M ∧ w.heap[r]? = some I := by
  obtain ⟨es, clock, since, seen, c0, hb, F, hs, hD, hr, rest⟩ := h
  exact ⟨_, _, hb, hr⟩
theorem same_i64 (a b : Int) : (litK a).sameKey (litK b) = (a == b) := by
  show decide (IntKind.i64 = IntKind.i64 ∧ a = b) = (a == b)
  by_cases h : a = b
  · subst h; simp
  · rw [decide_eq_false (fun e => h e.2), beq_eq_false_iff_ne.2 h]
theorem getObj_map {P : Program} {w : World} {r : Nat} {es : Array MapEntry} {c : Nat} (h : w.heap[r]? = some (.map es c)) : (getObj r).run P w = .ok (.map es c) w := by simp [getObj, Sem.run, h]
theorem getObj_iter {P : Program} {w : World} {r : Nat} {m : Option Nat} {a : Nat} {s : Array Nat} {c : Nat} (h : w.heap[r]? = some (.mapIter m a s c)) : (getObj r).run P w = .ok (.mapIter m a s c) w := by simp [getObj, Sem.run, h]
theorem entry_local {w w' : World} {b r n : Nat} {D : DataW Unit} {lf : Lit → Bool} {cnt : Nat} {v : Value} (h : w.ranges Try.prog 3 R b r n D lf cnt) (he : (Instr.entry (.pointer (some ⟨r, 0, none⟩))).run Try.prog w = .ok v w) (h1 : w'.heap[b]? = w.heap[b]?) (h2 : w'.heap[r]? = w.heap[r]?) :
    (Instr.entry (.pointer (some ⟨r, 0, none⟩))).run Try.prog w' = .ok v w' := by
  obtain ⟨es, clock, since, seen, c0, hb, F, hs, hD, hr, rest⟩ := h
  rw [hb] at h1; rw [hr] at h2
  simp only [Instr.entry, Sem.run_bind, getObj_iter hr, getObj_iter h2, Result.andThen_ok] at he ⊢
  revert he
  cases seen.back? with
  | none => intro he; simp at he
  | some stamp =>
    simp only [Sem.run_bind, getObj_map hb, getObj_map h1, Result.andThen_ok]
    by_cases hc : (clock != c0) = true
    · rw [if_pos hc]; intro he; simp at he
    · rw [if_neg hc]
      cases es.find? (·.born == stamp) with
      | none => intro he; simp at he
      | some x => intro he; simp at he ⊢; exact he
theorem two_data : (DataW.nil : DataW Unit) ≠ .map [] := nofun

variable {w0 : World} {G : Gs} {N : Nd} {o : Oper} {f : Fr} {S : List Ow} {K : Fr → List Ow → Prop} {n : Nat} {m : Int → Option Int}
theorem op_range {t e : TypeId} {mo : Operand} (hop : o.op = .range t mo) (ht : Try.prog.underlying t = some (.map 3 e)) (i : Nat) (hm : f.ev mo = .p (.c (.mp i))) (hi : S[i]? = some (mapOw R cd n m)) (hdst : dstOk N.n o.dst = true)
    (hk : ∀ b r M I left cnt, Ranging R cd b r M I n m left cnt → (∀ k, (litK k).wf = true → left k = (m k).isSome) → K (f.put o.dst (.p (.c (.ref S.length 0)))) (S.set i (objOw b M) ++ [objOw r I])) : OpS Try.prog w0 G N o f S K := by
  refine ⟨fun r a w hR hf hN hd next Q hK => ?_⟩
  have h1 := hf.ev mo
  rw [hm] at h1
  obtain ⟨b, hb, hu⟩ := den_mp h1
  obtain ⟨b', hb', ⟨D, hown, hD⟩, _⟩ := hR.own i _ hi
  rw [hb] at hb'; injection hb' with hb'; subst hb'
  obtain ⟨w', hrun, hrg, hg, hsz⟩ := hown.range law_int ht
  have hblt := (hR.new i b hb).1
  have hbsame : w'.heap[b]? = w.heap[b]? := hg.block b hblt (by simp)
  obtain ⟨M, I, hM, hI⟩ := obj_of hrg
  have hex : (execOp a.eval o).run Try.prog w = .ok (.value (.pointer (some ⟨w.heap.size, 0, none⟩))) w' := by
    simp [execOp, hop, hu, hrun]
  have hbel : Below w.heap.size w w' := ⟨hg.os, hg.tape, hg.output, hg.size, fun k hk => hg.block k hk (by simp)⟩
  have hR1 : Rel w0 G (S.set i (objOw b M)) r w := by
    refine hR.setBlock hb (World.grownBy.refl w _) ⟨b, hb, ⟨rfl, by rw [← hbsame]; exact hM⟩, fun w2 h2 => ⟨rfl, by rw [h2, ← hbsame]; exact hM⟩⟩ (hR.lt_of_blk hb)
  have hlen : (S.set i (objOw b M)).length = S.length := by simp
  have hle := hR1.le_new (some w.heap.size) none
  have hR2 := hR1.snoc hbel (b := some w.heap.size) (v := none) (o := objOw w.heap.size I) (fun x hx => by injection hx with hx; subst hx; omega) ⟨w.heap.size, by simp [Env.set], ⟨rfl, hI⟩, fun w2 h2 => ⟨rfl, h2.trans hI⟩⟩
  refine wp_of_value hex (hK _ _ _ _ (hk b w.heap.size M I _ _ ⟨⟨D, _, fun w2 e1 e2 => ranges_local hrg (e1.trans hM.symm) (e2.trans hI.symm), hD, fun k hk => rfl⟩, fun w2 e1 => ⟨D, owns_local hrg.owns (e1.trans hM.symm), hD⟩⟩ (fun k hk => (hD k hk).1)) ?_)
  refine good_value hR hf hN hd hdst ?_ hR2 hle
  rw [hlen]
  exact den_mk_ref (by simp [Env.set])
/-- The two objects as they lie. -/
theorem objs_at {r : Env} {w : World} (hR : Rel w0 G S r w) {i j b q : Nat} {M I : Obj} (hi : S[i]? = some (objOw b M)) (hj : S[j]? = some (objOw q I)) : r.blk i = some b ∧ r.blk j = some q ∧ w.heap[b]? = some M ∧ w.heap[q]? = some I := by
  obtain ⟨b', h1, ⟨rfl, h2⟩, _⟩ := hR.own i _ hi
  obtain ⟨q', h3, ⟨rfl, h4⟩, _⟩ := hR.own j _ hj
  exact ⟨h1, h3, h2, h4⟩
theorem op_next {it : Operand} (hop : o.op = .next it false) (E : Elems R mk cd good) (i j b q : Nat) (M I : Obj) (left : Int → Bool) (cnt : Nat) (hit : f.ev it = .p (.c (.ref j 0))) (hi : S[i]? = some (objOw b M)) (hj : S[j]? = some (objOw q I)) (hrg : Ranging R cd b q M I n m left cnt) (hdst : dstOk N.n o.dst = true)
    (hk0 : (∀ k, (litK k).wf = true → left k = false) → K (f.put o.dst (.tup [.c (.v (.bool false))])) S)
    (hk1 : ∀ x c I' cnt', (litK x).wf = true → left x = true → m x = some c → cnt' < cnt → Ranging R cd b q M I' n m (fun k => left k && !(k == x)) cnt' →
      (∀ w : World, w.heap[b]? = some M → w.heap[q]? = some I' → (Instr.entry (.pointer (some ⟨q, 0, none⟩))).run Try.prog w = .ok (.tuple #[.int .i64 x, mk c]) w) →
      K (f.put o.dst (.tup [.c (.v (.bool true)), .c (.v (.int .i64 x)), .c (.v (mk c))])) (S.set j (objOw q I'))) (_hone : ∀ c, pcOf (mk c) = .c (.v (mk c))) : OpS Try.prog w0 G N o f S K := by
  refine ⟨fun r a w hR hf hN hd next Q hK => ?_⟩
  have h1 := hf.ev it
  rw [hit] at h1
  obtain ⟨hb, hq, hM, hI⟩ := objs_at hR hi hj
  obtain ⟨q', hq', hu⟩ := den_ref h1
  rw [hq] at hq'; injection hq' with hq'; subst hq'
  obtain ⟨⟨D, lf, hr, hD, hlf⟩, hmap⟩ := hrg
  rcases (hr w hM hI).next law_int o.type with ⟨_, hno, hrun⟩ | ⟨key, v, kl, y, w', cnt', hkey, hleft, hRv, hat, hrun, hrg', hlt, hg, hsz, hent⟩
  · have hex : (execOp a.eval o).run Try.prog w = .ok (.value (.tuple #[.bool false])) w := by simp [execOp, hop, hu, hrun]
    exact wp_of_value hex (hK _ _ _ _ (hk0 fun k hk => by rw [← hlf k hk]; exact hno _) (good_value hR hf hN hd hdst ⟨_, rfl, _, _, rfl, by simp [Pc.den, CV.den], rfl⟩ hR (Env.le.refl r)))
  · obtain ⟨x, rfl, rfl, hwf⟩ := Maps.keyOf_int_inv Try.underlying3 hkey
    have hDx := (hD x hwf).2
    have hsome : ∃ c, m x = some c := by
      cases hmx : m x with
      | some c => exact ⟨c, rfl⟩
      | none =>
        have e1 := (hDx .nil).symm.trans (hat .nil)
        have e2 := (hDx (.map [])).symm.trans (hat (.map []))
        rw [hmx] at e1 e2
        exact absurd (e1.trans e2.symm) two_data
    obtain ⟨c, hc⟩ := hsome
    have hy : y.1 = cd c := by rw [← hat .nil]; have := hDx .nil; rw [hc] at this; exact this
    have hv : v = mk c := E.from_ v c y.2 (by rw [hRv, ← hy])
    subst hv
    have hbq : b ≠ q := fun e => by
      have := hR.inj i j b hb (by rw [e]; exact hq)
      subst this
      rw [hi] at hj; injection hj with hj
      have h2 := (hr w hM hI).ne
      exact h2 e.symm
    have hMs : w'.heap[b]? = some M := (hg.block b (hR.new i b hb).1 (fun e => hbq (Option.some.inj e))).trans hM
    obtain ⟨M', I', hM', hI'⟩ := obj_of hrg'
    rw [hMs] at hM'; injection hM' with hM'; subst hM'
    have hex : (execOp a.eval o).run Try.prog w = .ok (.value (.tuple #[.bool true, .int .i64 x, mk c])) w' := by simp [execOp, hop, hu, hrun]
    refine wp_of_value hex (hK _ _ _ _ (hk1 x c I' cnt' hwf (by rw [← hlf x hwf]; exact hleft) hc hlt ⟨⟨D, _, fun w2 e1 e2 => ranges_local hrg' (e1.trans hMs.symm) (e2.trans hI'.symm), hD, fun k hk => ?_⟩, hmap⟩ (fun w2 e1 e2 => ?_)) ?_)
    · rw [hlf k hk]
      rw [same_i64]
    · exact entry_local hrg' hent (e1.trans hMs.symm) (e2.trans hI'.symm)
    · refine good_value hR hf hN hd hdst ⟨_, rfl, _, _, rfl, by simp [Pc.den, CV.den], _, _, rfl, by simp [Pc.den, CV.den], _, _, rfl, by simp [Pc.den, CV.den], rfl⟩ (hR.setBlock hq hg ⟨q, hq, ⟨rfl, hI'⟩, fun w2 h2 => ⟨rfl, h2.trans hI'⟩⟩ (hR.lt_of_blk hq)) (Env.le.refl r)
theorem op_entry {it : Operand} (hop : o.op = .entry it) (i j b q : Nat) (M I : Obj) (x : Int) (v : Value) (hit : f.ev it = .p (.c (.ref j 0))) (hi : S[i]? = some (objOw b M)) (hj : S[j]? = some (objOw q I)) (hdst : dstOk N.n o.dst = true)
    (hent : ∀ w : World, w.heap[b]? = some M → w.heap[q]? = some I → (Instr.entry (.pointer (some ⟨q, 0, none⟩))).run Try.prog w = .ok (.tuple #[.int .i64 x, v]) w)
    (hk : K (f.put o.dst (.tup [.c (.v (.int .i64 x)), .c (.v v)])) S) : OpS Try.prog w0 G N o f S K := by
  refine ⟨fun r a w hR hf hN hd next Q hK => ?_⟩
  have h1 := hf.ev it
  rw [hit] at h1
  obtain ⟨hb, hq, hM, hI⟩ := objs_at hR hi hj
  obtain ⟨q', hq', hu⟩ := den_ref h1
  rw [hq] at hq'; injection hq' with hq'; subst hq'
  have hex : (execOp a.eval o).run Try.prog w = .ok (.value (.tuple #[.int .i64 x, v])) w := by simp [execOp, hop, hu, hent w hM hI]
  exact wp_of_value hex (hK _ _ _ _ hk (good_value hR hf hN hd hdst ⟨_, rfl, _, _, rfl, by simp [Pc.den, CV.den], _, _, rfl, by simp [Pc.den, CV.den], rfl⟩ hR (Env.le.refl r)))
theorem op_delete_in {t e : TypeId} {mo x : Operand} (hop : o.op = .call ⟨.builtin .delete, #[mo, x], #[t, 3]⟩) (ht : Try.prog.underlying t = some (.map 3 e)) (i j b q : Nat) (M I : Obj) (left : Int → Bool) (cnt : Nat) (k : Int)
    (hm : f.ev mo = .p (.c (.mp i))) (hi : S[i]? = some (objOw b M)) (hj : S[j]? = some (objOw q I)) (hrg : Ranging R cd b q M I n m left cnt) (hx : f.ev x = one (.int .i64 k)) (hkw : (litK k).wf = true) (hdst : dstOk N.n o.dst = true)
    (hk : ∀ M' cnt', cnt' ≤ cnt → Ranging R cd b q M' I n (mdel m k) (fun z => left z && !(z == k)) cnt' → K (f.put o.dst (.p (.c .any))) (S.set i (objOw b M'))) : OpS Try.prog w0 G N o f S K := by
  refine ⟨fun r a w hR hf hN hd next Q hK => ?_⟩
  have h1 := hf.ev mo
  have h2 := hf.ev x
  rw [hm] at h1; rw [hx] at h2
  obtain ⟨hb, hq, hM, hI⟩ := objs_at hR hi hj
  obtain ⟨b', hb', hu⟩ := den_mp h1
  rw [hb] at hb'; injection hb' with hb'; subst hb'
  obtain ⟨⟨D, lf, hr, hD, hlf⟩, hmap⟩ := hrg
  obtain ⟨w', cnt', hrun, hrg', hle, hturn⟩ := (hr w hM hI).drop law_int ht (key_int hkw) o.type
  have hg := hturn.grown
  have hbq : b ≠ q := fun e => (hr w hM hI).ne e.symm
  have hIs : w'.heap[q]? = some I := (hg.block q (hR.new j q hq).1 (fun e => hbq (Option.some.inj e).symm)).trans hI
  obtain ⟨M', I', hM', hI'⟩ := obj_of hrg'
  rw [hIs] at hI'; injection hI' with hI'; subst hI'
  have hD' : ∀ z, (litK z).wf = true → Maps.has (D.del (litK k)) (litK z) = (mdel m k z).isSome ∧ ∀ y, (D.del (litK k)).atKey (litK z) y = ((mdel m k z).map cd).getD y := by
    intro z hz
    by_cases hzk : z = k
    · subst hzk
      exact ⟨by rw [Maps.has_del_same]; simp [mdel], fun y => by rw [Maps.atKey_del_same]; simp [mdel]⟩
    · exact ⟨by rw [Maps.has_del_other (lit_ne hzk)]; simp [mdel, hzk, (hD z hz).1], fun y => by rw [Maps.atKey_del_other (lit_ne hzk)]; simp [mdel, hzk, (hD z hz).2 y]⟩
  have hex : (execOp a.eval o).run Try.prog w = .ok (.value (.tuple #[])) w' := by
    simp [execOp, hop, resolve, invoke, builtin, hu, den_v h2, hrun]
  refine wp_of_value hex (hK _ _ _ _ (hk M' cnt' hle ⟨⟨_, _, fun w2 e1 e2 => ranges_local hrg' (e1.trans hM'.symm) (e2.trans hIs.symm), hD', fun z hz => ?_⟩, fun w2 e1 => ⟨_, owns_local hrg'.owns (e1.trans hM'.symm), hD'⟩⟩) ?_)
  · rw [hlf z hz]
    rw [same_i64]
  · exact good_value hR hf hN hd hdst (by simp [AV.den, Pc.den, CV.den]) (hR.setBlock hb hg ⟨b, hb, ⟨rfl, hM'⟩, fun w2 h2 => ⟨rfl, h2.trans hM'⟩⟩ (hR.lt_of_blk hb)) (Env.le.refl r)
end
theorem IMap.is_wf {R : Value → Option (DataW Unit × List MemPlace)} {cd : Int → DataW Unit} {w : World} {b n : Nat} {f f' : Int → Option Int} (h : IMap R cd w b n f) (hf : ∀ k, (litK k).wf = true → f k = f' k) : IMap R cd w b n f' := by
  obtain ⟨D, h1, h2⟩ := h
  exact ⟨D, h1, fun k hk => by rw [← hf k hk]; exact h2 k hk⟩
theorem Ranging.is {R : Value → Option (DataW Unit × List MemPlace)} {cd : Int → DataW Unit} {b r : Nat} {M I : Obj} {n : Nat} {m m' : Int → Option Int} {left : Int → Bool} {cnt : Nat} (h : Ranging R cd b r M I n m left cnt) (hm : ∀ k, (litK k).wf = true → m k = m' k) : Ranging R cd b r M I n m' left cnt := by
  obtain ⟨⟨D, lf, h1, h2, h3⟩, h4⟩ := h
  exact ⟨⟨D, lf, h1, fun k hk => by rw [← hm k hk]; exact h2 k hk, h3⟩, fun w hw => (h4 w hw).is_wf hm⟩
theorem obj_le_wf {R : Value → Option (DataW Unit × List MemPlace)} {cd : Int → DataW Unit} {n : Nat} {m : Int → Option Int} {b q : Nat} {M I : Obj} {left : Int → Bool} {cnt n' : Nat} {m' : Int → Option Int} (h : Ranging R cd b q M I n m left cnt) (hn : n ≤ n') (hm : ∀ k, (litK k).wf = true → m k = m' k) : OLe (objOw b M) (mapOw R cd n' m') := fun b' w ⟨hb, hM⟩ => by
  subst hb
  exact ((h.map w hM).mono hn).is_wf hm
/-- A loop that strikes the entries that keep does not keep, under way. -/
def filtF (m : Int → Option Int) (left : Int → Bool) (keep : Int → Bool) : Int → Option Int := fun k => if left k then m k else (m k).filter keep
structure FiltSt (b q n : Nat) (m : Int → Option Int) (keep : Int → Bool) where
  M : Obj
  I : Obj
  left : Int → Bool
  cnt : Nat
  h : Ranging i64R i64D b q M I n (filtF m left keep) left cnt
theorem filt_start {m : Int → Option Int} {left : Int → Bool} (keep : Int → Bool) {k : Int} (h : left k = (m k).isSome) : m k = filtF m left keep k := by
  unfold filtF
  cases hm : m k with
  | none => simp
  | some x => rw [h, hm]; simp
theorem filt_end {m : Int → Option Int} {left : Int → Bool} {keep : Int → Bool} {k : Int} (h : left k = false) : filtF m left keep k = (m k).filter keep := by unfold filtF; rw [h]; simp
theorem filt_keep {m : Int → Option Int} {left : Int → Bool} {keep : Int → Bool} {x c : Int} (hc : filtF m left keep x = some c) (hl : left x = true) (hk : keep c = true) (k : Int) : filtF m left keep k = filtF m (fun z => left z && !(z == x)) keep k := by
  unfold filtF at *
  by_cases hkx : k = x
  · subst hkx
    have hc' : m k = some c := by simpa [hl] using hc
    simp [hl, hc', hk, Option.filter]
  · simp [hkx]
theorem filt_drop {m : Int → Option Int} {left : Int → Bool} {keep : Int → Bool} {x c : Int} (hc : filtF m left keep x = some c) (hl : left x = true) (hk : keep c = false) (k : Int) : mdel (filtF m left keep) x k = filtF m (fun z => (left z && !(z == x)) && !(z == x)) keep k := by
  unfold mdel
  unfold filtF at *
  by_cases hkx : k = x
  · subst hkx
    have hc' : m k = some c := by simpa [hl] using hc
    simp [hc', hk, Option.filter]
  · simp [hkx]
theorem op_next_i64 {w0 : World} {G : Gs} {N : Nd} {o : Oper} {f : Fr} {S : List Ow} {K : Fr → List Ow → Prop} {n : Nat} {m : Int → Option Int} {it : Operand} (hop : o.op = .next it false) (i j b q : Nat) (M I : Obj) (left : Int → Bool) (cnt : Nat) (hit : f.ev it = .p (.c (.ref j 0))) (hi : S[i]? = some (objOw b M)) (hj : S[j]? = some (objOw q I)) (hrg : Ranging i64R i64D b q M I n m left cnt) (hdst : dstOk N.n o.dst = true)
    (hk0 : (∀ k, (litK k).wf = true → left k = false) → K (f.put o.dst (.tup [.c (.v (.bool false))])) S)
    (hk1 : ∀ x c I' cnt', (litK x).wf = true → left x = true → m x = some c → cnt' < cnt → Ranging i64R i64D b q M I' n m (fun k => left k && !(k == x)) cnt' →
      (∀ w : World, w.heap[b]? = some M → w.heap[q]? = some I' → (Instr.entry (.pointer (some ⟨q, 0, none⟩))).run Try.prog w = .ok (.tuple #[.int .i64 x, .int .i64 c]) w) →
      K (f.put o.dst (.tup [.c (.v (.bool true)), .c (.v (.int .i64 x)), .c (.v (.int .i64 c))])) (S.set j (objOw q I'))) : OpS Try.prog w0 G N o f S K :=
  op_next hop i64Elems i j b q M I left cnt hit hi hj hrg hdst hk0 hk1 fun _ => rfl
end Go.Proofs.Ytmjfgnnefcimiaa
namespace Go.Proofs.Ytmjfgnnefcimiaa
open Go.RowKit

theorem rel_setSame {w0 : World} {G : Gs} {S : List Ow} {r : Env} {w : World} (h : Rel w0 G S r w) {i : Nat} {o : Ow} (ho : o.holds r w i) : Rel w0 G (S.set i o) r w := by
  refine ⟨h.os, h.tape, h.output, h.size, h.old, fun j o' hj => ?_, h.inj, h.new, fun j hj => h.outB j (by simpa using hj), fun j hj => h.outV j (by simpa using hj), h.first⟩
  rw [List.getElem?_set] at hj
  split at hj
  · rename_i hij; subst hij
    split at hj
    · injection hj with hj; subst hj; exact ho
    · cases hj
  · exact h.own j o' hj
mutual
def CV.ren (σ : Nat → Nat) : CV → CV
  | .v x => .v x
  | .ref i o => .ref (σ i) o
  | .vref i o => .vref (σ i) o
  | .row i => .row (σ i)
  | .sl i o n c => .sl (σ i) o n c
  | .mp i => .mp (σ i)
  | .clo f cap => .clo f (renL σ cap)
  | .any => .any
def renL (σ : Nat → Nat) : List CV → List CV
  | [] => []
  | c :: l => c.ren σ :: renL σ l
end
def Pc.ren (σ : Nat → Nat) : Pc → Pc
  | .c x => .c (x.ren σ)
  | .agg l => .agg (renL σ l)
def prenL (σ : Nat → Nat) : List Pc → List Pc
  | [] => []
  | c :: l => c.ren σ :: prenL σ l
def AV.ren (σ : Nat → Nat) : AV → AV
  | .p x => .p (x.ren σ)
  | .tup l => .tup (prenL σ l)
def Ow.ren (σ : Nat → Nat) : Ow → Ow
  | .cells t l => .cells t (renL σ l)
  | o => o
def Env.comp (r : Env) (σ : Nat → Nat) (n : Nat) : Env := ⟨fun i => if i < n then r.blk (σ i) else Option.none, fun i => if i < n then r.val (σ i) else Option.none⟩
section
variable {r : Env} {σ : Nat → Nat} {n : Nat}
theorem comp_blk {i : Nat} (h : i < n) : (r.comp σ n).blk i = r.blk (σ i) := if_pos h
theorem comp_val {i : Nat} (h : i < n) : (r.comp σ n).val i = r.val (σ i) := if_pos h
mutual
theorem CV.den_ren : ∀ (c : CV) (u : Value), c.bnd n = true → (c.ren σ).den r u → c.den (r.comp σ n) u
  | .v x, u, _, hd => by simpa only [CV.den, CV.ren] using hd
  | .ref i off, u, hb, hd => by
    have hi : i < n := by simpa [CV.bnd, Nat.blt_eq] using hb
    simp only [CV.den, CV.ren] at hd ⊢; rw [comp_blk hi]; exact hd
  | .vref i off, u, hb, hd => by
    have hi : i < n := by simpa [CV.bnd, Nat.blt_eq] using hb
    simp only [CV.den, CV.ren] at hd ⊢; rw [comp_val hi]; exact hd
  | .row i, u, hb, hd => by
    have hi : i < n := by simpa [CV.bnd, Nat.blt_eq] using hb
    simp only [CV.den, CV.ren] at hd ⊢; rw [comp_val hi]; exact hd
  | .sl i off m c, u, hb, hd => by
    have hi : i < n := by simpa [CV.bnd, Nat.blt_eq] using hb
    simp only [CV.den, CV.ren] at hd ⊢; rw [comp_blk hi]; exact hd
  | .mp i, u, hb, hd => by
    have hi : i < n := by simpa [CV.bnd, Nat.blt_eq] using hb
    simp only [CV.den, CV.ren] at hd ⊢; rw [comp_blk hi]; exact hd
  | .clo f cap, u, hb, hd => by
    simp only [CV.den, CV.ren] at hd ⊢; obtain ⟨us, hu, hl⟩ := hd
    exact ⟨us, hu, denL_ren cap us (by simpa only [CV.bnd] using hb) hl⟩
  | .any, u, _, hd => by simp only [CV.den]
theorem denL_ren : ∀ (l : List CV) (us : List Value), bndL n l = true → denL r (renL σ l) us → denL (r.comp σ n) l us
  | [], us, _, hd => by simpa only [denL, renL] using hd
  | c :: cs, us, hb, hd => by
    simp only [denL, renL] at hd ⊢; obtain ⟨u, l, hu, hc, hl⟩ := hd
    simp only [bndL] at hb
    split at hb
    · rename_i h1; exact ⟨u, l, hu, CV.den_ren c u h1 hc, denL_ren cs l hb hl⟩
    · cases hb
end
theorem Pc.den_ren : ∀ (c : Pc) (u : Value), c.bnd n = true → (c.ren σ).den r u → c.den (r.comp σ n) u
  | .c x, u, hb, hd => CV.den_ren x u hb hd
  | .agg l, u, hb, hd => by obtain ⟨us, hu, hl⟩ := hd; exact ⟨us, hu, denL_ren l us hb hl⟩
theorem pdenL_ren : ∀ (l : List Pc) (us : List Value), pbndL n l = true → pdenL r (prenL σ l) us → pdenL (r.comp σ n) l us
  | [], us, _, hd => hd
  | c :: cs, us, hb, hd => by
    obtain ⟨u, l, hu, hc, hl⟩ := hd
    simp only [pbndL] at hb
    split at hb
    · rename_i h1; exact ⟨u, l, hu, Pc.den_ren c u h1 hc, pdenL_ren cs l hb hl⟩
    · cases hb
theorem AV.den_ren : ∀ (c : AV) (u : Value), c.bnd n = true → (c.ren σ).den r u → c.den (r.comp σ n) u
  | .p x, u, hb, hd => Pc.den_ren x u hb hd
  | .tup l, u, hb, hd => by obtain ⟨us, hu, hl⟩ := hd; exact ⟨us, hu, pdenL_ren l us hb hl⟩
end
def FRen (f : Fr) (σ : Nat → Nat) : Fr → Prop
  | [] => True
  | (d, x) :: g => AVle (f.get d) (x.ren σ) ∧ FRen f σ g
theorem FRen.get {f : Fr} {σ : Nat → Nat} : ∀ {g : Fr} (k : Nat), FRen f σ g → g.get k = .p (.c .any) ∨ AVle (f.get k) ((g.get k).ren σ)
  | [], k, _ => .inl rfl
  | (d, x) :: g, k, h => by
    simp only [Fr.get]
    split
    · rename_i hk; have := Nat.eq_of_beq_eq_true hk; subst this; exact .inr h.1
    · exact FRen.get k h.2
def RLe (S : List Ow) (σ : Nat → Nat) : List Ow → List Nat → Prop
  | [], [] => True
  | o' :: S', k :: l => (∃ o, S[k]? = some o ∧ OLe o (o'.ren σ)) ∧ RLe S σ S' l
  | _, _ => False
theorem RLe.length {S : List Ow} {σ : Nat → Nat} : ∀ {S' : List Ow} {l : List Nat}, RLe S σ S' l → S'.length = l.length
  | [], [], _ => rfl
  | _ :: S', _ :: l, h => by simp [RLe.length h.2]
  | [], _ :: _, h => h.elim
  | _ :: _, [], h => h.elim
theorem RLe.get {S : List Ow} {σ : Nat → Nat} : ∀ {S' : List Ow} {l : List Nat} {i : Nat} {o' : Ow}, RLe S σ S' l → S'[i]? = some o' → ∃ k o, l[i]? = some k ∧ S[k]? = some o ∧ OLe o (o'.ren σ)
  | [], _, i, o', _, h => by simp at h
  | o :: S', k :: l, 0, o', h, hi => by simp at hi; subst hi; obtain ⟨o1, h1, h2⟩ := h.1; exact ⟨k, o1, by simp, h1, h2⟩
  | o :: S', k :: l, i + 1, o', h, hi => by simpa using RLe.get h.2 (by simpa using hi)
  | _ :: _, [], _, _, h, _ => h.elim
def isViewB (S : List Ow) (k : Nat) : Bool := match S[k]? with | some (.view ..) => true | _ => false
def memB (k : Nat) : List Nat → Bool
  | [] => false
  | j :: l => match Nat.beq k j with | true => true | false => memB k l
theorem memB_of {k : Nat} : ∀ {l : List Nat}, k ∈ l → memB k l = true
  | j :: l, h => by
    simp only [memB]
    split
    · rfl
    · rename_i hb
      rcases List.mem_cons.1 h with rfl | h
      · rw [Nat.beq_refl] at hb; cases hb
      · exact memB_of h
def injB (S : List Ow) : List Nat → Bool
  | [] => true
  | k :: l => match isViewB S k, memB k l with | false, true => false | _, _ => injB S l
theorem injB_spec {S : List Ow} : ∀ {l : List Nat} {i j k : Nat}, injB S l = true → i < j → l[i]? = some k → l[j]? = some k → isViewB S k = true
  | [], i, j, k, _, _, h, _ => by simp at h
  | a :: l, i, j, k, hb, hij, hi, hj => by
    obtain ⟨j, rfl⟩ : ∃ j', j = j' + 1 := ⟨j - 1, by omega⟩
    simp only [List.getElem?_cons_succ] at hj
    simp only [injB] at hb
    cases i with
    | zero =>
      simp at hi; subst hi
      cases hv : isViewB S a
      · rw [hv, memB_of (List.mem_of_getElem? hj)] at hb; cases hb
      · rfl
    | succ i =>
      have hb2 : injB S l = true := by split at hb; cases hb; exact hb
      exact injB_spec hb2 (by omega : i < j) (by simpa using hi) hj
def idB (n : Nat) : List Nat → Nat → Bool
  | [], _ => true
  | k :: l, i => match Nat.blt i n, Nat.beq k i with | true, false => false | _, _ => idB n l (i + 1)
theorem idB_zero : ∀ (l : List Nat) (i : Nat), idB 0 l i = true
  | [], _ => rfl
  | k :: l, i => by
    simp only [idB]
    have : Nat.blt i 0 = false := by cases i <;> rfl
    rw [this]; exact idB_zero l (i + 1)
theorem idB_spec {n : Nat} : ∀ {l : List Nat} {s i k : Nat}, idB n l s = true → l[i]? = some k → s + i < n → k = s + i
  | [], s, i, k, _, h, _ => by simp at h
  | a :: l, s, i, k, hb, hi, hn => by
    simp only [idB] at hb
    cases i with
    | zero =>
      simp at hi; subst hi
      have h1 : Nat.blt s n = true := by rw [Nat.blt_eq]; omega
      rw [h1] at hb
      cases h2 : Nat.beq a s
      · rw [h2] at hb; cases hb
      · exact Nat.eq_of_beq_eq_true h2
    | succ i =>
      have hb2 : idB n l (s + 1) = true := by split at hb; cases hb; exact hb
      have := idB_spec (i := i) hb2 (by simpa using hi) (by omega)
      omega
theorem rel_ren {w0 : World} {G : Gs} {S S' : List Ow} {r : Env} {w : World} (hR : Rel w0 G S r w) (σl : List Nat) (hS : RLe S (fun i => σl.getD i 0) S' σl) (hb : sbnd S'.length S' = true) (hi : injB S σl = true) (hG : idB G.fix.length σl 0 = true) (hGl : Nat.ble G.fix.length S'.length = true) :
    Rel w0 G S' (r.comp (fun i => σl.getD i 0) S'.length) w := by
  have hl := hS.length
  have at_ : ∀ i, i < S'.length → ∃ k o o', σl[i]? = some k ∧ σl.getD i 0 = k ∧ S'[i]? = some o' ∧ S[k]? = some o ∧ OLe o (o'.ren fun i => σl.getD i 0) := fun i hil => by
    obtain ⟨k, o, h1, h2, h3⟩ := hS.get (List.getElem?_eq_getElem hil)
    exact ⟨k, o, _, h1, by rw [List.getD_eq_getElem?_getD, h1]; rfl, List.getElem?_eq_getElem hil, h2, h3⟩
  have lt_of : ∀ {i b}, (r.comp (fun i => σl.getD i 0) S'.length).blk i = some b → i < S'.length := fun {i b} h => by
    simp only [Env.comp] at h; split at h
    · assumption
    · cases h
  refine ⟨hR.os, hR.tape, hR.output, hR.size, hR.old, fun i o' ho' => ?_, fun i j b h1 h2 => ?_, fun i b h => ?_, fun i h => if_neg (by omega), fun i h => if_neg (by omega), fun i g hg => ?_⟩
  · have hil : i < S'.length := by
      rcases Nat.lt_or_ge i S'.length with h1 | h1
      · exact h1
      · rw [List.getElem?_eq_none h1] at ho'; cases ho'
    obtain ⟨k, o, o2, h1, h2, h3, h4, h5⟩ := at_ i hil
    rw [ho'] at h3; injection h3 with h3; subst h3
    have hh := h5.holds (hR.own k o h4)
    have hbo := sbnd_get hb ho'
    have hbl : (r.comp (fun i => σl.getD i 0) S'.length).blk i = r.blk k := (comp_blk hil).trans (by rw [h2])
    have hvl : (r.comp (fun i => σl.getD i 0) S'.length).val i = r.val k := (comp_val hil).trans (by rw [h2])
    cases o' with
    | cells t l => obtain ⟨b, us, j1, j2, j3⟩ := hh; exact ⟨b, us, hbl.trans j1, j2, denL_ren l us hbo j3⟩
    | row e size m xs => obtain ⟨v, j1, j2, j3⟩ := hh; exact ⟨v, hvl.trans j1, j2.trans hbl.symm, j3⟩
    | ext φ => obtain ⟨b, j1, j2⟩ := hh; exact ⟨b, hbl.trans j1, j2⟩
    | view φ m xs =>
      obtain ⟨A, c, j1, j2, j3, j4, j5⟩ := hh
      refine ⟨A, c, hvl.trans j1, j2, j3, hbl.trans j4, fun j u hj => ?_⟩
      obtain ⟨b, off, j6, j7, j8, j9⟩ := j5 j u hj
      refine ⟨b, off, j6, j7, fun q hq => ?_, j9⟩
      rw [comp_blk (lt_of hq)] at hq
      exact j8 _ hq
    | gone => trivial
  · have l1 := lt_of h1
    have l2 := lt_of h2
    rw [comp_blk l1] at h1
    rw [comp_blk l2] at h2
    obtain ⟨k, o, o2, a1, a2, a3, a4, a5⟩ := at_ i l1
    obtain ⟨k', o', o2', b1, b2, b3, b4, b5⟩ := at_ j l2
    have hk := hR.inj _ _ b h1 h2
    rw [a2, b2] at hk
    subst hk
    have hnv : isViewB S k = false := by
      cases hv : isViewB S k
      · rfl
      · exfalso
        unfold isViewB at hv
        rw [a4] at hv
        cases o <;> simp at hv
        obtain ⟨A, c, _, _, _, j4, _⟩ := hR.own k _ a4
        rw [a2, j4] at h1; cases h1
    rcases Nat.lt_trichotomy i j with h | h | h
    · rw [injB_spec hi h a1 b1] at hnv; cases hnv
    · exact h
    · rw [injB_spec hi h b1 a1] at hnv; cases hnv
  · have l1 := lt_of h
    rw [comp_blk l1] at h
    exact hR.new _ b h
  · have hgl : i < G.fix.length := by
      rcases Nat.lt_or_ge i G.fix.length with h1 | h1
      · exact h1
      · rw [List.getElem?_eq_none h1] at hg; cases hg
    have hil : i < S'.length := Nat.lt_of_lt_of_le hgl (Nat.le_of_ble_eq_true hGl)
    obtain ⟨k, o, o2, a1, a2, _⟩ := at_ i hil
    rw [comp_blk hil, a2]
    have := idB_spec hG a1 (by omega)
    rw [this, Nat.zero_add]
    exact hR.first i g hg
theorem FRen.den {r : Env} {f f' : Fr} {σ : Nat → Nat} {n : Nat} {a : Act} (h : FRen f σ f') (hb : f'.bnd n = true) (hf : FDen r f a) : FDen (r.comp σ n) f' a := fun k => by
  rcases h.get k with h1 | h1
  · rw [h1]; simp [AV.den, Pc.den, CV.den]
  · exact AV.den_ren _ _ (Fr.bnd_get k hb) (h1.den (hf k))
/-- The entries in another order, with new names; some dropped, views doubled. -/
theorem ent_ren {w0 : World} {G : Gs} {N : Nd} {f f' : Fr} {S S' : List Ow} (σl : List Nat) (hf : FRen f (fun i => σl.getD i 0) f') (hS : RLe S (fun i => σl.getD i 0) S' σl) (hfb : f'.bnd S'.length = true) (hb : sbnd S'.length S' = true) (hi : injB S σl = true) (hG : idB G.fix.length σl 0 = true) (hGl : Nat.ble G.fix.length S'.length = true) : Ent w0 G N f S f' S' :=
  ⟨fun _a _w ⟨_r, hR, hd, hN, hdf⟩ => ⟨_, rel_ren hR σl hS hb hi hG hGl, hf.den hfb hd, hN, hdf⟩⟩
theorem entB_ren {f f' : Fr} {S S' : List Ow} (σl : List Nat) (hf : FRen f (fun i => σl.getD i 0) f') (hS : RLe S (fun i => σl.getD i 0) S' σl) (hfb : f'.bnd S'.length = true) (hb : sbnd S'.length S' = true) (hi : injB S σl = true) : EntB f S f' S' :=
  ⟨fun w0 w r a hR hd => ⟨_, rel_ren hR σl hS hb hi (idB_zero σl 0) rfl, hf.den hfb hd, fun i b h => by
    simp only [Env.comp] at h; split at h
    · exact ⟨_, h⟩
    · cases h⟩⟩
end Go.Proofs.Ytmjfgnnefcimiaa
namespace Go.Proofs.Ytmjfgnnefcimiaa
open Go.RowKit

theorem mixed : Try.prog.follows .mixedOrders = true := by kernel_rfl
set_option maxRecDepth 100000 in
theorem fold_opt (g b n : Nat) (f : Int → Option Int) (o : BOp) (w : World) (hg : w.cell? ⟨g, 0, none⟩ = some (.map (some b))) (hgl : g < w.heap.size) (hm : IMap u32R u32D w b n f) (ho : o.ok) (hw : ∀ k x, f k = some x → word x) :
    Calls Try.prog 39 #[.pointer (some ⟨g, 0, none⟩), opV o] w fun e w' => e = .returned (.tuple #[opV (foldB f o).1, .bool (foldB f o).2]) ∧ Below w.heap.size w w' := by
  have ka := wf_mid ho.a
  have kb := wf_mid ho.b
  refine calls_vc (args := [.pointer (some ⟨g, 0, none⟩), opV o]) (avs := [one (.pointer (some ⟨g, 0, none⟩)), AV.of (opV o)]) Try.func39 Try.ntmps39 rfl (rel_none w) ⟨_, _, rfl, den_one _ _, _, _, rfl, AV.of_den _ _, rfl⟩ (by simp) ?_
  conv => whnf
  refine sat_quiet mixed (by kernel_rfl) ?_
  conv => whnf
  refine ⟨_, cells_one hgl (by simp) hg, ?_⟩
  conv => whnf
  refine q_look_u32_old rfl o.a rfl hm (by simp) rfl ka ?_
  conv => whnf
  refine sat_quiet mixed (by kernel_rfl) ?_
  conv => whnf
  refine ⟨_, cells_one hgl (by simp) hg, ?_⟩
  conv => whnf
  refine q_look_u32_old rfl o.b rfl hm (by simp) rfl kb ?_
  conv => whnf
  apply Exists.intro
  refine ⟨fun h => ?_, ?_⟩
  · conv => whnf
    exact ⟨rfl, rfl, rfl, rfl, rfl⟩
  conv => whnf
  refine ⟨fun h1 => ?_, fun h1 => ?_⟩
  · conv => whnf
    refine fin_val rfl fun w' hb => ⟨?_, hb⟩
    have e : foldB f o = (⟨1, o.d, 0, 0, (f o.a).getD 0⟩, true) := by unfold foldB; exact if_pos h1
    rw [e]
  conv => whnf
  refine call_same rfl (by kernel_rfl) (fun r w' _ => binary_any _ w') ?_
  conv => whnf
  apply Exists.intro
  refine ⟨fun h => ?_, ?_⟩
  · conv => whnf
    exact ⟨rfl, rfl, rfl, rfl, rfl⟩
  conv => whnf
  apply Exists.intro
  refine ⟨fun h => ?_, ?_⟩
  · conv => whnf
    exact ⟨rfl, rfl, rfl, rfl, rfl⟩
  conv => whnf
  refine ⟨fun h2 => ?_, fun h2 => ?_⟩
  · conv => whnf
    have h3 : (isBin o.code = true ∧ (f o.a).isSome = true) ∧ (f o.b).isSome = true := by simpa [cmb] using h2
    obtain ⟨x, hx⟩ := Option.isSome_iff_exists.1 h3.1.2
    obtain ⟨y, hy⟩ := Option.isSome_iff_exists.1 h3.2
    refine sat_tail 8 mixed (by kernel_rfl) ?_
    conv => whnf
    refine q_con rfl (by kernel_rfl) (fun r w' _ => op_word _ _ _ w' ho.code (by rw [hx]; exact hw _ _ hx) (by rw [hy]; exact hw _ _ hy)) ?_
    conv => whnf
    refine fin_val rfl fun w' hb => ⟨?_, hb⟩
    have e : foldB f o = (⟨1, o.d, 0, 0, wordOp o.code ((f o.a).getD 0) ((f o.b).getD 0)⟩, true) := by unfold foldB; exact (if_neg (Bool.eq_false_iff.1 h1)).trans (if_pos h2)
    rw [e]
  conv => whnf
  apply Exists.intro
  refine ⟨fun h => ?_, ?_⟩
  · conv => whnf
    exact ⟨rfl, rfl, rfl, rfl, rfl⟩
  conv => whnf
  apply Exists.intro
  refine ⟨fun h => ?_, ?_⟩
  · conv => whnf
    refine callS_val (.bool (memI o.code [3, 4, 6, 7, 8, 9, 10])) (by kernel_rfl) (fun r w1 us hR hd => ?_) ?_
    · obtain ⟨u1, l1, rfl, d1, u2, l2, rfl, d2, d3⟩ := hd
      obtain rfl : l2 = [] := d3
      obtain ⟨bb, hbb, rfl⟩ := den_sl d1
      obtain rfl := den_v d2
      exact (contains_int _ 7 7 _ [3, 4, 6, 7, 8, 9, 10] w1 (hR.slAt (i := 2) rfl hbb) rfl (by omega)).mono fun e w' ⟨h1, h2⟩ => ⟨h1, by subst h2; exact Below.refl _ _⟩
    · conv => whnf
      exact ⟨rfl, rfl, rfl, rfl, rfl⟩
  conv => whnf
  refine ⟨fun h3 => ?_, fun h3 => ?_⟩
  · conv => whnf
    refine fin_val rfl fun w' hb => ⟨?_, hb⟩
    have e : foldB f o = (⟨2, o.d, o.a, 0, 0⟩, true) := by
      unfold foldB
      exact (if_neg (Bool.eq_false_iff.1 h1)).trans ((if_neg (Bool.eq_false_iff.1 h2)).trans (if_pos h3))
    rw [e]
  conv => whnf
  apply Exists.intro
  refine ⟨fun h => ?_, ?_⟩
  · conv => whnf
    exact ⟨rfl, rfl, rfl, rfl, rfl⟩
  conv => whnf
  apply Exists.intro
  refine ⟨fun h => ?_, ?_⟩
  · conv => whnf
    exact ⟨rfl, rfl, rfl, rfl, rfl⟩
  conv => whnf
  refine ⟨fun h4 => ?_, fun h4 => ?_⟩
  · conv => whnf
    refine fin_val rfl fun w' hb => ⟨?_, hb⟩
    have e : foldB f o = (⟨0, 0, 0, 0, 0⟩, false) := by
      unfold foldB
      exact (if_neg (Bool.eq_false_iff.1 h1)).trans ((if_neg (Bool.eq_false_iff.1 h2)).trans ((if_neg (Bool.eq_false_iff.1 h3)).trans (if_pos h4)))
    rw [e]
  conv => whnf
  apply Exists.intro
  refine ⟨fun h => ?_, ?_⟩
  · conv => whnf
    exact ⟨rfl, rfl, rfl, rfl, rfl⟩
  conv => whnf
  refine ⟨fun h5 => ?_, fun h5 => ?_⟩
  · conv => whnf
    refine fin_val rfl fun w' hb => ⟨?_, hb⟩
    have e : foldB f o = (⟨24, 0, 0, 0, o.n⟩, (f o.a).getD 0 != 0) := by
      unfold foldB
      exact (if_neg (Bool.eq_false_iff.1 h1)).trans ((if_neg (Bool.eq_false_iff.1 h2)).trans ((if_neg (Bool.eq_false_iff.1 h3)).trans ((if_neg (Bool.eq_false_iff.1 h4)).trans (if_pos h5))))
    rw [e]
  conv => whnf
  apply Exists.intro
  refine ⟨fun h => ?_, ?_⟩
  · conv => whnf
    exact ⟨rfl, rfl, rfl, rfl, rfl⟩
  conv => whnf
  refine ⟨fun h6 => ?_, fun h6 => ?_⟩
  · conv => whnf
    refine fin_val rfl fun w' hb => ⟨?_, hb⟩
    have e : foldB f o = (⟨24, 0, 0, 0, (f o.a).getD 0⟩, true) := by
      unfold foldB
      exact (if_neg (Bool.eq_false_iff.1 h1)).trans ((if_neg (Bool.eq_false_iff.1 h2)).trans ((if_neg (Bool.eq_false_iff.1 h3)).trans ((if_neg (Bool.eq_false_iff.1 h4)).trans ((if_neg (Bool.eq_false_iff.1 h5)).trans (if_pos h6)))))
    rw [e]
  conv => whnf
  refine fin_val rfl fun w' hb => ⟨?_, hb⟩
  have e : foldB f o = (o, true) := by
    unfold foldB
    exact (if_neg (Bool.eq_false_iff.1 h1)).trans ((if_neg (Bool.eq_false_iff.1 h2)).trans ((if_neg (Bool.eq_false_iff.1 h3)).trans ((if_neg (Bool.eq_false_iff.1 h4)).trans ((if_neg (Bool.eq_false_iff.1 h5)).trans (if_neg (Bool.eq_false_iff.1 h6))))))
  rw [e]
end Go.Proofs.Ytmjfgnnefcimiaa
namespace Go.Proofs.Ytmjfgnnefcimiaa
open Go.RowKit

theorem wpListIn_split {P : Program} {ops : Array Oper} {Q : Exit → Act → World → Prop} {Q1 : Act → World → Prop} (ro : Option Nat) (n : Nat) : ∀ (k : Nat) {l : List Oper} {a : Act} {w : World}, seL P ops Q1 (l.take k) a w → (∀ a w, Q1 a w → wpListIn (fenceR ro) n P ops Q (l.drop k) a w) → wpListIn (fenceR ro) n P ops Q l a w
  | 0, l, a, w, h, h2 => by simpa using h2 a w h
  | k + 1, [], a, w, h, h2 => by simpa using h2 a w h
  | k + 1, o :: l, a, w, h, h2 => by
    simp only [List.take_succ_cons, List.drop_succ_cons] at h h2
    unfold seL at h
    unfold wpListIn
    split at h
    · rename_i hw; rw [if_pos hw]; exact se_wpIn ro n h fun a w h => wpListIn_split ro n k h h2
    · rename_i hw; rw [if_neg hw]; exact ⟨fun f _ => fenceR_fn ro f, wpListIn_split ro n k h h2⟩
/-- Slots that hold what they hold. -/
def Slots (a : Act) : List (Nat × Value) → Prop
  | [] => True
  | (d, v) :: l => a.tmps.getD d undef = v ∧ Slots a l
def slotFr : List (Nat × Value) → Fr
  | [] => []
  | (d, v) :: l => (d, AV.of v) :: slotFr l
theorem slots_den {r : Env} {a : Act} : ∀ {l : List (Nat × Value)}, Slots a l → FDen r (slotFr l) a
  | [], _ => fun k => by simp [slotFr, Fr.get, AV.den, Pc.den, CV.den]
  | (d, v) :: l, h => fun k => by
    simp only [slotFr, Fr.get]
    split
    · rename_i hk; have := Nat.eq_of_beq_eq_true hk; subst this
      rw [h.1]; exact AV.of_den r v
    · exact slots_den h.2 k
theorem good_slots {a : Act} {w : World} {N : Nat} {l : List (Nat × Value)} (h : Slots a l) (hN : a.tmps.size = N) (hd : a.defers = []) : Good w Gs.nil ⟨N, []⟩ (slotFr l) [] a w := ⟨Env.none, rel_none w, slots_den h, hN, hd⟩
theorem slot_of {_w0 : World} {_G : Gs} {r : Env} {f : Fr} {a : Act} (hf : FDen r f a) {d : Nat} {x : Value} (h : (f.get d).val = some x) : a.tmps.getD d undef = x := AV.val_den h (hf d)

/-- An element of the list, with its place. -/
abbrev Elt (l : List BOp) := { x : Nat × BOp // l[x.1]? = some x.2 }
def eltEnc {l : List BOp} (x : Elt l) : Array Value := #[.int .i64 (x.1.1 : Int), opV x.1.2]
/-- The places from i on, the last first. -/
def downTo (n i : Nat) : List Nat := ((List.range n).drop i).reverse
theorem downTo_top (n : Nat) : downTo n n = [] := by unfold downTo; rw [List.drop_eq_nil_of_le (by simp)]; rfl
theorem downTo_step {n i : Nat} (h : i < n) : downTo n i = downTo n (i + 1) ++ [i] := by
  unfold downTo
  rw [List.drop_eq_getElem_cons (by simpa using h)]
  simp
theorem downTo_length (n i : Nat) : (downTo n i).length = n - i := by simp [downTo]
/-- All have come, the last first. -/
def AllDown {l : List BOp} (xs : List (Elt l)) : Prop := xs.map (fun x => x.1.1) = downTo l.length 0
def KpTwo (cb bb : Nat) (W W' : World) : Prop := W'.heap[cb]? = W.heap[cb]? ∧ W'.heap[bb]? = W.heap[bb]?
theorem abides_below {β : Type} {B : Nat} {J : β → World → Prop} (h : AbidesFrom B J) {s : β} {W W' : World} (hs : J s W) (hb : Below W.heap.size W W') : J s W' :=
  h s W W' none hs ⟨hb.os, hb.tape, hb.output, hb.size, fun k hk _ => hb.block k hk⟩ (fun r e => by cases e)
theorem cells_op_blk {w W : World} {bb off k : Nat} {l : List BOp} {o : BOp} (h : OpsAt w w.heap.size (some ⟨bb, off, none⟩) l) (hW : W.heap[bb]? = w.heap[bb]?) (hk : l[k]? = some o) : CellsAt W Gs.nil bb (off + k * 5) (opC o) := by
  have := cells_op (G := Gs.nil) h (by simp) hk
  obtain ⟨h1, h2, h3⟩ := this
  refine ⟨?_, by simp, fun j u hj => ?_⟩
  · rcases Nat.lt_or_ge bb W.heap.size with h4 | h4
    · exact h4
    · rw [Array.getElem?_eq_none h4] at hW
      rw [Array.getElem?_eq_getElem h1] at hW; cases hW
  · have := h3 j u hj
    rw [Int.toNat_natCast] at this
    exact (World.cell?_of_block (w := w) (a := ⟨bb, off + k * 5 + j, none⟩) hW).trans this
/-- A piece of code walked from what some slots hold, in the world as it stands. -/
theorem sat_use {P : Program} {c : Code} {Q : Exit → Act → World → Prop} {a : Act} {w : World} {n : Nat} (N : Nat) (l : List (Nat × Value)) (K : Exit → Fr → Prop) (hs : Slots a l) (hN : a.tmps.size = N) (hd : a.defers = []) (h : vc none P w Gs.nil ⟨N, []⟩ c (slotFr l) [] fun e f _ => K e f)
    (hq : ∀ e f a' w', K e f → FDen Env.none (slotFr []) a' → (∀ d x, (f.get d).val = some x → a'.tmps.getD d undef = x) → Below w.heap.size w w' → a'.tmps.size = N → a'.defers = [] → Q e a' w') : c.wpIn Fence.wide n P Q a w := by
  refine wpIn_mono ((vc_sound (ro := none) c (slotFr l) [] (fun e f _ => K e f) h).out n a w (good_slots hs hN hd)) ?_
  rintro e a' w' ⟨f', S', hk, r, hR, hf, hN', hd'⟩
  exact hq e f' a' w' hk (slots_den (l := []) trivial) (fun d x hx => slot_of (_w0 := w) (_G := Gs.nil) hf hx) hR.toBelow hN' hd'
/-- The same for the first operations of a list. -/
theorem ops_use {P : Program} {ops : Array Oper} {ol : List Oper} {Q : Exit → Act → World → Prop} {a : Act} {w : World} {n : Nat} (N k : Nat) (l : List (Nat × Value)) (K : Fr → Prop) (hs : Slots a l) (hN : a.tmps.size = N) (hd : a.defers = []) (h : opsK P w Gs.nil ⟨N, []⟩ ops (ol.take k).length (ol.take k) (slotFr l) [] fun f _ => K f)
    (hq : ∀ f a' w', K f → (∀ d x, (f.get d).val = some x → a'.tmps.getD d undef = x) → Below w.heap.size w w' → a'.tmps.size = N → a'.defers = [] → wpListIn Fence.wide n P ops Q (ol.drop k) a' w') : wpListIn Fence.wide n P ops Q ol a w := by
  refine wpListIn_split none n k (Q1 := fun a' w' => wpListIn Fence.wide n P ops Q (ol.drop k) a' w') ?_ fun a w h => h
  refine opsK_sound _ _ _ _ _ h (fun f' S' a' w' hk ⟨r, hR, hf, hN', hd'⟩ => ?_) a w (good_slots hs hN hd)
  exact hq f' a' w' hk (fun d x hx => slot_of (_w0 := w) (_G := Gs.nil) hf hx) hR.toBelow hN' hd'
set_option maxRecDepth 100000 in
set_option maxHeartbeats 1000000 in
theorem backward_stops (l : List BOp) (bb off c cb : Nat) (tS : TypeId) (w : World) (h : OpsAt w w.heap.size (some ⟨bb, off, none⟩) l) (hlen : l.length ≤ 1000000)
    (hc : w.heap[cb]? = some (.cells #[.slice (some ⟨bb, off, none⟩) l.length c] tS (0, 0))) (hbb : bb < w.heap.size) (n : Nat) :
    SeqStopsK Fence.wide n Try.prog 75 #[.pointer (some ⟨cb, 0, none⟩)] (eltEnc (l := l)) (KpTwo cb bb) AllDown (fun _ => True) l.length w := by
  intro q J Jx W hB hJ hJx hY h0
  have hcb : cb < w.heap.size := by
    rcases Nat.lt_or_ge cb w.heap.size with h1 | h1
    · exact h1
    · rw [Array.getElem?_eq_none h1] at hc; cases hc
  have hcW : W.heap[cb]? = some (.cells #[.slice (some ⟨bb, off, none⟩) l.length c] tS (0, 0)) := (hB.block cb hcb).trans hc
  have hbW : W.heap[bb]? = w.heap[bb]? := hB.block bb hbb
  have cellAt : ∀ W' : World, W'.heap[cb]? = W.heap[cb]? → CellsAt W' Gs.nil cb 0 [.slice (some ⟨bb, off, none⟩) l.length c] := fun W' hW' => by
    have e := hW'.trans hcW
    refine cells_one ?_ (by simp) (by simp [World.cell?, e])
    rcases Nat.lt_or_ge cb W'.heap.size with h1 | h1
    · exact h1
    · rw [Array.getElem?_eq_none h1] at e; cases e
  refine callsIn_of_wp Try.func75 rfl trivial ?_
  simp only [Try.ntmps75, List.size_toArray, List.length_cons, List.length_nil, Nat.reduceAdd, Nat.reduceSub, Array.replicate_succ, Array.replicate_zero, List.push_toArray, List.append_toArray, List.nil_append, List.cons_append]
  refine wpIn_seq ?_
  refine sat_use 19 [(0, .func (.yield q) #[] #[]), (1, .pointer (some ⟨cb, 0, none⟩))] (fun e f => match e with | .normal => (f.get 0).val = some (.func (.yield q) #[] #[]) ∧ (f.get 1).val = some (.pointer (some ⟨cb, 0, none⟩)) ∧ (f.get 3).val = some (.int .i64 ((l.length : Int) - 1)) | _ => False) ⟨rfl, rfl, trivial⟩ rfl rfl ?_ ?_
  · conv => whnf
    refine ⟨_, cellAt W rfl, ?_⟩
    conv => whnf
    refine ⟨(l.length : Int) - 1, wr64 (by omega), ?_⟩
    conv => whnf
    exact ⟨rfl, rfl, rfl⟩
  · rintro e f a1 w1 hk - hsl hb1 hN1 hd1
    cases e <;> first | exact (hk : False).elim | skip
    have k0 := hsl 0 _ hk.1
    have k1 := hsl 1 _ hk.2.1
    have k3 := hsl 3 _ hk.2.2
    have hcbW : cb < W.heap.size := Nat.lt_of_lt_of_le hcb hB.size
    have hbbW : bb < W.heap.size := Nat.lt_of_lt_of_le hbb hB.size
    refine wpIn_block ?_
    refine wpIn_loop (fun a' w' => ∃ i : Nat, i ≤ l.length ∧ Slots a' [(0, .func (.yield q) #[] #[]), (1, .pointer (some ⟨cb, 0, none⟩)), (3, .int .i64 ((i : Int) - 1))] ∧ a'.tmps.size = 19 ∧ a'.defers = [] ∧ (∃ xs : List (Elt l), xs.map (fun x => x.1.1) = downTo l.length i ∧ J xs w') ∧ w'.heap[cb]? = W.heap[cb]? ∧ w'.heap[bb]? = W.heap[bb]?)
      (fun a' _ => (intOf (a'.tmps.getD 3 undef) + 1).toNat) ?_ ?_
    · exact ⟨l.length, Nat.le_refl _, ⟨k0, k1, k3, trivial⟩, hN1, hd1, ⟨[], by simp [downTo_top], abides_below hJ h0 hb1⟩, hb1.block cb hcbW, hb1.block bb hbbW⟩
    rintro a2 w2 ⟨i, hi, hs2, hN2, hd2, ⟨xs, hxs, hJ2⟩, hc2, hb2⟩
    have hlt2 : cb < w2.heap.size ∧ bb < w2.heap.size := by
      have e := hc2.trans hcW
      have e2 := hb2.trans hbW
      refine ⟨?_, ?_⟩
      · rcases Nat.lt_or_ge cb w2.heap.size with h1 | h1
        · exact h1
        · rw [Array.getElem?_eq_none h1] at e; cases e
      · rcases Nat.lt_or_ge bb w2.heap.size with h1 | h1
        · exact h1
        · rw [Array.getElem?_eq_none h1, Array.getElem?_eq_getElem hbb] at e2; cases e2
    refine wpIn_seq ?_
    refine sat_use 19 [(0, .func (.yield q) #[] #[]), (1, .pointer (some ⟨cb, 0, none⟩)), (3, .int .i64 ((i : Int) - 1))] (fun e f => match e with | .normal => 1 ≤ i ∧ (f.get 0).val = some (.func (.yield q) #[] #[]) ∧ (f.get 1).val = some (.pointer (some ⟨cb, 0, none⟩)) ∧ (f.get 3).val = some (.int .i64 ((i : Int) - 1)) | .exit 0 => i = 0 | _ => False) hs2 hN2 hd2 ?_ ?_
    · conv => whnf
      refine ⟨fun h => ?_, fun h => ?_⟩
      · have h' : (i : Int) - 1 ≥ 0 := of_decide_eq_true h
        exact ⟨by omega, rfl, rfl, rfl⟩
      · have h' : ¬ (i : Int) - 1 ≥ 0 := of_decide_eq_false h
        show i = 0
        omega
    rintro e f a3 w3 hk3 - hsl3 hb3 hN3 hd3
    have hJ3 := abides_below hJ hJ2 hb3
    cases e <;> first | exact (hk3 : False).elim | skip
    · obtain ⟨hi1, e0, e1, e3⟩ := hk3
      obtain ⟨j, rfl⟩ : ∃ j, i = j + 1 := ⟨i - 1, by omega⟩
      have hjl : j < l.length := by omega
      obtain ⟨o, ho⟩ : ∃ o, l[j]? = some o := ⟨_, List.getElem?_eq_getElem hjl⟩
      have s3 := hsl3 3 _ e3
      rw [show (((j + 1 : Nat) : Int) - 1) = (j : Int) by omega] at s3
      have hc3 : w3.heap[cb]? = W.heap[cb]? := (hb3.block cb hlt2.1).trans hc2
      have hb3' : w3.heap[bb]? = w.heap[bb]? := (hb3.block bb hlt2.2).trans (hb2.trans hbW)
      refine wpIn_seq ?_
      refine wpIn_block ?_
      refine wpIn_seq ?_
      refine wpIn_region_lit ?_
      refine ops_use 19 6 [(0, .func (.yield q) #[] #[]), (1, .pointer (some ⟨cb, 0, none⟩)), (3, .int .i64 (j : Int))] (fun f => (f.get 11).val = some (.func (.yield q) #[] #[]) ∧ (f.get 12).val = some (.int .i64 (j : Int)) ∧ (f.get 16).val = some (opV o) ∧ (f.get 0).val = some (.func (.yield q) #[] #[]) ∧ (f.get 1).val = some (.pointer (some ⟨cb, 0, none⟩)) ∧ (f.get 3).val = some (.int .i64 (j : Int))) ⟨hsl3 0 _ e0, hsl3 1 _ e1, s3, trivial⟩ hN3 hd3 ?_ ?_
      · conv => whnf
        refine ⟨_, cellAt w3 hc3, ?_⟩
        conv => whnf
        refine ⟨⟨by omega, by omega⟩, ?_⟩
        conv => whnf
        refine ⟨opC o, cells_op_blk h hb3' ho, rfl, ?_⟩
        conv => whnf
        exact ⟨rfl, rfl, rfl, rfl, rfl, rfl⟩
      rintro f4 a4 w4 ⟨g11, g12, g16, g0, g1, g3⟩ hsl4 hb4 hN4 hd4
      have hJ4 := abides_below hJ hJ3 hb4
      obtain ⟨fn, tm, as_, bd, hy, hround⟩ := hY xs ⟨(j, o), ho⟩ w4 hJ4 (by
        have := congrArg List.length hxs
        simp [downTo_length] at this
        omega)
      simp only [List.drop_succ_cons, List.drop_zero]
      have ev11 : a4.eval (.tmp 11) = .func (.yield q) #[] #[] := hsl4 11 _ g11
      have ev12 : a4.eval (.tmp 12) = .int .i64 (j : Int) := hsl4 12 _ g12
      have ev16 : a4.eval (.tmp 16) = opV o := hsl4 16 _ g16
      unfold wpListIn
      rw [if_pos (by rfl)]
      refine ⟨fun _ _ => trivial, ?_⟩
      have hex : ∀ oo : Oper, oo.op = .call ⟨.value (.tmp 11), #[.tmp 12, .tmp 16], #[3, 53]⟩ → ((oo.semAt none a4.eval).run Try.prog w4) = .ok (.round q fn tm as_ bd) w4 := fun oo hop => by
        rw [Oper.semAt_none]
        simp only [execOp, hop, resolve, Sem.run_bind, List.map_toArray, List.map_cons, List.map_nil, ev11, ev12, ev16, Deferred.ofValue, Sem.run_pure, Result.andThen_ok, invoke]
        exact hy
      rw [show Fence.wide.round = none from rfl, hex _ rfl]
      refine ⟨(fun h => by cases h), hround.mono ?_⟩
      have t0 := hsl4 0 _ g0
      have t1 := hsl4 1 _ g1
      have t3 := hsl4 3 _ g3
      have hput : ∀ (b : Bool), Slots (a4.put (some 17) (.bool b)) [(0, .func (.yield q) #[] #[]), (1, .pointer (some ⟨cb, 0, none⟩)), (3, .int .i64 (j : Int)), (17, .bool b)] := fun b => by
        have e : ∀ d, d ≠ 17 → (a4.put (some 17) (.bool b)).tmps.getD d undef = a4.tmps.getD d undef := fun d hd => by
          simp only [Act.put]; rw [Array.getD_eq_getD_getElem?, Array.getElem?_setIfInBounds, if_neg (Ne.symm hd), ← Array.getD_eq_getD_getElem?]
        refine ⟨(e 0 (by decide)).trans t0, (e 1 (by decide)).trans t1, (e 3 (by decide)).trans t3, ?_, trivial⟩
        simp only [Act.put]; rw [Array.getD_eq_getD_getElem?, Array.getElem?_setIfInBounds]; simp [hN4]
      rintro en w5 (⟨rfl, hJ5, hK5⟩ | ⟨rfl, hJx5⟩)
      · refine ops_use 19 1 _ (fun f => (f.get 18).val = some (.bool false) ∧ (f.get 0).val = some (.func (.yield q) #[] #[]) ∧ (f.get 1).val = some (.pointer (some ⟨cb, 0, none⟩)) ∧ (f.get 3).val = some (.int .i64 (j : Int))) (hput true) ((put_size a4 _ _).trans hN4) ((put_defers a4 _ _).trans hd4) ?_ ?_
        · conv => whnf
          exact ⟨rfl, rfl, rfl, rfl⟩
        rintro f6 a6 w6 ⟨q18, q0, q1, q3⟩ hsl6 hb6 hN6 hd6
        simp only [List.drop_succ_cons, List.drop_zero]
        unfold wpListIn
        refine wpIn_cond_split (t := false) (hsl6 18 _ q18) (fun h => by cases h) (fun _ => wpIn_skip ?_)
        refine sat_use 19 [(0, .func (.yield q) #[] #[]), (1, .pointer (some ⟨cb, 0, none⟩)), (3, .int .i64 (j : Int))] (fun e f => match e with | .normal => (f.get 0).val = some (.func (.yield q) #[] #[]) ∧ (f.get 1).val = some (.pointer (some ⟨cb, 0, none⟩)) ∧ (f.get 3).val = some (.int .i64 ((j : Int) - 1)) | _ => False) ⟨hsl6 0 _ q0, hsl6 1 _ q1, hsl6 3 _ q3, trivial⟩ hN6 hd6 ?_ ?_
        · conv => whnf
          refine ⟨(j : Int) - 1, wr64 (by omega), ?_⟩
          conv => whnf
          exact ⟨rfl, rfl, rfl⟩
        rintro e7 f7 a7 w7 hk7 - hsl7 hb7 hN7 hd7
        cases e7 <;> first | exact (hk7 : False).elim | skip
        have hlt4 : cb < w4.heap.size ∧ bb < w4.heap.size := ⟨Nat.lt_of_lt_of_le hlt2.1 (Nat.le_trans hb3.size hb4.size), Nat.lt_of_lt_of_le hlt2.2 (Nat.le_trans hb3.size hb4.size)⟩
        have hsz5 : ∀ k : Nat, k < w4.heap.size → w5.heap[k]? = w4.heap[k]? → k < w5.heap.size := fun k hk he => by
          rcases Nat.lt_or_ge k w5.heap.size with h1 | h1
          · exact h1
          · rw [Array.getElem?_eq_none h1, Array.getElem?_eq_getElem hk] at he; cases he
        have hc5 := hsz5 cb hlt4.1 hK5.1
        have hb5 := hsz5 bb hlt4.2 hK5.2
        refine ⟨⟨j, by omega, ⟨hsl7 0 _ hk7.1, hsl7 1 _ hk7.2.1, hsl7 3 _ hk7.2.2, trivial⟩, hN7, hd7, ⟨xs ++ [⟨(j, o), ho⟩], by rw [List.map_append, hxs, downTo_step hjl]; rfl, abides_below hJ (abides_below hJ hJ5 hb6) hb7⟩, ?_, ?_⟩, ?_⟩
        · exact (hb7.block cb (Nat.lt_of_lt_of_le hc5 hb6.size)).trans ((hb6.block cb hc5).trans (hK5.1.trans ((hb4.block cb (Nat.lt_of_lt_of_le hlt2.1 hb3.size)).trans hc3)))
        · exact (hb7.block bb (Nat.lt_of_lt_of_le hb5 hb6.size)).trans ((hb6.block bb hb5).trans (hK5.2.trans ((hb4.block bb (Nat.lt_of_lt_of_le hlt2.2 hb3.size)).trans ((hb3.block bb hlt2.2).trans hb2))))
        · have u1 := hsl7 3 _ hk7.2.2
          have u2 := hs2.2.2.1
          simp only [u1, u2, intOf]
          omega
      · refine ops_use 19 1 _ (fun f => (f.get 18).val = some (.bool true)) (hput false) ((put_size a4 _ _).trans hN4) ((put_defers a4 _ _).trans hd4) ?_ ?_
        · conv => whnf
          rfl
        rintro f6 a6 w6 q18 hsl6 hb6 hN6 hd6
        simp only [List.drop_succ_cons, List.drop_zero]
        unfold wpListIn
        refine wpIn_cond_split (t := true) (hsl6 18 _ q18) (fun _ => wpIn_ret ?_) (fun h => by cases h)
        exact ⟨hd6, _, results_none rfl _ _ _, ⟨_, rfl⟩, .inr ⟨_, trivial, abides_below hJx hJx5 hb6⟩⟩
    · rename_i id
      match id, hk3 with
      | 0, hk3 =>
        have hi0 : i = 0 := hk3
        subst hi0
        exact ⟨hd3, _, results_none rfl _ _ _, ⟨_, rfl⟩, .inl ⟨xs, hxs, hJ3⟩⟩
end Go.Proofs.Ytmjfgnnefcimiaa
namespace Go.Proofs.Ytmjfgnnefcimiaa
open Go.RowKit

section
variable {P : Program} {w0 : World} {G : Gs} {N : Nat} {c d : Code} {f : Fr} {S : List Ow} {Q : Exit → Act → World → Prop} {fn : Func} {R : Ending → World → Prop}
theorem atq_then {N : Nd} {id : Nat} (h : SatQ P w0 G N d f S Q) : AtQ w0 G N .normal f S (Exit.inBlock id (Exit.then (d.wpIn Fence.wide 10 P Q) Q)) := ⟨fun a w hg => h.out a w hg⟩
theorem atq_ret (h : resK P w0 G S f fn.results.toList fun v => Fin w0 G S v R) : AtQ w0 G ⟨N, []⟩ .ret f S (bodyPostM Fence.wide 10 P fn R) := by
  refine ⟨fun a w ⟨r, hR, hf, hN, hd⟩ => ?_⟩
  obtain ⟨v, u, hK, hdn, hrun⟩ := resK_sound h hR hf
  show LeavesInM _ _ _ _ _ _ a.defers _ _
  rw [show a.defers = [] from hd]
  exact ⟨u, hrun, hK.out r w u hR hdn⟩
/-- Behind a loop over a function: the mark is struck at the end. -/
theorem atq_ret_mark {D : Nat} (i : Nat) (hi : S[i]? = some (objOw D (.deferred (some [])))) (h : resK P w0 G (S.set i .gone) f fn.results.toList fun v => Fin w0 G (S.set i .gone) v R) : AtQ w0 G ⟨N, [{ target := .collected D, args := #[] }]⟩ .ret f S (bodyPostM Fence.wide 10 P fn R) := by
  refine ⟨fun a w ⟨r, hR, hf, hN, hd⟩ => ?_⟩
  obtain ⟨b, hb, ⟨rfl, hD⟩, _⟩ := hR.own i _ hi
  have hR2 : Rel w0 G (S.set i .gone) r (w.putObj b (.deferred none)) := hR.setBlock hb (grownBy_putObj' w b _) (by trivial) (hR.lt_of_blk hb)
  obtain ⟨v, u, hK, hdn, hrun⟩ := resK_sound h hR2 hf
  show LeavesInM _ _ _ _ _ _ a.defers _ _
  rw [show a.defers = [{ target := .collected b, args := #[] }] from hd]
  exact ⟨by simp, .inl ⟨b, _, rfl, run_takeDeferred hD, u, hrun, hK.out r _ u hR2 hdn⟩⟩
theorem calls_satq {fid : FuncId} (xs : List Value) (hf : P.funcs[fid]? = some fn) (hN : fn.ntmps = N) (hb : fn.body = some c) (hle : xs.length ≤ N) {w : World} {R : Ending → World → Prop}
    (h : SatQ P w Gs.nil ⟨N, []⟩ c (argFr (xs.map fun x => AV.of x) 0) [] (bodyPostM Fence.wide 10 P fn R)) : Calls P fid xs.toArray w R := by
  refine callsIn_wide.1 (callsIn_of_wp_marks (n := 10) hf hb trivial (h.out _ w ⟨Env.none, rel_none w, fun i => ?_, by simp; omega, rfl⟩))
  refine argFr_get (r := Env.none) (xs.map fun x => AV.of x) xs 0 (avdenL_of xs) (fun j u hj => ?_) i
  rw [Nat.zero_add, Array.getD_eq_getD_getElem?, Array.getElem?_append_left (by simp; rcases Nat.lt_or_ge j xs.length with h1 | h1; exact h1; rw [List.getElem?_eq_none h1] at hj; cases hj)]
  simp [hj]
end
set_option maxRecDepth 100000 in
theorem backward_box (A : Option Addr) (n c : Nat) (w : World) : Calls Try.prog 47 #[.slice A n c] w fun e w' => ∃ b, e = .returned (.func (.func 75) #[] #[.pointer (some ⟨b, 0, none⟩)]) ∧ w.heap.size ≤ b ∧ w'.heap[b]? = some (.cells #[.slice A n c] 30 (0, 0)) ∧ Below w.heap.size w w' := by
  refine calls_val [.slice A n c] Try.func47 Try.ntmps47 rfl (by simp) ?_
  conv => whnf
  refine ⟨fun r w' u hR hd => ?_⟩
  simp only [AV.den, Pc.den, CV.den, denL] at hd
  obtain ⟨us, rfl, u, l, rfl, ⟨b, hb, rfl⟩, rfl⟩ := hd
  obtain ⟨b', us, h1, h2, h3⟩ := hR.own 0 _ rfl
  rw [hb] at h1; injection h1 with h1; subst h1
  obtain rfl := denL_vals_inv (us := [.slice A n c]) h3
  refine ⟨b, rfl, ?_, h2, hR.toBelow⟩
  rcases Nat.lt_or_ge b w.heap.size with h | h
  · exact absurd ((hR.new 0 b hb).2 h) (by simp)
  · exact h
theorem call_backward {w0 : World} {G : Gs} {S : List Ow} {K : AV → List Ow → Prop} {A : Option Addr} {n c : Nat} (hK : K (.p (.c (.clo (.func 75) [.ref S.length 0]))) (S ++ [.cells 30 [.v (.slice A n c)]])) :
    CallS Try.prog w0 G 47 [.p (.c (.v (.slice A n c)))] S K := by
  refine ⟨by kernel_rfl, fun r w us hR hd => ?_⟩
  obtain ⟨u1, l1, rfl, d1, d2⟩ := hd
  obtain rfl : l1 = [] := d2
  obtain rfl := den_v d1
  refine (backward_box A n c w).mono fun e w' ⟨b, he, hb, hh, hB⟩ => ⟨_, _, _, r.set S.length (some b) none, he, ?_, hR.snoc (o := .cells 30 [.v (.slice A n c)]) hB (fun x hx => by injection hx with hx; subst hx; exact ⟨hb, (Array.getElem?_eq_some_iff.1 hh).1⟩) ⟨b, [.slice A n c], by simp [Env.set], hh, denL_vals [.slice A n c]⟩, hR.le_new _ _, hK⟩
  simp only [AV.den, Pc.den, CV.den, denL]
  exact ⟨_, rfl, _, _, rfl, ⟨b, by simp [Env.set], rfl⟩, rfl⟩
end Go.Proofs.Ytmjfgnnefcimiaa
