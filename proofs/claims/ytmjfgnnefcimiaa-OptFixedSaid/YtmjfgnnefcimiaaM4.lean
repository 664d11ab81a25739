/- Blocks, passes over them, calls that turn a map: over states that are known part by part. A range over a map of the call's own whose rounds delete, over states that are known part by part. The iterator of slices.Backward, as its contract. States seen from a later world; entries that only cells hold; frames that name only some entries. Code walked piece by piece with any post; a range over slices.Backward. A range over slices.Backward, in a function of the walk. Functions that hold a range over a function: how they begin and end. The iterator of slices.Backward as a call hands it back. Own entries renamed, doubled, dropped. Walks: one step of the program's validity check. Walks: one step of the program's validity check, of a well-formed operation. -/
import Derived.Maps.RangeWalk
import Derived.RangeFuncNested
import Derived.RangeFuncBound
import Derived.RangeFuncCalls
import Derived.RangeFuncLeaves
import Derived.Conc.MuLone
import Derived.Test.YtmjfgnnefcimiaaM3
namespace Go.Proofs.Ytmjfgnnefcimiaa
open Go.RowKit

/-- No address below B. -/
def Fresh (B : Nat) (A : Option Addr) : Prop := ∀ b off sp, A = some ⟨b, off, sp⟩ → B ≤ b
/-- What a pass does: it hands back the block with other operations. -/
def Pass (P : Program) (fid : FuncId) (F : Blk → List BOp) : Prop :=
  ∀ (b : Blk) (A1 A2 A3 : Option Addr) (c1 c2 c3 : Nat) (w : World), b.ok → SlAt w w.heap.size A1 (b.at_.map (.int .u32)) → SlAt w w.heap.size A2 (b.pages.map (.int .i64)) → OpsAt w w.heap.size A3 b.ops → b.ops.length ≤ c3 → c3 ≤ maxLen →
    Calls P fid #[.agg #[.slice A1 b.at_.length c1, .slice A2 b.pages.length c2, .slice A3 b.ops.length c3]] w fun e w' =>
      ∃ A c, e = .returned (.agg #[.slice A1 b.at_.length c1, .slice A2 b.pages.length c2, .slice A (F b).length c]) ∧ OpsAt w' w'.heap.size A (F b) ∧ (F b).length ≤ c ∧ c ≤ maxLen ∧ (Fresh w.heap.size A ∨ A = A3) ∧ Below w.heap.size w w'
theorem fresh_row {w : World} {base : Nat} {e : TypeId} {size n : Nat} {v : Value} {xs : List Value} {A : Option Addr} {c B : Nat} (h : w.ownsRow base e size v n xs) (hv : v = .slice A n c) (hb : ∀ g, v.ownBlock = some g → B ≤ g) : Fresh B A := by
  intro b off sp hA
  subst hA; subst hv
  exact hb b rfl
theorem cells_op {w : World} {G : Gs} {bb off k : Nat} {l : List BOp} {o : BOp} (h : OpsAt w w.heap.size (some ⟨bb, off, none⟩) l) (hG : bb ∉ G) (hk : l[k]? = some o) : CellsAt w G bb (off + (k : Int).toNat * 5) (opC o) := by
  have hlt : k < l.length := by
    rcases Nat.lt_or_ge k l.length with h1 | h1
    · exact h1
    · rw [List.getElem?_eq_none h1] at hk; cases hk
  obtain ⟨b', off', hA, hb, hc⟩ := SlAt.open_ h (by rw [flat_length]; omega)
  injection hA with hA; injection hA with e1 e2; subst e1; subst e2
  refine ⟨hb, hG, fun j u hj => ?_⟩
  have hj5 : j < 5 := by
    rcases Nat.lt_or_ge j 5 with h1 | h1
    · exact h1
    · rw [List.getElem?_eq_none (by rw [opC_length]; exact h1)] at hj; cases hj
  have := hc (k * 5 + j) u ((flat_at l k j o hk hj5).trans hj)
  simpa [Nat.add_assoc] using this
/-- A value that some fields of a block are. -/
theorem ops_addr {w : World} {A : Option Addr} {l : List BOp} (h : OpsAt w w.heap.size A l) (hl : 0 < l.length) : ∃ bb off, A = some ⟨bb, off, none⟩ := by
  obtain ⟨b, off, hA, _⟩ := SlAt.open_ h (by rw [flat_length]; omega)
  exact ⟨b, off, hA⟩
section
variable {R : Value → Option (DataW Unit × List MemPlace)} {cd : Int → DataW Unit} {n : Nat} {m m' : Int → Option Int}
variable {w0 : World} {G : Gs} {fid : FuncId} {S : List Ow} {K : AV → List Ow → Prop} {x : Value}
/-- A call that turns one map of the call's own. -/
theorem call_map (i : Nat) (hi : S[i]? = some (mapOw R cd n m)) (hok : fnOk Try.prog fid = true) (h : ∀ w b, IMap R cd w b n m → Calls Try.prog fid #[.map (some b)] w fun e w' => e = .returned x ∧ IMap R cd w' b n m' ∧ w.grownBy w' (some b)) (hK : K (AV.of x) (S.set i (mapOw R cd n m'))) :
    CallS Try.prog w0 G fid [.p (.c (.mp i))] S K := by
  refine ⟨hok, fun r w us hR hd => ?_⟩
  obtain ⟨u, l, rfl, h1, h2⟩ := hd
  obtain rfl : l = [] := h2
  obtain ⟨b, hb, rfl⟩ := den_mp h1
  obtain ⟨b', hb', hmap, _⟩ := hR.own i _ hi
  rw [hb] at hb'; injection hb' with hb'; subst hb'
  exact (h w b hmap).mono fun e w' ⟨he, hm', hg⟩ => ⟨_, x, _, r, he, AV.of_den r x, hR.setBlock hb hg (imap_holds hb hm') (hR.lt_of_blk hb), Env.le.refl r, hK⟩
end
theorem imap_le {R : Value → Option (DataW Unit × List MemPlace)} {cd : Int → DataW Unit} {n n' : Nat} {m m' : Int → Option Int} (hn : n ≤ n') (h : ∀ k, m k = m' k) : OLe (mapOw R cd n m) (mapOw R cd n' m') := fun _ _ hm => (hm.mono hn).is h
theorem calls_val {P : Program} {fid : FuncId} {fn : Func} {c : Code} {N : Nat} {w0 : World} (xs : List Value) (hf : P.funcs[fid]? = some fn) (hN : fn.ntmps = N) (hb : fn.body = some c) (hle : xs.length ≤ N) {R : Ending → World → Prop}
    (h : vc none P w0 Gs.nil ⟨N, []⟩ c (argFr (xs.map fun x => AV.of x) 0) [] (RetK P w0 Gs.nil fn.results.toList R)) : Calls P fid xs.toArray w0 R :=
  calls_vc hf hN hb (rel_none w0) (avdenL_of xs) hle h
theorem wr64 {n : Int} (h : -9223372036854775808 ≤ n ∧ n < 9223372036854775808) : IntKind.i64.wrap n = n := by
  have e : IntKind.i64.wrap n = wrap64 n := by
    show (if (true && decide (n % (2 ^ 64 : Int) ≥ (2 ^ 63 : Int))) then n % (2 ^ 64 : Int) - (2 ^ 64 : Int) else n % (2 ^ 64 : Int)) = _
    unfold wrap64
    by_cases h : n % (2 ^ 64 : Int) ≥ (2 ^ 63 : Int)
    · rw [decide_eq_true h]; simp only [Bool.and_self, if_true]; omega
    · rw [decide_eq_false h]; simp only [Bool.and_false, Bool.false_eq_true, if_false]; omega
  rw [e]; unfold wrap64; omega
theorem wr32 (n : Int) : IntKind.u32.wrap n = n % 4294967296 := by
  show (if (false && decide (n % (2 ^ 32 : Int) ≥ (2 ^ 31 : Int))) then n % (2 ^ 32 : Int) - (2 ^ 32 : Int) else n % (2 ^ 32 : Int)) = _
  simp
theorem num_succ (k : Nat) : one (.int .i64 ((k : Int) + 1)) = one (.int .i64 ((k + 1 : Nat) : Int)) := by simp
/-- The end of a pass. -/
theorem fin_block {w0 : World} {S : List Ow} {i n : Nat} {e : TypeId} {xs : List Value} {l : List BOp} {x1 x2 : Value} {R : Ending → World → Prop} (hi : S[i]? = some (.row e 5 n xs)) (hn : n = l.length) (hx : xs = l.flatMap opC)
    (h : ∀ w' A c, OpsAt w' w'.heap.size A l → l.length ≤ c → c ≤ maxLen → Fresh w0.heap.size A → Below w0.heap.size w0 w' → R (.returned (.agg #[x1, x2, .slice A l.length c])) w') : Fin w0 Gs.nil S (.p (.agg [.v x1, .v x2, .row i])) R := by
  refine ⟨fun r w u hR hd => ?_⟩
  subst hn; subst hx
  obtain ⟨us, rfl, hl⟩ := den_agg hd
  simp only [denL] at hl
  obtain ⟨u1, l1, rfl, d1, u2, l2, rfl, d2, u3, l3, rfl, d3, rfl⟩ := hl
  simp only [CV.den] at d1 d2 d3
  subst d1; subst d2
  obtain ⟨A, c, hu, hs, hc, hm⟩ := hR.rowAt hi d3
  subst hu
  refine h w A c hs hc hm (fun b off sp hA => ?_) hR.toBelow
  subst hA
  obtain ⟨v, hv, hob, _⟩ := hR.own i _ hi
  rw [d3] at hv; injection hv with hv; subst hv
  have hb : r.blk i = some b := by rw [← hob]; rfl
  rcases Nat.lt_or_ge b w0.heap.size with h1 | h1
  · have := (hR.new i b hb).2 h1; simp at this
  · exact h1
/-- A call that hands back a new row. -/
theorem call_row {P : Program} {w0 : World} {G : Gs} {fid : FuncId} {args : List AV} {S : List Ow} {K : AV → List Ow → Prop} {xs : List Value} {e : TypeId} {size n : Nat} {ys : List Value} (hx : avals args = some xs) (hok : fnOk P fid = true)
    (h : ∀ r w, Rel w0 G S r w → Calls P fid xs.toArray w fun en w' => ∃ v, en = .returned v ∧ w'.ownsRow w.heap.size e size v n ys ∧ Below w.heap.size w w') (hK : K (.p (.c (.row S.length))) (S ++ [.row e size n ys])) : CallS P w0 G fid args S K := by
  refine ⟨hok, fun r w us hR hd => ?_⟩
  rw [avals_den hx hd]
  refine (h r w hR).mono fun en w' ⟨v, he, hown, hb⟩ => ⟨.p (.c (.row S.length)), v, _, r.set S.length v.ownBlock (some v), he, by simp [AV.den, Pc.den, CV.den, Env.set], ?_, hR.le_new _ _, hK⟩
  refine hR.snoc hb (fun x hx => ?_) ⟨v, by simp [Env.set], by simp [Env.set], own_base hown (Nat.zero_le _)⟩
  rcases hown.2 with ⟨h1, _⟩ | ⟨g, cap, cur, h1, hg, hh, _⟩
  · rw [h1] at hx; cases hx
  · rw [h1] at hx; simp [Value.ownBlock] at hx; subst hx
    refine ⟨hg, ?_⟩
    rcases Nat.lt_or_ge g w'.heap.size with h2 | h2
    · exact h2
    · rw [Array.getElem?_eq_none h2] at hh; cases hh
end Go.Proofs.Ytmjfgnnefcimiaa
namespace Go.Proofs.Ytmjfgnnefcimiaa
open Go.RowKit
open Go.Maps (Keyed)

/-- The block that holds this very object. -/
abbrev objOw (b : Nat) (M : Obj) : Ow := .ext fun b' w => b' = b ∧ w.heap[b]? = some M
abbrev litK (k : Int) : Lit := .int .i64 k
section
variable (R : Value → Option (DataW Unit × List MemPlace)) (cd : Int → DataW Unit)
/-- Map block b and iterator block r, holding M and I: the loop is under way, the map reads as m; the keys still to come; how many. -/
structure Ranging (b r : Nat) (M I : Obj) (n : Nat) (m : Int → Option Int) (left : Int → Bool) (cnt : Nat) : Prop where
  out : ∃ (D : DataW Unit) (lf : Lit → Bool), (∀ w : World, w.heap[b]? = some M → w.heap[r]? = some I → w.ranges Try.prog 3 R b r n D lf cnt) ∧
    (∀ k, (litK k).wf = true → Maps.has D (litK k) = (m k).isSome ∧ ∀ z, D.atKey (litK k) z = ((m k).map cd).getD z) ∧ ∀ k, (litK k).wf = true → lf (litK k) = left k
  map : ∀ w : World, w.heap[b]? = some M → IMap R cd w b n m
end
section
variable {R : Value → Option (DataW Unit × List MemPlace)} {mk : Int → Value} {cd : Int → DataW Unit} {good : Int → Prop}
theorem ranges_local {w w' : World} {b r n : Nat} {D : DataW Unit} {lf : Lit → Bool} {cnt : Nat} (h : w.ranges Try.prog 3 R b r n D lf cnt) (h1 : w'.heap[b]? = w.heap[b]?) (h2 : w'.heap[r]? = w.heap[r]?) : w'.ranges Try.prog 3 R b r n D lf cnt := by
  obtain ⟨es, clock, since, seen, c0, hb, F, hs, hD, hr, rest⟩ := h
  exact ⟨es, clock, since, seen, c0, h1.trans hb, F, hs, hD, h2.trans hr, rest⟩
theorem owns_local {w w' : World} {b n : Nat} {D : DataW Unit} (h : w.ownsMap Try.prog 3 R b n D) (h1 : w'.heap[b]? = w.heap[b]?) : w'.ownsMap Try.prog 3 R b n D := by
  obtain ⟨es, clock, hh, rr⟩ := h
  exact ⟨es, clock, h1.trans hh, rr⟩
theorem obj_of {w : World} {b r n : Nat} {D : DataW Unit} {lf : Lit → Bool} {cnt : Nat} (h : w.ranges Try.prog 3 R b r n D lf cnt) : ∃ M I, w.heap[b]? = some M ∧ w.heap[r]? = some I := by
  obtain ⟨es, clock, since, seen, c0, hb, F, hs, hD, hr, rest⟩ := h
  exact ⟨_, _, hb, hr⟩
theorem same_i64 (a b : Int) : (litK a).sameKey (litK b) = (a == b) := by
  show decide (IntKind.i64 = IntKind.i64 ∧ a = b) = (a == b)
  by_cases h : a = b
  · subst h; simp
  · rw [decide_eq_false (fun e => h e.2), beq_eq_false_iff_ne.2 h]
theorem getObj_map {P : Program} {w : World} {r : Nat} {es : Array MapEntry} {c : Nat} (h : w.heap[r]? = some (.map es c)) : (getObj r).run P w = .ok (.map es c) w := by simp [getObj, Sem.run, h]
theorem getObj_iter {P : Program} {w : World} {r : Nat} {m : Option Nat} {a : Nat} {s : Array Nat} {c : Nat} (h : w.heap[r]? = some (.mapIter m a s c)) : (getObj r).run P w = .ok (.mapIter m a s c) w := by simp [getObj, Sem.run, h]
theorem entry_local {w w' : World} {b r n : Nat} {D : DataW Unit} {lf : Lit → Bool} {cnt : Nat} {v : Value} (h : w.ranges Try.prog 3 R b r n D lf cnt) (he : (Instr.entry (.pointer (some ⟨r, 0, none⟩))).run Try.prog w = .ok v w) (h1 : w'.heap[b]? = w.heap[b]?) (h2 : w'.heap[r]? = w.heap[r]?) :
    (Instr.entry (.pointer (some ⟨r, 0, none⟩))).run Try.prog w' = .ok v w' := by
  obtain ⟨es, clock, since, seen, c0, hb, F, hs, hD, hr, rest⟩ := h
  rw [hb] at h1; rw [hr] at h2
  simp only [Instr.entry, Sem.run_bind, getObj_iter hr, getObj_iter h2, Result.andThen_ok] at he ⊢
  revert he
  cases seen.back? with
  | none => intro he; simp at he
  | some stamp =>
    simp only [Sem.run_bind, getObj_map hb, getObj_map h1, Result.andThen_ok]
    by_cases hc : (clock != c0) = true
    · rw [if_pos hc]; intro he; simp at he
    · rw [if_neg hc]
      cases es.find? (·.born == stamp) with
      | none => intro he; simp at he
      | some x => intro he; simp at he ⊢; exact he
theorem two_data : (DataW.nil : DataW Unit) ≠ .map [] := nofun

variable {w0 : World} {G : Gs} {N : Nd} {o : Oper} {f : Fr} {S : List Ow} {K : Fr → List Ow → Prop} {n : Nat} {m : Int → Option Int}
theorem op_range {t e : TypeId} {mo : Operand} (hop : o.op = .range t mo) (ht : Try.prog.underlying t = some (.map 3 e)) (i : Nat) (hm : f.ev mo = .p (.c (.mp i))) (hi : S[i]? = some (mapOw R cd n m)) (hdst : dstOk N.n o.dst = true)
    (hk : ∀ b r M I left cnt, Ranging R cd b r M I n m left cnt → (∀ k, (litK k).wf = true → left k = (m k).isSome) → K (f.put o.dst (.p (.c (.ref S.length 0)))) (S.set i (objOw b M) ++ [objOw r I])) : OpS Try.prog w0 G N o f S K := by
  refine ⟨fun r a w hR hf hN hd next Q hK => ?_⟩
  have h1 := hf.ev mo
  rw [hm] at h1
  obtain ⟨b, hb, hu⟩ := den_mp h1
  obtain ⟨b', hb', ⟨D, hown, hD⟩, _⟩ := hR.own i _ hi
  rw [hb] at hb'; injection hb' with hb'; subst hb'
  obtain ⟨w', hrun, hrg, hg, hsz⟩ := hown.range law_int ht
  have hblt := (hR.new i b hb).1
  have hbsame : w'.heap[b]? = w.heap[b]? := hg.block b hblt (by simp)
  obtain ⟨M, I, hM, hI⟩ := obj_of hrg
  have hex : (execOp a.eval o).run Try.prog w = .ok (.value (.pointer (some ⟨w.heap.size, 0, none⟩))) w' := by
    simp [execOp, hop, hu, hrun]
  have hbel : Below w.heap.size w w' := ⟨hg.os, hg.tape, hg.output, hg.size, fun k hk => hg.block k hk (by simp)⟩
  have hR1 : Rel w0 G (S.set i (objOw b M)) r w := by
    refine hR.setBlock hb (World.grownBy.refl w _) ⟨b, hb, ⟨rfl, by rw [← hbsame]; exact hM⟩, fun w2 h2 => ⟨rfl, by rw [h2, ← hbsame]; exact hM⟩⟩ (hR.lt_of_blk hb)
  have hlen : (S.set i (objOw b M)).length = S.length := by simp
  have hle := hR1.le_new (some w.heap.size) none
  have hR2 := hR1.snoc hbel (b := some w.heap.size) (v := none) (o := objOw w.heap.size I) (fun x hx => by injection hx with hx; subst hx; omega) ⟨w.heap.size, by simp [Env.set], ⟨rfl, hI⟩, fun w2 h2 => ⟨rfl, h2.trans hI⟩⟩
  refine wp_of_value hex (hK _ _ _ _ (hk b w.heap.size M I _ _ ⟨⟨D, _, fun w2 e1 e2 => ranges_local hrg (e1.trans hM.symm) (e2.trans hI.symm), hD, fun k hk => rfl⟩, fun w2 e1 => ⟨D, owns_local hrg.owns (e1.trans hM.symm), hD⟩⟩ (fun k hk => (hD k hk).1)) ?_)
  refine good_value hR hf hN hd hdst ?_ hR2 hle
  rw [hlen]
  exact den_mk_ref (by simp [Env.set])
/-- The two objects as they lie. -/
theorem objs_at {r : Env} {w : World} (hR : Rel w0 G S r w) {i j b q : Nat} {M I : Obj} (hi : S[i]? = some (objOw b M)) (hj : S[j]? = some (objOw q I)) : r.blk i = some b ∧ r.blk j = some q ∧ w.heap[b]? = some M ∧ w.heap[q]? = some I := by
  obtain ⟨b', h1, ⟨rfl, h2⟩, _⟩ := hR.own i _ hi
  obtain ⟨q', h3, ⟨rfl, h4⟩, _⟩ := hR.own j _ hj
  exact ⟨h1, h3, h2, h4⟩
theorem op_next {it : Operand} (hop : o.op = .next it false) (E : Elems R mk cd good) (i j b q : Nat) (M I : Obj) (left : Int → Bool) (cnt : Nat) (hit : f.ev it = .p (.c (.ref j 0))) (hi : S[i]? = some (objOw b M)) (hj : S[j]? = some (objOw q I)) (hrg : Ranging R cd b q M I n m left cnt) (hdst : dstOk N.n o.dst = true)
    (hk0 : (∀ k, (litK k).wf = true → left k = false) → K (f.put o.dst (.tup [.c (.v (.bool false))])) S)
    (hk1 : ∀ x c I' cnt', (litK x).wf = true → left x = true → m x = some c → cnt' < cnt → Ranging R cd b q M I' n m (fun k => left k && !(k == x)) cnt' →
      (∀ w : World, w.heap[b]? = some M → w.heap[q]? = some I' → (Instr.entry (.pointer (some ⟨q, 0, none⟩))).run Try.prog w = .ok (.tuple #[.int .i64 x, mk c]) w) →
      K (f.put o.dst (.tup [.c (.v (.bool true)), .c (.v (.int .i64 x)), .c (.v (mk c))])) (S.set j (objOw q I'))) (_hone : ∀ c, pcOf (mk c) = .c (.v (mk c))) : OpS Try.prog w0 G N o f S K := by
  refine ⟨fun r a w hR hf hN hd next Q hK => ?_⟩
  have h1 := hf.ev it
  rw [hit] at h1
  obtain ⟨hb, hq, hM, hI⟩ := objs_at hR hi hj
  obtain ⟨q', hq', hu⟩ := den_ref h1
  rw [hq] at hq'; injection hq' with hq'; subst hq'
  obtain ⟨⟨D, lf, hr, hD, hlf⟩, hmap⟩ := hrg
  rcases (hr w hM hI).next law_int o.type with ⟨_, hno, hrun⟩ | ⟨key, v, kl, y, w', cnt', hkey, hleft, hRv, hat, hrun, hrg', hlt, hg, hsz, hent⟩
  · have hex : (execOp a.eval o).run Try.prog w = .ok (.value (.tuple #[.bool false])) w := by simp [execOp, hop, hu, hrun]
    exact wp_of_value hex (hK _ _ _ _ (hk0 fun k hk => by rw [← hlf k hk]; exact hno _) (good_value hR hf hN hd hdst ⟨_, rfl, _, _, rfl, by simp [Pc.den, CV.den], rfl⟩ hR (Env.le.refl r)))
  · obtain ⟨x, rfl, rfl, hwf⟩ := Maps.keyOf_int_inv Try.underlying3 hkey
    have hDx := (hD x hwf).2
    have hsome : ∃ c, m x = some c := by
      cases hmx : m x with
      | some c => exact ⟨c, rfl⟩
      | none =>
        have e1 := (hDx .nil).symm.trans (hat .nil)
        have e2 := (hDx (.map [])).symm.trans (hat (.map []))
        rw [hmx] at e1 e2
        exact absurd (e1.trans e2.symm) two_data
    obtain ⟨c, hc⟩ := hsome
    have hy : y.1 = cd c := by rw [← hat .nil]; have := hDx .nil; rw [hc] at this; exact this
    have hv : v = mk c := E.from_ v c y.2 (by rw [hRv, ← hy])
    subst hv
    have hbq : b ≠ q := fun e => by
      have := hR.inj i j b hb (by rw [e]; exact hq)
      subst this
      rw [hi] at hj; injection hj with hj
      have h2 := (hr w hM hI).ne
      exact h2 e.symm
    have hMs : w'.heap[b]? = some M := (hg.block b (hR.new i b hb).1 (fun e => hbq (Option.some.inj e))).trans hM
    obtain ⟨M', I', hM', hI'⟩ := obj_of hrg'
    rw [hMs] at hM'; injection hM' with hM'; subst hM'
    have hex : (execOp a.eval o).run Try.prog w = .ok (.value (.tuple #[.bool true, .int .i64 x, mk c])) w' := by simp [execOp, hop, hu, hrun]
    refine wp_of_value hex (hK _ _ _ _ (hk1 x c I' cnt' hwf (by rw [← hlf x hwf]; exact hleft) hc hlt ⟨⟨D, _, fun w2 e1 e2 => ranges_local hrg' (e1.trans hMs.symm) (e2.trans hI'.symm), hD, fun k hk => ?_⟩, hmap⟩ (fun w2 e1 e2 => ?_)) ?_)
    · rw [hlf k hk]
      rw [same_i64]
    · exact entry_local hrg' hent (e1.trans hMs.symm) (e2.trans hI'.symm)
    · refine good_value hR hf hN hd hdst ⟨_, rfl, _, _, rfl, by simp [Pc.den, CV.den], _, _, rfl, by simp [Pc.den, CV.den], _, _, rfl, by simp [Pc.den, CV.den], rfl⟩ (hR.setBlock hq hg ⟨q, hq, ⟨rfl, hI'⟩, fun w2 h2 => ⟨rfl, h2.trans hI'⟩⟩ (hR.lt_of_blk hq)) (Env.le.refl r)
theorem op_entry {it : Operand} (hop : o.op = .entry it) (i j b q : Nat) (M I : Obj) (x : Int) (v : Value) (hit : f.ev it = .p (.c (.ref j 0))) (hi : S[i]? = some (objOw b M)) (hj : S[j]? = some (objOw q I)) (hdst : dstOk N.n o.dst = true)
    (hent : ∀ w : World, w.heap[b]? = some M → w.heap[q]? = some I → (Instr.entry (.pointer (some ⟨q, 0, none⟩))).run Try.prog w = .ok (.tuple #[.int .i64 x, v]) w)
    (hk : K (f.put o.dst (.tup [.c (.v (.int .i64 x)), .c (.v v)])) S) : OpS Try.prog w0 G N o f S K := by
  refine ⟨fun r a w hR hf hN hd next Q hK => ?_⟩
  have h1 := hf.ev it
  rw [hit] at h1
  obtain ⟨hb, hq, hM, hI⟩ := objs_at hR hi hj
  obtain ⟨q', hq', hu⟩ := den_ref h1
  rw [hq] at hq'; injection hq' with hq'; subst hq'
  have hex : (execOp a.eval o).run Try.prog w = .ok (.value (.tuple #[.int .i64 x, v])) w := by simp [execOp, hop, hu, hent w hM hI]
  exact wp_of_value hex (hK _ _ _ _ hk (good_value hR hf hN hd hdst ⟨_, rfl, _, _, rfl, by simp [Pc.den, CV.den], _, _, rfl, by simp [Pc.den, CV.den], rfl⟩ hR (Env.le.refl r)))
theorem op_delete_in {t e : TypeId} {mo x : Operand} (hop : o.op = .call ⟨.builtin .delete, #[mo, x], #[t, 3]⟩) (ht : Try.prog.underlying t = some (.map 3 e)) (i j b q : Nat) (M I : Obj) (left : Int → Bool) (cnt : Nat) (k : Int)
    (hm : f.ev mo = .p (.c (.mp i))) (hi : S[i]? = some (objOw b M)) (hj : S[j]? = some (objOw q I)) (hrg : Ranging R cd b q M I n m left cnt) (hx : f.ev x = one (.int .i64 k)) (hkw : (litK k).wf = true) (hdst : dstOk N.n o.dst = true)
    (hk : ∀ M' cnt', cnt' ≤ cnt → Ranging R cd b q M' I n (mdel m k) (fun z => left z && !(z == k)) cnt' → K (f.put o.dst (.p (.c .any))) (S.set i (objOw b M'))) : OpS Try.prog w0 G N o f S K := by
  refine ⟨fun r a w hR hf hN hd next Q hK => ?_⟩
  have h1 := hf.ev mo
  have h2 := hf.ev x
  rw [hm] at h1; rw [hx] at h2
  obtain ⟨hb, hq, hM, hI⟩ := objs_at hR hi hj
  obtain ⟨b', hb', hu⟩ := den_mp h1
  rw [hb] at hb'; injection hb' with hb'; subst hb'
  obtain ⟨⟨D, lf, hr, hD, hlf⟩, hmap⟩ := hrg
  obtain ⟨w', cnt', hrun, hrg', hle, hturn⟩ := (hr w hM hI).drop law_int ht (key_int hkw) o.type
  have hg := hturn.grown
  have hbq : b ≠ q := fun e => (hr w hM hI).ne e.symm
  have hIs : w'.heap[q]? = some I := (hg.block q (hR.new j q hq).1 (fun e => hbq (Option.some.inj e).symm)).trans hI
  obtain ⟨M', I', hM', hI'⟩ := obj_of hrg'
  rw [hIs] at hI'; injection hI' with hI'; subst hI'
  have hD' : ∀ z, (litK z).wf = true → Maps.has (D.del (litK k)) (litK z) = (mdel m k z).isSome ∧ ∀ y, (D.del (litK k)).atKey (litK z) y = ((mdel m k z).map cd).getD y := by
    intro z hz
    by_cases hzk : z = k
    · subst hzk
      exact ⟨by rw [Maps.has_del_same]; simp [mdel], fun y => by rw [Maps.atKey_del_same]; simp [mdel]⟩
    · exact ⟨by rw [Maps.has_del_other (lit_ne hzk)]; simp [mdel, hzk, (hD z hz).1], fun y => by rw [Maps.atKey_del_other (lit_ne hzk)]; simp [mdel, hzk, (hD z hz).2 y]⟩
  have hex : (execOp a.eval o).run Try.prog w = .ok (.value (.tuple #[])) w' := by
    simp [execOp, hop, resolve, invoke, builtin, hu, den_v h2, hrun]
  refine wp_of_value hex (hK _ _ _ _ (hk M' cnt' hle ⟨⟨_, _, fun w2 e1 e2 => ranges_local hrg' (e1.trans hM'.symm) (e2.trans hIs.symm), hD', fun z hz => ?_⟩, fun w2 e1 => ⟨_, owns_local hrg'.owns (e1.trans hM'.symm), hD'⟩⟩) ?_)
  · rw [hlf z hz]
    rw [same_i64]
  · exact good_value hR hf hN hd hdst (by simp [AV.den, Pc.den, CV.den]) (hR.setBlock hb hg ⟨b, hb, ⟨rfl, hM'⟩, fun w2 h2 => ⟨rfl, h2.trans hM'⟩⟩ (hR.lt_of_blk hb)) (Env.le.refl r)
/-- The map as it reads. -/
theorem obj_le {b q : Nat} {M I : Obj} {left : Int → Bool} {cnt n' : Nat} {m' : Int → Option Int} (h : Ranging R cd b q M I n m left cnt) (hn : n ≤ n') (hm : ∀ k, m k = m' k) : OLe (objOw b M) (mapOw R cd n' m') := fun b' w ⟨hb, hM⟩ => by
  subst hb
  exact ((h.map w hM).mono hn).is hm
end
theorem IMap.is_wf {R : Value → Option (DataW Unit × List MemPlace)} {cd : Int → DataW Unit} {w : World} {b n : Nat} {f f' : Int → Option Int} (h : IMap R cd w b n f) (hf : ∀ k, (litK k).wf = true → f k = f' k) : IMap R cd w b n f' := by
  obtain ⟨D, h1, h2⟩ := h
  exact ⟨D, h1, fun k hk => by rw [← hf k hk]; exact h2 k hk⟩
theorem Ranging.is {R : Value → Option (DataW Unit × List MemPlace)} {cd : Int → DataW Unit} {b r : Nat} {M I : Obj} {n : Nat} {m m' : Int → Option Int} {left : Int → Bool} {cnt : Nat} (h : Ranging R cd b r M I n m left cnt) (hm : ∀ k, (litK k).wf = true → m k = m' k) : Ranging R cd b r M I n m' left cnt := by
  obtain ⟨⟨D, lf, h1, h2, h3⟩, h4⟩ := h
  exact ⟨⟨D, lf, h1, fun k hk => by rw [← hm k hk]; exact h2 k hk, h3⟩, fun w hw => (h4 w hw).is_wf hm⟩
theorem obj_le_wf {R : Value → Option (DataW Unit × List MemPlace)} {cd : Int → DataW Unit} {n : Nat} {m : Int → Option Int} {b q : Nat} {M I : Obj} {left : Int → Bool} {cnt n' : Nat} {m' : Int → Option Int} (h : Ranging R cd b q M I n m left cnt) (hn : n ≤ n') (hm : ∀ k, (litK k).wf = true → m k = m' k) : OLe (objOw b M) (mapOw R cd n' m') := fun b' w ⟨hb, hM⟩ => by
  subst hb
  exact ((h.map w hM).mono hn).is_wf hm
/-- A loop that strikes the entries that keep does not keep, under way. -/
def filtF (m : Int → Option Int) (left : Int → Bool) (keep : Int → Bool) : Int → Option Int := fun k => if left k then m k else (m k).filter keep
structure FiltSt (b q n : Nat) (m : Int → Option Int) (keep : Int → Bool) where
  M : Obj
  I : Obj
  left : Int → Bool
  cnt : Nat
  h : Ranging i64R i64D b q M I n (filtF m left keep) left cnt
theorem filt_start {m : Int → Option Int} {left : Int → Bool} (keep : Int → Bool) {k : Int} (h : left k = (m k).isSome) : m k = filtF m left keep k := by
  unfold filtF
  cases hm : m k with
  | none => simp
  | some x => rw [h, hm]; simp
theorem filt_end {m : Int → Option Int} {left : Int → Bool} {keep : Int → Bool} {k : Int} (h : left k = false) : filtF m left keep k = (m k).filter keep := by unfold filtF; rw [h]; simp
theorem filt_keep {m : Int → Option Int} {left : Int → Bool} {keep : Int → Bool} {x c : Int} (hc : filtF m left keep x = some c) (hl : left x = true) (hk : keep c = true) (k : Int) : filtF m left keep k = filtF m (fun z => left z && !(z == x)) keep k := by
  unfold filtF at *
  by_cases hkx : k = x
  · subst hkx
    have hc' : m k = some c := by simpa [hl] using hc
    simp [hl, hc', hk, Option.filter]
  · simp [hkx]
theorem filt_drop {m : Int → Option Int} {left : Int → Bool} {keep : Int → Bool} {x c : Int} (hc : filtF m left keep x = some c) (hl : left x = true) (hk : keep c = false) (k : Int) : mdel (filtF m left keep) x k = filtF m (fun z => (left z && !(z == x)) && !(z == x)) keep k := by
  unfold mdel
  unfold filtF at *
  by_cases hkx : k = x
  · subst hkx
    have hc' : m k = some c := by simpa [hl] using hc
    simp [hc', hk, Option.filter]
  · simp [hkx]
theorem filt_mid {m : Int → Option Int} {left : Int → Bool} {keep : Int → Bool} {x c : Int} (hm : ∀ k y, m k = some y → mid y) (hc : filtF m left keep x = some c) : mid c := by
  unfold filtF at hc
  split at hc
  · exact hm x c hc
  · obtain ⟨h1, _⟩ := Option.filter_eq_some_iff.1 hc; exact hm x c h1
theorem op_next_i64 {w0 : World} {G : Gs} {N : Nd} {o : Oper} {f : Fr} {S : List Ow} {K : Fr → List Ow → Prop} {n : Nat} {m : Int → Option Int} {it : Operand} (hop : o.op = .next it false) (i j b q : Nat) (M I : Obj) (left : Int → Bool) (cnt : Nat) (hit : f.ev it = .p (.c (.ref j 0))) (hi : S[i]? = some (objOw b M)) (hj : S[j]? = some (objOw q I)) (hrg : Ranging i64R i64D b q M I n m left cnt) (hdst : dstOk N.n o.dst = true)
    (hk0 : (∀ k, (litK k).wf = true → left k = false) → K (f.put o.dst (.tup [.c (.v (.bool false))])) S)
    (hk1 : ∀ x c I' cnt', (litK x).wf = true → left x = true → m x = some c → cnt' < cnt → Ranging i64R i64D b q M I' n m (fun k => left k && !(k == x)) cnt' →
      (∀ w : World, w.heap[b]? = some M → w.heap[q]? = some I' → (Instr.entry (.pointer (some ⟨q, 0, none⟩))).run Try.prog w = .ok (.tuple #[.int .i64 x, .int .i64 c]) w) →
      K (f.put o.dst (.tup [.c (.v (.bool true)), .c (.v (.int .i64 x)), .c (.v (.int .i64 c))])) (S.set j (objOw q I'))) : OpS Try.prog w0 G N o f S K :=
  op_next hop i64Elems i j b q M I left cnt hit hi hj hrg hdst hk0 hk1 fun _ => rfl
end Go.Proofs.Ytmjfgnnefcimiaa
namespace Go.Proofs.Ytmjfgnnefcimiaa
open Go.RowKit

theorem wpListIn_split {P : Program} {ops : Array Oper} {Q : Exit → Act → World → Prop} {Q1 : Act → World → Prop} (ro : Option Nat) (n : Nat) : ∀ (k : Nat) {l : List Oper} {a : Act} {w : World}, seL P ops Q1 (l.take k) a w → (∀ a w, Q1 a w → wpListIn (fenceR ro) n P ops Q (l.drop k) a w) → wpListIn (fenceR ro) n P ops Q l a w
  | 0, l, a, w, h, h2 => by simpa using h2 a w h
  | k + 1, [], a, w, h, h2 => by simpa using h2 a w h
  | k + 1, o :: l, a, w, h, h2 => by
    simp only [List.take_succ_cons, List.drop_succ_cons] at h h2
    unfold seL at h
    unfold wpListIn
    split at h
    · rename_i hw; rw [if_pos hw]; exact se_wpIn ro n h fun a w h => wpListIn_split ro n k h h2
    · rename_i hw; rw [if_neg hw]; exact ⟨fun f _ => fenceR_fn ro f, wpListIn_split ro n k h h2⟩
/-- Slots that hold what they hold. -/
def Slots (a : Act) : List (Nat × Value) → Prop
  | [] => True
  | (d, v) :: l => a.tmps.getD d undef = v ∧ Slots a l
def slotFr : List (Nat × Value) → Fr
  | [] => []
  | (d, v) :: l => (d, AV.of v) :: slotFr l
theorem slots_den {r : Env} {a : Act} : ∀ {l : List (Nat × Value)}, Slots a l → FDen r (slotFr l) a
  | [], _ => fun k => by simp [slotFr, Fr.get, AV.den, Pc.den, CV.den]
  | (d, v) :: l, h => fun k => by
    simp only [slotFr, Fr.get]
    split
    · rename_i hk; have := Nat.eq_of_beq_eq_true hk; subst this
      rw [h.1]; exact AV.of_den r v
    · exact slots_den h.2 k
theorem good_slots {a : Act} {w : World} {N : Nat} {l : List (Nat × Value)} (h : Slots a l) (hN : a.tmps.size = N) (hd : a.defers = []) : Good w Gs.nil ⟨N, []⟩ (slotFr l) [] a w := ⟨Env.none, rel_none w, slots_den h, hN, hd⟩
theorem slot_of {_w0 : World} {_G : Gs} {r : Env} {f : Fr} {a : Act} (hf : FDen r f a) {d : Nat} {x : Value} (h : (f.get d).val = some x) : a.tmps.getD d undef = x := AV.val_den h (hf d)

/-- An element of the list, with its place. -/
abbrev Elt (l : List BOp) := { x : Nat × BOp // l[x.1]? = some x.2 }
def eltEnc {l : List BOp} (x : Elt l) : Array Value := #[.int .i64 (x.1.1 : Int), opV x.1.2]
/-- The places from i on, the last first. -/
def downTo (n i : Nat) : List Nat := ((List.range n).drop i).reverse
theorem downTo_top (n : Nat) : downTo n n = [] := by unfold downTo; rw [List.drop_eq_nil_of_le (by simp)]; rfl
theorem downTo_step {n i : Nat} (h : i < n) : downTo n i = downTo n (i + 1) ++ [i] := by
  unfold downTo
  rw [List.drop_eq_getElem_cons (by simpa using h)]
  simp
theorem downTo_length (n i : Nat) : (downTo n i).length = n - i := by simp [downTo]
/-- All have come, the last first. -/
def AllDown {l : List BOp} (xs : List (Elt l)) : Prop := xs.map (fun x => x.1.1) = downTo l.length 0
def KpTwo (cb bb : Nat) (W W' : World) : Prop := W'.heap[cb]? = W.heap[cb]? ∧ W'.heap[bb]? = W.heap[bb]?
theorem abides_below {β : Type} {B : Nat} {J : β → World → Prop} (h : AbidesFrom B J) {s : β} {W W' : World} (hs : J s W) (hb : Below W.heap.size W W') : J s W' :=
  h s W W' none hs ⟨hb.os, hb.tape, hb.output, hb.size, fun k hk _ => hb.block k hk⟩ (fun r e => by cases e)
theorem cells_op_blk {w W : World} {bb off k : Nat} {l : List BOp} {o : BOp} (h : OpsAt w w.heap.size (some ⟨bb, off, none⟩) l) (hW : W.heap[bb]? = w.heap[bb]?) (hk : l[k]? = some o) : CellsAt W Gs.nil bb (off + k * 5) (opC o) := by
  have := cells_op (G := Gs.nil) h (by simp) hk
  obtain ⟨h1, h2, h3⟩ := this
  refine ⟨?_, by simp, fun j u hj => ?_⟩
  · rcases Nat.lt_or_ge bb W.heap.size with h4 | h4
    · exact h4
    · rw [Array.getElem?_eq_none h4] at hW
      rw [Array.getElem?_eq_getElem h1] at hW; cases hW
  · have := h3 j u hj
    rw [Int.toNat_natCast] at this
    exact (World.cell?_of_block (w := w) (a := ⟨bb, off + k * 5 + j, none⟩) hW).trans this
/-- A piece of code walked from what some slots hold, in the world as it stands. -/
theorem sat_use {P : Program} {c : Code} {Q : Exit → Act → World → Prop} {a : Act} {w : World} {n : Nat} (N : Nat) (l : List (Nat × Value)) (K : Exit → Fr → Prop) (hs : Slots a l) (hN : a.tmps.size = N) (hd : a.defers = []) (h : vc none P w Gs.nil ⟨N, []⟩ c (slotFr l) [] fun e f _ => K e f)
    (hq : ∀ e f a' w', K e f → FDen Env.none (slotFr []) a' → (∀ d x, (f.get d).val = some x → a'.tmps.getD d undef = x) → Below w.heap.size w w' → a'.tmps.size = N → a'.defers = [] → Q e a' w') : c.wpIn Fence.wide n P Q a w := by
  refine wpIn_mono ((vc_sound (ro := none) c (slotFr l) [] (fun e f _ => K e f) h).out n a w (good_slots hs hN hd)) ?_
  rintro e a' w' ⟨f', S', hk, r, hR, hf, hN', hd'⟩
  exact hq e f' a' w' hk (slots_den (l := []) trivial) (fun d x hx => slot_of (_w0 := w) (_G := Gs.nil) hf hx) hR.toBelow hN' hd'
/-- The same for the first operations of a list. -/
theorem ops_use {P : Program} {ops : Array Oper} {ol : List Oper} {Q : Exit → Act → World → Prop} {a : Act} {w : World} {n : Nat} (N k : Nat) (l : List (Nat × Value)) (K : Fr → Prop) (hs : Slots a l) (hN : a.tmps.size = N) (hd : a.defers = []) (h : opsK P w Gs.nil ⟨N, []⟩ ops (ol.take k).length (ol.take k) (slotFr l) [] fun f _ => K f)
    (hq : ∀ f a' w', K f → (∀ d x, (f.get d).val = some x → a'.tmps.getD d undef = x) → Below w.heap.size w w' → a'.tmps.size = N → a'.defers = [] → wpListIn Fence.wide n P ops Q (ol.drop k) a' w') : wpListIn Fence.wide n P ops Q ol a w := by
  refine wpListIn_split none n k (Q1 := fun a' w' => wpListIn Fence.wide n P ops Q (ol.drop k) a' w') ?_ fun a w h => h
  refine opsK_sound _ _ _ _ _ h (fun f' S' a' w' hk ⟨r, hR, hf, hN', hd'⟩ => ?_) a w (good_slots hs hN hd)
  exact hq f' a' w' hk (fun d x hx => slot_of (_w0 := w) (_G := Gs.nil) hf hx) hR.toBelow hN' hd'
set_option maxRecDepth 100000 in
set_option maxHeartbeats 1000000 in
theorem backward_stops (l : List BOp) (bb off c cb : Nat) (tS : TypeId) (w : World) (h : OpsAt w w.heap.size (some ⟨bb, off, none⟩) l) (hlen : l.length ≤ 1000000)
    (hc : w.heap[cb]? = some (.cells #[.slice (some ⟨bb, off, none⟩) l.length c] tS (0, 0))) (hbb : bb < w.heap.size) (n : Nat) :
    SeqStopsK Fence.wide n Try.prog 75 #[.pointer (some ⟨cb, 0, none⟩)] (eltEnc (l := l)) (KpTwo cb bb) AllDown (fun _ => True) l.length w := by
  intro q J Jx W hB hJ hJx hY h0
  have hcb : cb < w.heap.size := by
    rcases Nat.lt_or_ge cb w.heap.size with h1 | h1
    · exact h1
    · rw [Array.getElem?_eq_none h1] at hc; cases hc
  have hcW : W.heap[cb]? = some (.cells #[.slice (some ⟨bb, off, none⟩) l.length c] tS (0, 0)) := (hB.block cb hcb).trans hc
  have hbW : W.heap[bb]? = w.heap[bb]? := hB.block bb hbb
  have cellAt : ∀ W' : World, W'.heap[cb]? = W.heap[cb]? → CellsAt W' Gs.nil cb 0 [.slice (some ⟨bb, off, none⟩) l.length c] := fun W' hW' => by
    have e := hW'.trans hcW
    refine cells_one ?_ (by simp) (by simp [World.cell?, e])
    rcases Nat.lt_or_ge cb W'.heap.size with h1 | h1
    · exact h1
    · rw [Array.getElem?_eq_none h1] at e; cases e
  refine callsIn_of_wp Try.func75 rfl trivial ?_
  simp only [Try.ntmps75, List.size_toArray, List.length_cons, List.length_nil, Nat.reduceAdd, Nat.reduceSub, Array.replicate_succ, Array.replicate_zero, List.push_toArray, List.append_toArray, List.nil_append, List.cons_append]
  refine wpIn_seq ?_
  refine sat_use 19 [(0, .func (.yield q) #[] #[]), (1, .pointer (some ⟨cb, 0, none⟩))] (fun e f => match e with | .normal => (f.get 0).val = some (.func (.yield q) #[] #[]) ∧ (f.get 1).val = some (.pointer (some ⟨cb, 0, none⟩)) ∧ (f.get 3).val = some (.int .i64 ((l.length : Int) - 1)) | _ => False) ⟨rfl, rfl, trivial⟩ rfl rfl ?_ ?_
  · conv => whnf
    refine ⟨_, cellAt W rfl, ?_⟩
    conv => whnf
    refine ⟨(l.length : Int) - 1, wr64 (by omega), ?_⟩
    conv => whnf
    exact ⟨rfl, rfl, rfl⟩
  · rintro e f a1 w1 hk - hsl hb1 hN1 hd1
    cases e <;> first | exact (hk : False).elim | skip
    have k0 := hsl 0 _ hk.1
    have k1 := hsl 1 _ hk.2.1
    have k3 := hsl 3 _ hk.2.2
    have hcbW : cb < W.heap.size := Nat.lt_of_lt_of_le hcb hB.size
    have hbbW : bb < W.heap.size := Nat.lt_of_lt_of_le hbb hB.size
    refine wpIn_block ?_
    refine wpIn_loop (fun a' w' => ∃ i : Nat, i ≤ l.length ∧ Slots a' [(0, .func (.yield q) #[] #[]), (1, .pointer (some ⟨cb, 0, none⟩)), (3, .int .i64 ((i : Int) - 1))] ∧ a'.tmps.size = 19 ∧ a'.defers = [] ∧ (∃ xs : List (Elt l), xs.map (fun x => x.1.1) = downTo l.length i ∧ J xs w') ∧ w'.heap[cb]? = W.heap[cb]? ∧ w'.heap[bb]? = W.heap[bb]?)
      (fun a' _ => (intOf (a'.tmps.getD 3 undef) + 1).toNat) ?_ ?_
    · exact ⟨l.length, Nat.le_refl _, ⟨k0, k1, k3, trivial⟩, hN1, hd1, ⟨[], by simp [downTo_top], abides_below hJ h0 hb1⟩, hb1.block cb hcbW, hb1.block bb hbbW⟩
    rintro a2 w2 ⟨i, hi, hs2, hN2, hd2, ⟨xs, hxs, hJ2⟩, hc2, hb2⟩
    have hlt2 : cb < w2.heap.size ∧ bb < w2.heap.size := by
      have e := hc2.trans hcW
      have e2 := hb2.trans hbW
      refine ⟨?_, ?_⟩
      · rcases Nat.lt_or_ge cb w2.heap.size with h1 | h1
        · exact h1
        · rw [Array.getElem?_eq_none h1] at e; cases e
      · rcases Nat.lt_or_ge bb w2.heap.size with h1 | h1
        · exact h1
        · rw [Array.getElem?_eq_none h1, Array.getElem?_eq_getElem hbb] at e2; cases e2
    refine wpIn_seq ?_
    refine sat_use 19 [(0, .func (.yield q) #[] #[]), (1, .pointer (some ⟨cb, 0, none⟩)), (3, .int .i64 ((i : Int) - 1))] (fun e f => match e with | .normal => 1 ≤ i ∧ (f.get 0).val = some (.func (.yield q) #[] #[]) ∧ (f.get 1).val = some (.pointer (some ⟨cb, 0, none⟩)) ∧ (f.get 3).val = some (.int .i64 ((i : Int) - 1)) | .exit 0 => i = 0 | _ => False) hs2 hN2 hd2 ?_ ?_
    · conv => whnf
      refine ⟨fun h => ?_, fun h => ?_⟩
      · have h' : (i : Int) - 1 ≥ 0 := of_decide_eq_true h
        exact ⟨by omega, rfl, rfl, rfl⟩
      · have h' : ¬ (i : Int) - 1 ≥ 0 := of_decide_eq_false h
        show i = 0
        omega
    rintro e f a3 w3 hk3 - hsl3 hb3 hN3 hd3
    have hJ3 := abides_below hJ hJ2 hb3
    cases e <;> first | exact (hk3 : False).elim | skip
    · obtain ⟨hi1, e0, e1, e3⟩ := hk3
      obtain ⟨j, rfl⟩ : ∃ j, i = j + 1 := ⟨i - 1, by omega⟩
      have hjl : j < l.length := by omega
      obtain ⟨o, ho⟩ : ∃ o, l[j]? = some o := ⟨_, List.getElem?_eq_getElem hjl⟩
      have s3 := hsl3 3 _ e3
      rw [show (((j + 1 : Nat) : Int) - 1) = (j : Int) by omega] at s3
      have hc3 : w3.heap[cb]? = W.heap[cb]? := (hb3.block cb hlt2.1).trans hc2
      have hb3' : w3.heap[bb]? = w.heap[bb]? := (hb3.block bb hlt2.2).trans (hb2.trans hbW)
      refine wpIn_seq ?_
      refine wpIn_block ?_
      refine wpIn_seq ?_
      refine wpIn_region_lit ?_
      refine ops_use 19 6 [(0, .func (.yield q) #[] #[]), (1, .pointer (some ⟨cb, 0, none⟩)), (3, .int .i64 (j : Int))] (fun f => (f.get 11).val = some (.func (.yield q) #[] #[]) ∧ (f.get 12).val = some (.int .i64 (j : Int)) ∧ (f.get 16).val = some (opV o) ∧ (f.get 0).val = some (.func (.yield q) #[] #[]) ∧ (f.get 1).val = some (.pointer (some ⟨cb, 0, none⟩)) ∧ (f.get 3).val = some (.int .i64 (j : Int))) ⟨hsl3 0 _ e0, hsl3 1 _ e1, s3, trivial⟩ hN3 hd3 ?_ ?_
      · conv => whnf
        refine ⟨_, cellAt w3 hc3, ?_⟩
        conv => whnf
        refine ⟨⟨by omega, by omega⟩, ?_⟩
        conv => whnf
        refine ⟨opC o, cells_op_blk h hb3' ho, rfl, ?_⟩
        conv => whnf
        exact ⟨rfl, rfl, rfl, rfl, rfl, rfl⟩
      rintro f4 a4 w4 ⟨g11, g12, g16, g0, g1, g3⟩ hsl4 hb4 hN4 hd4
      have hJ4 := abides_below hJ hJ3 hb4
      obtain ⟨fn, tm, as_, bd, hy, hround⟩ := hY xs ⟨(j, o), ho⟩ w4 hJ4 (by
        have := congrArg List.length hxs
        simp [downTo_length] at this
        omega)
      simp only [List.drop_succ_cons, List.drop_zero]
      have ev11 : a4.eval (.tmp 11) = .func (.yield q) #[] #[] := hsl4 11 _ g11
      have ev12 : a4.eval (.tmp 12) = .int .i64 (j : Int) := hsl4 12 _ g12
      have ev16 : a4.eval (.tmp 16) = opV o := hsl4 16 _ g16
      unfold wpListIn
      rw [if_pos (by rfl)]
      refine ⟨fun _ _ => trivial, ?_⟩
      have hex : ∀ oo : Oper, oo.op = .call ⟨.value (.tmp 11), #[.tmp 12, .tmp 16], #[3, 53]⟩ → ((oo.semAt none a4.eval).run Try.prog w4) = .ok (.round q fn tm as_ bd) w4 := fun oo hop => by
        rw [Oper.semAt_none]
        simp only [execOp, hop, resolve, Sem.run_bind, List.map_toArray, List.map_cons, List.map_nil, ev11, ev12, ev16, Deferred.ofValue, Sem.run_pure, Result.andThen_ok, invoke]
        exact hy
      rw [show Fence.wide.round = none from rfl, hex _ rfl]
      refine ⟨(fun h => by cases h), hround.mono ?_⟩
      have t0 := hsl4 0 _ g0
      have t1 := hsl4 1 _ g1
      have t3 := hsl4 3 _ g3
      have hput : ∀ (b : Bool), Slots (a4.put (some 17) (.bool b)) [(0, .func (.yield q) #[] #[]), (1, .pointer (some ⟨cb, 0, none⟩)), (3, .int .i64 (j : Int)), (17, .bool b)] := fun b => by
        have e : ∀ d, d ≠ 17 → (a4.put (some 17) (.bool b)).tmps.getD d undef = a4.tmps.getD d undef := fun d hd => by
          simp only [Act.put]; rw [Array.getD_eq_getD_getElem?, Array.getElem?_setIfInBounds, if_neg (Ne.symm hd), ← Array.getD_eq_getD_getElem?]
        refine ⟨(e 0 (by decide)).trans t0, (e 1 (by decide)).trans t1, (e 3 (by decide)).trans t3, ?_, trivial⟩
        simp only [Act.put]; rw [Array.getD_eq_getD_getElem?, Array.getElem?_setIfInBounds]; simp [hN4]
      rintro en w5 (⟨rfl, hJ5, hK5⟩ | ⟨rfl, hJx5⟩)
      · refine ops_use 19 1 _ (fun f => (f.get 18).val = some (.bool false) ∧ (f.get 0).val = some (.func (.yield q) #[] #[]) ∧ (f.get 1).val = some (.pointer (some ⟨cb, 0, none⟩)) ∧ (f.get 3).val = some (.int .i64 (j : Int))) (hput true) ((put_size a4 _ _).trans hN4) ((put_defers a4 _ _).trans hd4) ?_ ?_
        · conv => whnf
          exact ⟨rfl, rfl, rfl, rfl⟩
        rintro f6 a6 w6 ⟨q18, q0, q1, q3⟩ hsl6 hb6 hN6 hd6
        simp only [List.drop_succ_cons, List.drop_zero]
        unfold wpListIn
        refine wpIn_cond_split (t := false) (hsl6 18 _ q18) (fun h => by cases h) (fun _ => wpIn_skip ?_)
        refine sat_use 19 [(0, .func (.yield q) #[] #[]), (1, .pointer (some ⟨cb, 0, none⟩)), (3, .int .i64 (j : Int))] (fun e f => match e with | .normal => (f.get 0).val = some (.func (.yield q) #[] #[]) ∧ (f.get 1).val = some (.pointer (some ⟨cb, 0, none⟩)) ∧ (f.get 3).val = some (.int .i64 ((j : Int) - 1)) | _ => False) ⟨hsl6 0 _ q0, hsl6 1 _ q1, hsl6 3 _ q3, trivial⟩ hN6 hd6 ?_ ?_
        · conv => whnf
          refine ⟨(j : Int) - 1, wr64 (by omega), ?_⟩
          conv => whnf
          exact ⟨rfl, rfl, rfl⟩
        rintro e7 f7 a7 w7 hk7 - hsl7 hb7 hN7 hd7
        cases e7 <;> first | exact (hk7 : False).elim | skip
        have hlt4 : cb < w4.heap.size ∧ bb < w4.heap.size := ⟨Nat.lt_of_lt_of_le hlt2.1 (Nat.le_trans hb3.size hb4.size), Nat.lt_of_lt_of_le hlt2.2 (Nat.le_trans hb3.size hb4.size)⟩
        have hsz5 : ∀ k : Nat, k < w4.heap.size → w5.heap[k]? = w4.heap[k]? → k < w5.heap.size := fun k hk he => by
          rcases Nat.lt_or_ge k w5.heap.size with h1 | h1
          · exact h1
          · rw [Array.getElem?_eq_none h1, Array.getElem?_eq_getElem hk] at he; cases he
        have hc5 := hsz5 cb hlt4.1 hK5.1
        have hb5 := hsz5 bb hlt4.2 hK5.2
        refine ⟨⟨j, by omega, ⟨hsl7 0 _ hk7.1, hsl7 1 _ hk7.2.1, hsl7 3 _ hk7.2.2, trivial⟩, hN7, hd7, ⟨xs ++ [⟨(j, o), ho⟩], by rw [List.map_append, hxs, downTo_step hjl]; rfl, abides_below hJ (abides_below hJ hJ5 hb6) hb7⟩, ?_, ?_⟩, ?_⟩
        · exact (hb7.block cb (Nat.lt_of_lt_of_le hc5 hb6.size)).trans ((hb6.block cb hc5).trans (hK5.1.trans ((hb4.block cb (Nat.lt_of_lt_of_le hlt2.1 hb3.size)).trans hc3)))
        · exact (hb7.block bb (Nat.lt_of_lt_of_le hb5 hb6.size)).trans ((hb6.block bb hb5).trans (hK5.2.trans ((hb4.block bb (Nat.lt_of_lt_of_le hlt2.2 hb3.size)).trans ((hb3.block bb hlt2.2).trans hb2))))
        · have u1 := hsl7 3 _ hk7.2.2
          have u2 := hs2.2.2.1
          simp only [u1, u2, intOf]
          omega
      · refine ops_use 19 1 _ (fun f => (f.get 18).val = some (.bool true)) (hput false) ((put_size a4 _ _).trans hN4) ((put_defers a4 _ _).trans hd4) ?_ ?_
        · conv => whnf
          rfl
        rintro f6 a6 w6 q18 hsl6 hb6 hN6 hd6
        simp only [List.drop_succ_cons, List.drop_zero]
        unfold wpListIn
        refine wpIn_cond_split (t := true) (hsl6 18 _ q18) (fun _ => wpIn_ret ?_) (fun h => by cases h)
        exact ⟨hd6, _, results_none rfl _ _ _, ⟨_, rfl⟩, .inr ⟨_, trivial, abides_below hJx hJx5 hb6⟩⟩
    · rename_i id
      match id, hk3 with
      | 0, hk3 =>
        have hi0 : i = 0 := hk3
        subst hi0
        exact ⟨hd3, _, results_none rfl _ _ _, ⟨_, rfl⟩, .inl ⟨xs, hxs, hJ3⟩⟩
end Go.Proofs.Ytmjfgnnefcimiaa
namespace Go.Proofs.Ytmjfgnnefcimiaa
open Go.RowKit

/-! Frames that name only some own entries, by their blocks. -/
def CV.fx (ok : Nat → Bool) : CV → Bool
  | .v _ => true
  | .ref i _ => ok i
  | .any => true
  | _ => false
def fxL (ok : Nat → Bool) : List CV → Bool
  | [] => true
  | c :: l => match c.fx ok with | true => fxL ok l | false => false
def AV.fx (ok : Nat → Bool) : AV → Bool
  | .p (.c x) => x.fx ok
  | .p (.agg l) => fxL ok l
  | _ => false
def Fr.fx (ok : Nat → Bool) : Fr → Bool
  | [] => true
  | (_, x) :: f => match x.fx ok with | true => Fr.fx ok f | false => false
section
variable {ok : Nat → Bool} {r r' : Env}
theorem CV.den_fx (h : ∀ i b, ok i = true → r.blk i = some b → r'.blk i = some b) : ∀ {c : CV} {u : Value}, c.fx ok = true → c.den r u → c.den r' u
  | .v x, u, _, hd => by simpa only [CV.den] using hd
  | .ref i off, u, hb, hd => by
    simp only [CV.den] at hd ⊢; obtain ⟨x, hx, hu⟩ := hd
    exact ⟨x, h i x hb hx, hu⟩
  | .any, u, _, hd => by simp only [CV.den]
  | .vref .., _, hb, _ => by cases hb
  | .row .., _, hb, _ => by cases hb
  | .sl .., _, hb, _ => by cases hb
  | .mp .., _, hb, _ => by cases hb
  | .clo .., _, hb, _ => by cases hb
theorem denL_fx (h : ∀ i b, ok i = true → r.blk i = some b → r'.blk i = some b) : ∀ {l : List CV} {us : List Value}, fxL ok l = true → denL r l us → denL r' l us
  | [], us, _, hd => by simpa only [denL] using hd
  | c :: cs, us, hb, hd => by
    simp only [denL] at hd ⊢; obtain ⟨u, l, hu, hc, hl⟩ := hd
    simp only [fxL] at hb
    split at hb
    · rename_i hb1; exact ⟨u, l, hu, CV.den_fx h hb1 hc, denL_fx h hb hl⟩
    · cases hb
theorem AV.den_fx (h : ∀ i b, ok i = true → r.blk i = some b → r'.blk i = some b) {x : AV} {u : Value} (hx : x.fx ok = true) (hd : x.den r u) : x.den r' u := by
  unfold AV.fx at hx
  split at hx
  · exact CV.den_fx h hx hd
  · obtain ⟨us, hu, hl⟩ := hd; exact ⟨us, hu, denL_fx h hx hl⟩
  · cases hx
theorem Fr.fx_get : ∀ {f : Fr} (k : Nat), f.fx ok = true → (f.get k).fx ok = true
  | [], k, _ => rfl
  | (d, x) :: f, k, h => by
    simp only [Fr.fx] at h
    split at h
    · simp only [Fr.get]
      split
      · assumption
      · exact Fr.fx_get k h
    · cases h
theorem FDen.fx {f : Fr} {a : Act} (hf : FDen r f a) (h : ∀ i b, ok i = true → r.blk i = some b → r'.blk i = some b) (hx : f.fx ok = true) : FDen r' f a := fun k => AV.den_fx h (Fr.fx_get k hx) (hf k)
end
/-- The own entries' blocks, all fixed. -/
def fixE (gs : List Nat) (M bx : Nat) : Env := ⟨fun i => if i = M then some bx else gs[i]?, fun _ => none⟩

/-! Own entries of cells. -/
def Ow.flat : Ow → Bool
  | .cells _ _ => true
  | .row _ _ _ _ => true
  | _ => false
def flatS (S : List Ow) : Bool := S.all Ow.flat
theorem flat_get {S : List Ow} (h : flatS S = true) {i : Nat} {o : Ow} (hi : S[i]? = some o) : o.flat = true := by
  unfold flatS at h
  rw [List.all_eq_true] at h
  exact h o (List.mem_of_getElem? hi)
theorem flat_blk {r : Env} {w : World} {i : Nat} {o : Ow} (hf : o.flat = true) (h : o.holds r w i) {b : Nat} (hb : r.blk i = some b) : ∃ cs t fr, w.heap[b]? = some (.cells cs t fr) := by
  cases o with
  | cells t l => obtain ⟨b', us, h1, h2, h3⟩ := h; rw [hb] at h1; injection h1 with h1; subst h1; exact ⟨_, _, _, h2⟩
  | row e size n xs =>
    obtain ⟨v, h1, h2, h3, h4⟩ := h
    rcases h4 with ⟨h4, _⟩ | ⟨g, cap, cur, hv, hg, hh, hr⟩
    · rw [hb, h4] at h2; cases h2
    · rw [hb, hv] at h2; injection h2 with h2
      have h2 : g = b := h2
      subst h2; exact ⟨_, _, _, hh⟩
  | ext φ => cases hf
  | view φ n xs => cases hf
  | gone => cases hf
theorem Ow.holds_flat {r : Env} {w w' : World} {i : Nat} {o : Ow} (h : o.holds r w i) (hf : o.flat = true) (hb : ∀ b, r.blk i = some b → w'.heap[b]? = w.heap[b]?) : o.holds r w' i := by
  cases o with
  | cells t l => obtain ⟨b, us, h1, h2, h3⟩ := h; exact ⟨b, us, h1, (hb b h1).trans h2, h3⟩
  | row e size n xs =>
    obtain ⟨v, h1, h2, h3, h4⟩ := h
    refine ⟨v, h1, h2, h3, ?_⟩
    rcases h4 with h4 | ⟨g, cap, cur, hv, hg, hh, hr⟩
    · exact .inl h4
    · have : r.blk i = some g := by rw [← h2, hv]; rfl
      exact .inr ⟨g, cap, cur, hv, hg, (hb g this).trans hh, hr⟩
  | ext φ => cases hf
  | view φ n xs => cases hf
  | gone => cases hf
section
variable {w0 : World} {G : Gs} {S : List Ow} {r : Env} {W : World}
theorem Rel.lenB (h : Rel w0 G S r W) {i b : Nat} (hb : r.blk i = some b) : i < S.length := by
  rcases Nat.lt_or_ge i S.length with h1 | h1
  · exact h1
  · rw [h.outB i h1] at hb; cases hb
theorem rel_cells (h : Rel w0 G S r W) (hS : flatS S = true) {i b : Nat} (hb : r.blk i = some b) : ∃ cs t fr, W.heap[b]? = some (.cells cs t fr) := by
  have hi := h.lenB hb
  have ho := List.getElem?_eq_getElem hi
  exact flat_blk (flat_get hS ho) (h.own i _ ho) hb
/-- Behind what turns no cells, and none of what lay there. -/
theorem rel_grow (h : Rel w0 G S r W) (hS : flatS S = true) {W' : World} {row : Option Nat} (hg : W.grownBy W' row) (hr : ∀ q, row = some q → w0.heap.size ≤ q ∧ ∃ o : Obj, W.heap[q]? = some o ∧ o.isCells = false) : Rel w0 G S r W' := by
  have hown : ∀ i b, r.blk i = some b → W'.heap[b]? = W.heap[b]? := fun i b hb => hg.block b (h.new i b hb).1 fun e => by
    obtain ⟨_, o, ho, hc⟩ := hr b e.symm
    obtain ⟨cs, t, fr, hh⟩ := rel_cells h hS hb
    rw [ho] at hh; injection hh with hh; subst hh; cases hc
  refine ⟨hg.os.trans h.os, hg.tape.trans h.tape, hg.output.trans h.output, Nat.le_trans h.size hg.size, fun k hk hG => (hg.block k (Nat.lt_of_lt_of_le hk h.size) fun e => ?_).trans (h.old k hk hG),
    fun i o ho => Ow.holds_flat (h.own i o ho) (flat_get hS ho) (hown i), h.inj, fun i b hb => ⟨Nat.lt_of_lt_of_le (h.new i b hb).1 hg.size, (h.new i b hb).2⟩, h.outB, h.outV, h.first⟩
  have := (hr k e.symm).1
  omega
/-- Seen from the world as it stands. -/
theorem rel_base (h : Rel w0 G S r W) {gs ext : List Nat} (hgs : ∀ (i g : Nat), gs[i]? = some g → r.blk i = some g) (hext : ∀ i b, r.blk i = some b → b ∈ gs ∨ b ∈ ext) : Rel W ⟨gs, ext⟩ S r W :=
  ⟨rfl, rfl, rfl, Nat.le_refl _, fun _ _ _ => rfl, h.own, h.inj, fun i b hb => ⟨(h.new i b hb).1, fun _ => hext i b hb⟩, h.outB, h.outV, hgs⟩
/-- And back. -/
theorem rel_back (h : Rel w0 G S r W) {gs ext : List Nat} {S' : List Ow} {r' : Env} {W' : World} (h2 : Rel W ⟨gs, ext⟩ S' r' W') (hx : ∀ b, b ∈ gs ∨ b ∈ ext → ∃ i, r.blk i = some b) (hf : ∀ (i g : Nat), G.fix[i]? = some g → gs[i]? = some g) : Rel w0 G S' r' W' := by
  refine ⟨h2.os.trans h.os, h2.tape.trans h.tape, h2.output.trans h.output, Nat.le_trans h.size h2.size, fun k hk hG => (h2.old k (Nat.lt_of_lt_of_le hk h.size) fun hm => ?_).trans (h.old k hk hG), h2.own, h2.inj, fun i b hb => ⟨(h2.new i b hb).1, fun hlt => ?_⟩, h2.outB, h2.outV, fun i g hg => h2.first i g (hf i g hg)⟩
  · obtain ⟨i, hi⟩ := hx k hm
    exact hG ((h.new i k hi).2 hk)
  · obtain ⟨j, hj⟩ := hx b ((h2.new i b hb).2 (Nat.lt_of_lt_of_le hlt h.size))
    exact (h.new j b hj).2 hlt
/-- An entry for a block that lies there. -/
theorem rel_add (h : Rel w0 G S r W) {b : Nat} {o : Ow} (hb : b < W.heap.size) (hG : b < w0.heap.size → b ∈ G) (hn : ∀ i, r.blk i ≠ some b) (hS : flatS S = true) (ho : o.holds (r.set S.length (some b) none) W S.length) : Rel w0 G (S ++ [o]) (r.set S.length (some b) none) W := by
  have hle := h.le_new (some b) none
  refine ⟨h.os, h.tape, h.output, h.size, h.old, fun i o' hi => ?_, fun i j x hx hy => ?_, fun i x hx => ?_, fun i hi => ?_, fun i hi => ?_, fun i g hg => hle.blk _ _ (h.first i g hg)⟩
  · rcases get_snoc hi with ⟨h1, h2⟩ | ⟨h1, h2⟩
    · have hfl := flat_get hS h2
      have hh := h.own i o' h2
      have hbl : (r.set S.length (some b) none).blk i = r.blk i := by simp only [Env.set]; rw [if_neg (by omega)]
      cases o' with
      | cells t l => obtain ⟨b, us, h1, h2, h3⟩ := hh; exact ⟨b, us, hle.blk _ _ h1, h2, denL_mono hle _ _ h3⟩
      | row e size n xs => obtain ⟨v, h1, h2, h3⟩ := hh; exact ⟨v, hle.val _ _ h1, h2.trans hbl.symm, h3⟩
      | ext φ => cases hfl
      | view φ n xs => cases hfl
      | gone => cases hfl
    · subst h1; subst h2; exact ho
  · simp only [Env.set] at hx hy
    split at hx <;> split at hy
    · omega
    · injection hx with hx; subst hx; exact absurd hy (hn _)
    · injection hy with hy; subst hy; exact absurd hx (hn _)
    · exact h.inj i j x hx hy
  · simp only [Env.set] at hx
    split at hx
    · injection hx with hx; subst hx; exact ⟨hb, hG⟩
    · exact h.new i x hx
  · simp only [Env.set]; rw [if_neg (by simp at hi; omega)]; exact h.outB i (by simp at hi; omega)
  · simp only [Env.set]; rw [if_neg (by simp at hi; omega)]; exact h.outV i (by simp at hi; omega)
/-- From the world at the start of the loop to the world at the call's start. -/
theorem rel_home {w : World} {A : List Ow} {ra : Env} (h : Rel w0 Gs.nil A ra w) {gs ext : List Nat} (h2 : Rel w ⟨gs, ext⟩ S r W) (hx : ∀ b, b ∈ gs ∨ b ∈ ext → ∃ i, ra.blk i = some b) : Rel w0 Gs.nil S r W :=
  rel_back h h2 hx (fun i g hg => by simp [Gs.nil] at hg)
theorem blocks_of (r : Env) (n : Nat) : ∃ ext : List Nat, (∀ i b, i < n → r.blk i = some b → b ∈ ext) ∧ ∀ b, b ∈ ext → ∃ i, r.blk i = some b := by
  refine ⟨(List.range n).filterMap r.blk, fun i b hi hb => List.mem_filterMap.2 ⟨i, by simpa using hi, hb⟩, fun b hb => ?_⟩
  obtain ⟨i, _, hi⟩ := List.mem_filterMap.1 hb
  exact ⟨i, hi⟩
end
end Go.Proofs.Ytmjfgnnefcimiaa
namespace Go.Proofs.Ytmjfgnnefcimiaa
open Go.RowKit

structure SatQ (P : Program) (w0 : World) (G : Gs) (N : Nd) (c : Code) (f : Fr) (S : List Ow) (Q : Exit → Act → World → Prop) : Prop where
  out : ∀ a w, Good w0 G N f S a w → c.wpIn Fence.wide 10 P Q a w
structure AtQ (w0 : World) (G : Gs) (N : Nd) (e : Exit) (f : Fr) (S : List Ow) (Q : Exit → Act → World → Prop) : Prop where
  out : ∀ a w, Good w0 G N f S a w → Q e a w
section
variable {P : Program} {w0 : World} {G : Gs} {N : Nd} {c d : Code} {f : Fr} {S : List Ow} {Q : Exit → Act → World → Prop}
theorem satq_vc (h : vc none P w0 G N c f S fun e f S => AtQ w0 G N e f S Q) : SatQ P w0 G N c f S Q :=
  ⟨fun a w hg => wpIn_mono ((vc_sound (ro := none) c f S _ h).out 10 a w hg) fun _e a' w' ⟨_f', _S', hk, hg'⟩ => hk.out a' w' hg'⟩
theorem satq_seq (h : vc none P w0 G N c f S fun e f S => match e with | .normal => SatQ P w0 G N d f S Q | e => AtQ w0 G N e f S Q) : SatQ P w0 G N (.seq c d) f S Q :=
  ⟨fun a w hg => wpIn_seq (wpIn_mono ((vc_sound (ro := none) c f S _ h).out 10 a w hg) fun e a' w' ⟨f', S', hk, hg'⟩ => by
    cases e with
    | normal => exact hk.out a' w' hg'
    | exit id => exact hk.out a' w' hg'
    | goto l => exact hk.out a' w' hg'
    | ret => exact hk.out a' w' hg'
    | panic ch => exact hk.out a' w' hg'
    | outgrown => exact hk.out a' w' hg')⟩
theorem satq_in (h : SatQ P w0 G N c f S (Exit.then (d.wpIn Fence.wide 10 P Q) Q)) : SatQ P w0 G N (.seq c d) f S Q := ⟨fun a w hg => wpIn_seq (h.out a w hg)⟩
theorem satq_block {id : Nat} (h : SatQ P w0 G N c f S (Exit.inBlock id Q)) : SatQ P w0 G N (.block id c) f S Q := ⟨fun a w hg => wpIn_block (h.out a w hg)⟩
end
/-- One state as another, with no new blocks. -/
structure EntB (f : Fr) (S : List Ow) (f' : Fr) (S' : List Ow) : Prop where
  out : ∀ w0 w r a, Rel w0 Gs.nil S r w → FDen r f a → ∃ r', Rel w0 Gs.nil S' r' w ∧ FDen r' f' a ∧ ∀ i b, r'.blk i = some b → ∃ j, r.blk j = some b
def cellsS (S : List Ow) : Bool := S.all fun o => match o with | .cells _ _ => true | _ => false
theorem cells_blk {w0 w : World} {G : Gs} {S T : List Ow} {r : Env} (h : Rel w0 G (S ++ T) r w) (hS : cellsS S = true) {i : Nat} (hi : i < S.length) : ∃ b, r.blk i = some b := by
  have ho : (S ++ T)[i]? = some S[i] := by rw [List.getElem?_append_left hi]; exact List.getElem?_eq_getElem hi
  have hc : (match S[i] with | .cells _ _ => true | _ => false) = true := (List.all_eq_true.1 hS) S[i] (List.getElem_mem hi)
  have hh := h.own i _ ho
  revert hc hh
  cases S[i] with
  | cells t l => rintro - ⟨b, us, h1, _⟩; exact ⟨b, h1⟩
  | row e s n xs => intro hc; cases hc
  | ext φ => intro hc; cases hc
  | view φ n xs => intro hc; cases hc
  | gone => intro hc; cases hc
theorem list_of {n : Nat} {p : Nat → Option Nat} (h : ∀ i, i < n → ∃ b, p i = some b) : ∃ gs : List Nat, gs.length = n ∧ ∀ (i g : Nat), gs[i]? = some g ↔ i < n ∧ p i = some g := by
  refine ⟨(List.range n).map fun i => (p i).getD 0, by simp, fun i g => ?_⟩
  rw [List.getElem?_map]
  rcases Nat.lt_or_ge i n with hi | hi
  · obtain ⟨b, hb⟩ := h i hi
    rw [List.getElem?_eq_getElem (by simpa using hi)]
    simp [hb, hi]
  · rw [List.getElem?_eq_none (by simpa using hi)]
    simp; omega
end Go.Proofs.Ytmjfgnnefcimiaa
namespace Go.Proofs.Ytmjfgnnefcimiaa
open Go.RowKit

theorem ownFrom_false {β : Type} {B : Nat} : OwnFrom B (fun (_ : β) (_ : World) => False) := fun _ _ _ _ h _ _ => h.elim
theorem eval_clo {r : Env} {f : Fr} {a : Act} {g : Operand} {fn : Fn} {i : Nat} (hf : FDen r f a) (h : f.ev g = .p (.c (.clo fn [.ref i 0]))) : ∃ b, r.blk i = some b ∧ a.eval g = .func fn #[] #[.pointer (some ⟨b, 0, none⟩)] := by
  have hd := hf.ev g
  rw [h] at hd
  simp only [AV.den, Pc.den, CV.den, denL] at hd
  obtain ⟨us, hu, u, l, rfl, ⟨b, hb, rfl⟩, rfl⟩ := hd
  exact ⟨b, hb, hu⟩
set_option maxRecDepth 100000 in
set_option maxHeartbeats 1000000 in
theorem satq_back {w0 : World} {N m : Nat} {f f0 fa : Fr} {V A T : List Ow} {tS : TypeId} {bb off c : Nat} {l : List BOp} {g : Operand} {p1 p2 : Tmp} {assign body : Code} {Q : Exit → Act → World → Prop}
    (hops : OpsAt w0 w0.heap.size (some ⟨bb, off, none⟩) l) (hbb : bb < w0.heap.size) (hlen : l.length ≤ 1000000)
    (hg : f.ev g = .p (.c (.clo (.func 75) [.ref V.length 0])))
    (hp : dstOk N (some p1) = true ∧ dstOk N (some p2) = true)
    (hf0 : FLe f f0) (hb0 : f0.bnd V.length = true) (hs0 : sbnd V.length V = true)
    (U : List (Elt l) → List Ow) (hUA : U [] = A ++ T) (hAm : A.length = m) (hA : cellsS A = true) (hUl : ∀ pre, (U pre).length = m + 1) (hUf : ∀ pre, flatS (U pre) = true) (hUs : ∀ pre, sbnd (m + 1) (U pre) = true)
    (hU0 : EntB f0 V fa (U [])) (hfa : fa.fx (fun i => Nat.blt i m) = true)
    (gi : Nat) (hgi : gi < m) (hrow : ∀ pre, ∃ t e sz n xs, (U pre)[gi]? = some (.cells t [.row m]) ∧ (U pre)[m]? = some (.row e sz n xs))
    (fb : Elt l → Fr) (hfb : ∀ x, (fb x).fx (fun i => Nat.blt i m || Nat.beq i (m + 1)) = true)
    (hassign : ∀ W gs ext lp pre x, gs.length = m → vc (some lp) Try.prog W ⟨gs, ext⟩ ⟨N, []⟩ assign ((p2, AV.of (opV x.1.2)) :: (p1, one (.int .i64 (x.1.1 : Int))) :: fa) (U pre) fun e f S => e = .normal ∧ Ent W ⟨gs, ext⟩ ⟨N, []⟩ f S (fb x) (U pre ++ [.cells 53 ((opC x.1.2).map .v)]))
    (hbody : ∀ W gs ext lp pre x, gs.length = m → pre.length < l.length → vc (some lp) Try.prog W ⟨gs, ext⟩ ⟨N, []⟩ body (fb x) (U pre ++ [.cells 53 ((opC x.1.2).map .v)]) fun e f S => e = .normal ∧ Ent W ⟨gs, ext⟩ ⟨N, []⟩ f S [] (U (pre ++ [x])))
    (hQ : ∀ D xs, AllDown xs → AtQ w0 Gs.nil ⟨N, [{ target := .collected D, args := #[] }]⟩ .normal fa (U xs ++ [objOw D (.deferred (some []))]) Q) :
    SatQ Try.prog w0 Gs.nil ⟨N, []⟩ (.rangeFunc g #[p1, p2] assign body) f (V ++ [.cells tS [.v (.slice (some ⟨bb, off, none⟩) l.length c)]]) Q := by
  refine ⟨fun a w ⟨r, hR, hf, hN, hd⟩ => ?_⟩
  obtain ⟨cb, hcb, hev⟩ := eval_clo hf hg
  have hcap := hR.own V.length (.cells tS [.v (.slice (some ⟨bb, off, none⟩) l.length c)]) (by simp)
  obtain ⟨cb', us, h1, hcw, h3⟩ := hcap
  rw [hcb] at h1; injection h1 with h1; subst h1
  obtain rfl := denL_vals_inv (us := [.slice (some ⟨bb, off, none⟩) l.length c]) h3
  have hRV : Rel w0 Gs.nil V (r.upto V.length) w := hR.upto rfl (by simp) (by simp [Gs.nil]) fun i o hi => by
    have hil : i < V.length := by
      rcases Nat.lt_or_ge i V.length with h1 | h1
      · exact h1
      · rw [List.getElem?_eq_none h1] at hi; cases hi
    exact Ow.holds_agree (hR.own i o (by rw [List.getElem?_append_left hil]; exact hi)) (Env.upto_agree _ _) (sbnd_get hs0 hi) hil (Env.upto_blk _ _)
  obtain ⟨ra, hRa, hfra, hblk⟩ := hU0.out w0 w _ a hRV ((hf0.den hf).agree (Env.upto_agree _ _) hb0)
  have hcbn : ∀ i, ra.blk i ≠ some cb := fun i hi => by
    obtain ⟨j, hj⟩ := hblk i cb hi
    have hj2 := Env.upto_blk _ _ _ _ hj
    have := hR.inj j V.length cb hj2 hcb
    simp only [Env.upto] at hj
    rw [if_neg (by omega)] at hj; cases hj
  have hra0 : ∀ i b, ra.blk i = some b → w0.heap.size ≤ b := fun i b hb => by
    rcases Nat.lt_or_ge b w0.heap.size with h | h
    · exact absurd ((hRa.new i b hb).2 h) (by simp)
    · exact h
  obtain ⟨gs, hgl, hgs⟩ := list_of (n := m) (p := ra.blk) fun i hi => cells_blk (T := T) (by rw [← hUA]; exact hRa) hA (by omega)
  obtain ⟨ex, hex1, hex2⟩ := blocks_of ra (m + 1)
  have hRw : Rel w ⟨gs, ex⟩ (U []) ra w := rel_base hRa (fun i g h => ((hgs i g).1 h).2) fun i b hb => .inr (hex1 i b (by have := hRa.lenB hb; rw [hUl] at this; exact this) hb)
  have hown0 : ∀ b, b ∈ gs ∨ b ∈ ex → ∃ i, ra.blk i = some b := fun b hb => by
    rcases hb with hb | hb
    · obtain ⟨i, hi⟩ := List.getElem?_of_mem hb; exact ⟨i, ((hgs i b).1 hi).2⟩
    · exact hex2 b hb
  -- what is own within the loop is none of the iterator's blocks
  have hfar : ∀ {S : List Ow} {r' : Env} {W : World}, Rel w ⟨gs, ex⟩ S r' W → ∀ i b, r'.blk i = some b → b ≠ cb ∧ b ≠ bb := fun {S r' W} h i b hb => by
    rcases Nat.lt_or_ge b w.heap.size with hlt | hge
    · obtain ⟨j, hj⟩ := hown0 b ((h.new i b hb).2 hlt)
      exact ⟨fun e => hcbn j (e ▸ hj), fun e => by have := hra0 j b hj; omega⟩
    · have h1 := (hR.new _ _ hcb).1
      have h2 := hR.size
      exact ⟨by omega, by omega⟩
  have hfx0 : FDen (fixE gs (m + 1) 0) fa a := hfra.fx (ok := fun i => Nat.blt i m) (fun i b hi hb => by
    have hi : i < m := by simpa [Nat.blt_eq] using hi
    simp only [fixE]; rw [if_neg (by omega)]; exact (hgs i b).2 ⟨hi, hb⟩) hfa
  have hfixle : ∀ {S : List Ow} {r' : Env} {W0 W : World} {ext : List Nat}, Rel W0 ⟨gs, ext⟩ S r' W → FDen r' fa a := fun {S r' W0 W ext} h => hfx0.fx (ok := fun i => Nat.blt i m) (fun i b hi hb => by
    have hi : i < m := by simpa [Nat.blt_eq] using hi
    simp only [fixE] at hb; rw [if_neg (by omega)] at hb; exact h.first i b hb) hfa
  obtain ⟨gc, hgc⟩ : ∃ gc, gs[gi]? = some gc := ⟨_, List.getElem?_eq_getElem (by omega)⟩
  have hgcw : gc < w.heap.size := (hRa.new gi gc ((hgs gi gc).1 hgc).2).1
  -- the row's block stands in its cell
  have hal : ∀ {W0 : World} {ext : List Nat} {pre : List (Elt l)} {S2 : List Ow} {r' : Env} {W : World}, Rel W0 ⟨gs, ext⟩ (U pre ++ S2) r' W → ∃ u t, W.heap[gc]? = some (.cells #[u] t (0, 0)) ∧ u.ownBlock = r'.blk m := fun {W0 ext pre S2 r' W} h => by
    obtain ⟨t, e, sz, n, xs, h1, h2⟩ := hrow pre
    have hl := hUl pre
    obtain ⟨b, us, k1, k2, k3⟩ := h.own gi _ (by rw [List.getElem?_append_left (by omega)]; exact h1)
    obtain ⟨v, j1, j2, _⟩ := h.own m _ (by rw [List.getElem?_append_left (by omega)]; exact h2)
    have hb := h.first gi gc hgc
    rw [k1] at hb; injection hb with hb; subst hb
    simp only [denL] at k3
    obtain ⟨u, l', rfl, k4, rfl⟩ := k3
    simp only [CV.den] at k4
    rw [j1] at k4; injection k4 with k4; subst k4
    exact ⟨_, t, k2, j2⟩
  let I : List (Elt l) → World → Prop := fun pre W => ∃ r', Rel w ⟨gs, ex⟩ (U pre) r' W
  let Ax : Elt l → Act → World → Prop := fun x a' W => ∃ bx, (bx ∉ gs ∧ (bx < w.heap.size → bx ∈ (⟨gs, ex⟩ : Gs))) ∧ W.heap[bx]? = some (.cells (opC x.1.2).toArray 53 (0, 0)) ∧ (∃ u t, W.heap[gc]? = some (.cells #[u] t (0, 0)) ∧ u.ownBlock ≠ some bx) ∧ FDen (fixE gs (m + 1) bx) (fb x) a' ∧ a'.tmps.size = N ∧ a'.defers = []
  have hopsw : OpsAt w w.heap.size (some ⟨bb, off, none⟩) l := (hops.below hR.toBelow (Nat.le_refl _)).more hR.size
  have hKeep : ∀ {W W' : World} {S S' : List Ow} {r1 r2 : Env} {ext : List Nat}, Rel w ⟨gs, ex⟩ S r1 W → flatS S = true → (∀ b, b ∈ gs ∨ b ∈ ext → ∃ i, r1.blk i = some b) → Rel W ⟨gs, ext⟩ S' r2 W' → KeepsFrom w.heap.size W W' ∧ KpTwo cb bb W W' := fun {W W' S S' r1 r2 ext} h1 hfl hx h2 => by
    have hkeep : ∀ k, k < W.heap.size → (∀ i, r1.blk i ≠ some k) → W'.heap[k]? = W.heap[k]? := fun k hk hn => h2.old k hk fun hm => by
      obtain ⟨i, hi⟩ := hx k hm; exact hn i hi
    refine ⟨⟨h2.size, fun k o _ hk ho => (hkeep k (Array.getElem?_eq_some_iff.1 hk).1 fun i hi => ?_).trans hk⟩, hkeep cb (Nat.lt_of_lt_of_le (hR.new _ _ hcb).1 h1.size) fun i hi => (hfar h1 i cb hi).1 rfl, hkeep bb (Nat.lt_of_lt_of_le hbb (Nat.le_trans hR.size h1.size)) fun i hi => (hfar h1 i bb hi).2 rfl⟩
    obtain ⟨cs, t, fr, hh⟩ := rel_cells h1 hfl hi
    rw [hk] at hh; injection hh with hh; subst hh; cases ho
  refine wpIn_rangeFunc_ownH (F := Fence.wide) (n := 10) (α := Elt l) (gf := 75) (lb := #[.pointer (some ⟨cb, 0, none⟩)]) (encs := eltEnc) (Kp := KpTwo cb bb) (S := AllDown) (Sp := fun _ => True) (N := l.length) (w0 := w) (I := I) (Ix := fun _ _ _ => False) (Ax := Ax)
    rfl (by omega) hev trivial (fun args w' => MuLone.run_callFunc_enter (by rfl) (by kernel_rfl) (by rfl) args w') (backward_stops l bb off c cb tS w hopsw hlen hcw (Nat.lt_of_lt_of_le hbb hR.size) 9)
    (fun h1 h2 => ⟨h2.1.trans h1.1, h2.2.trans h1.2⟩) (fun W lp o o' hlp _ _ _ => ⟨World.putObj_heap_other (by have := (hR.new _ _ hcb).1; omega), World.putObj_heap_other (by have := hR.size; omega)⟩)
    (Below.refl _ _) (fun x => rfl) ?_ (fun _ => ownFrom_false) ⟨ra, hRw⟩ ?_ ?_ ?_ ?_ (fun _ _ _ _ _ _ h => h.elim)
  · rintro pre W W' row ⟨r', h⟩ hg' hr
    exact ⟨r', rel_grow h (hUf pre) hg' hr⟩
  · rintro x a' - W W' row ⟨bx, h1, h2, ⟨u, t, h3, h4⟩, h5⟩ hg' hr
    have hk : ∀ {k : Nat} {cs t fr}, W.heap[k]? = some (.cells cs t fr) → W'.heap[k]? = some (.cells cs t fr) := fun {k cs t fr} hk => (hg'.block k (Array.getElem?_eq_some_iff.1 hk).1 fun e => by
      obtain ⟨_, o, ho, hc⟩ := hr k e.symm
      rw [hk] at ho; injection ho with ho; subst ho; cases hc).trans hk
    exact ⟨bx, h1, hk h2, ⟨u, t, hk h3, h4⟩, h5⟩
  · rintro lp pre x W K ⟨r1, h1⟩ hK
    obtain ⟨ext, he1, he2⟩ := blocks_of r1 (m + 1)
    have hW := rel_base h1 (gs := gs) (ext := ext) h1.first fun i b hb => .inr (he1 i b (by have := h1.lenB hb; rw [hUl] at this; exact this) hb)
    have hx : ∀ b, b ∈ gs ∨ b ∈ ext → ∃ i, r1.blk i = some b := fun b hb => by
      rcases hb with hb | hb
      · obtain ⟨i, hi⟩ := List.getElem?_of_mem hb; exact ⟨i, h1.first i b hi⟩
      · exact he2 b hb
    have hgood : Good W ⟨gs, ext⟩ ⟨N, []⟩ ((p2, AV.of (opV x.1.2)) :: (p1, one (.int .i64 (x.1.1 : Int))) :: fa) (U pre) { tmps := ((#[p1, p2] : Array Tmp).zip (eltEnc x)).foldl (fun t (p, v) => t.setIfInBounds p v) a.tmps, defers := [] } W := by
      have e : ({ tmps := ((#[p1, p2] : Array Tmp).zip (eltEnc x)).foldl (fun t (p, v) => t.setIfInBounds p v) a.tmps, defers := [] } : Act) = (a.put (some p1) (.int .i64 (x.1.1 : Int))).put (some p2) (opV x.1.2) := by
        simp [eltEnc, Act.put, hd]
      rw [e]
      have f1 : FDen r1 ((p1, one (.int .i64 (x.1.1 : Int))) :: fa) (a.put (some p1) (.int .i64 (x.1.1 : Int))) := (hfixle h1).put (dst := some p1) (den_one _ _) (by rw [hN]; exact hp.1)
      exact ⟨r1, hW, f1.put (dst := some p2) (AV.of_den _ _) (by rw [put_size, hN]; exact hp.2), by rw [put_size, put_size]; exact hN, by rw [put_defers, put_defers]; exact hd⟩
    refine wpIn_mono ((vc_sound (ro := some lp) assign _ _ _ (hassign W gs ext lp pre x hgl)).out _ _ _ hgood) ?_
    rintro e a' W' ⟨f', S', ⟨rfl, hent⟩, hg'⟩
    obtain ⟨r2, h2, hf2, hN2, hd2⟩ := hent.out a' W' hg'
    have hW2 : Rel w ⟨gs, ex⟩ (U pre ++ [.cells 53 ((opC x.1.2).map .v)]) r2 W' := rel_back h1 h2 hx fun i g h => h
    have hl := hUl pre
    obtain ⟨bx, us2, k1, k2, k3⟩ := hW2.own (m + 1) (.cells 53 ((opC x.1.2).map .v)) (by rw [← hl]; simp)
    have k3 := denL_vals_inv k3
    subst k3
    obtain ⟨u, t, ku, kb⟩ := hal hW2
    have hbxn : ∀ i, r2.blk i = some bx → i = m + 1 := fun i hi => hW2.inj i (m + 1) bx hi k1
    have hbg : bx ∉ gs := fun hm => by
      obtain ⟨i, hi⟩ := List.getElem?_of_mem hm
      have := hbxn i (hW2.first i bx hi)
      have := (hgs i bx).1 hi
      omega
    refine hK a' W' (hKeep h1 (hUf pre) hx h2).1 (hKeep h1 (hUf pre) hx h2).2 ?_ ⟨bx, ⟨hbg, (hW2.new _ _ k1).2⟩, k2, ⟨u, t, ku, fun e => ?_⟩, ?_, hN2, hd2⟩
    · refine ⟨r2.upto (m + 1), hW2.upto hl (by simp [hl]) (by show gs.length ≤ _; omega) fun i o hi => ?_⟩
      have hil : i < m + 1 := by
        rcases Nat.lt_or_ge i (U pre).length with h1 | h1
        · omega
        · rw [List.getElem?_eq_none h1] at hi; cases hi
      exact Ow.holds_agree (hW2.own i o (by rw [List.getElem?_append_left (by omega)]; exact hi)) (Env.upto_agree _ _) (sbnd_get (hUs pre) hi) hil (Env.upto_blk _ _)
    · rw [kb] at e
      have := hbxn m e
      omega
    · refine hf2.fx (ok := fun i => Nat.blt i m || Nat.beq i (m + 1)) (fun i b hi hb => ?_) (hfb x)
      simp only [fixE]
      split
      · rename_i he; subst he; rw [k1] at hb; exact hb
      · rename_i he
        have hi : i < m := by
          have := hW2.lenB hb
          rcases Bool.or_eq_true _ _ ▸ hi with hi | hi
          · simpa [Nat.blt_eq] using hi
          · exact absurd (Nat.eq_of_beq_eq_true hi) he
        obtain ⟨g', hg'⟩ : ∃ g', gs[i]? = some g' := ⟨_, List.getElem?_eq_getElem (by omega)⟩
        rw [hW2.first i g' hg'] at hb
        rw [hg', hb]
  · rintro lp pre x a' W - - ⟨r1, h1⟩ ⟨bx, ⟨hbg, hbw⟩, hbh, ⟨u, t, hu, hub⟩, hfa', hN', hd'⟩ hpl
    have hl := hUl pre
    have hbn : ∀ i, r1.blk i ≠ some bx := fun i hi => by
      have hil := h1.lenB hi
      rcases Nat.lt_or_ge i m with him | him
      · obtain ⟨g', hg'⟩ : ∃ g', gs[i]? = some g' := ⟨_, List.getElem?_eq_getElem (by omega)⟩
        have := h1.first i g' hg'
        rw [this] at hi; injection hi with hi; subst hi
        exact hbg (List.mem_of_getElem? hg')
      · obtain rfl : i = m := by omega
        obtain ⟨u2, t2, hu2, hb2⟩ := hal (S2 := []) (pre := pre) (by rw [List.append_nil]; exact h1)
        rw [hu] at hu2; injection hu2 with hu2; injection hu2 with hu2; injection hu2 with hu2; injection hu2 with hu2
        subst hu2
        exact hub (hb2.trans hi)
    have h3 := rel_add h1 (o := .cells 53 ((opC x.1.2).map .v)) (b := bx) (Array.getElem?_eq_some_iff.1 hbh).1 hbw hbn (hUf pre) ⟨bx, opC x.1.2, by simp [Env.set], hbh, denL_vals _⟩
    generalize hr3 : r1.set (U pre).length (some bx) none = r3 at h3
    obtain ⟨ext, he1, he2⟩ := blocks_of r3 (m + 2)
    have hx : ∀ b, b ∈ gs ∨ b ∈ ext → ∃ i, r3.blk i = some b := fun b hb => by
      rcases hb with hb | hb
      · obtain ⟨i, hi⟩ := List.getElem?_of_mem hb; exact ⟨i, h3.first i b hi⟩
      · exact he2 b hb
    have hW := rel_base h3 (gs := gs) (ext := ext) h3.first fun i b hb => .inr (he1 i b (by have := h3.lenB hb; simp [hUl] at this; omega) hb)
    have hgood : Good W ⟨gs, ext⟩ ⟨N, []⟩ (fb x) (U pre ++ [.cells 53 ((opC x.1.2).map .v)]) a' W := by
      refine ⟨r3, hW, hfa'.mono ⟨fun i b hb => ?_, fun i v hv => by cases hv⟩, hN', hd'⟩
      simp only [fixE] at hb
      split at hb
      · rename_i he; subst hr3; simp only [Env.set]; rw [if_pos (by omega)]; exact hb
      · exact h3.first i b hb
    refine wpIn_mono ((vc_sound (ro := some lp) body _ _ _ (hbody W gs ext lp pre x hgl hpl)).out _ _ _ hgood) ?_
    rintro e a2 W' ⟨f', S', ⟨rfl, hent⟩, hg'⟩
    obtain ⟨r2, h2, _, _, _⟩ := hent.out a2 W' hg'
    have hfl : flatS (U pre ++ [.cells 53 ((opC x.1.2).map .v)]) = true := by
      have := hUf pre
      unfold flatS at this ⊢
      rw [List.all_append, this]; rfl
    exact ⟨(hKeep h3 hfl hx h2).1, (hKeep h3 hfl hx h2).2, r2, rel_back h3 h2 hx fun i g h => h⟩
  · rintro D xs W hD hS ⟨r1, h1⟩ hDW
    have h2 := rel_home hRa h1 hown0
    have h3 := rel_add h2 (o := objOw D (.deferred (some []))) (b := D) (Array.getElem?_eq_some_iff.1 hDW).1 (fun h => by have := hR.size; omega) (fun i hi => by
      obtain ⟨cs, t, fr, hh⟩ := rel_cells h2 (hUf xs) hi
      rw [hDW] at hh; injection hh with hh; cases hh) (hUf xs) ⟨D, by simp [Env.set], ⟨rfl, hDW⟩, fun w' h => ⟨rfl, h.trans hDW⟩⟩
    refine (hQ D xs hS).out _ W ⟨_, h3, (hfixle h1).mono (h2.le_new (some D) none), hN, ?_⟩
    show _ :: a.defers = _
    rw [hd]
end Go.Proofs.Ytmjfgnnefcimiaa
namespace Go.Proofs.Ytmjfgnnefcimiaa
open Go.RowKit

section
variable {P : Program} {w0 : World} {G : Gs} {N : Nat} {c d : Code} {f : Fr} {S : List Ow} {Q : Exit → Act → World → Prop} {fn : Func} {R : Ending → World → Prop}
theorem atq_then {N : Nd} {id : Nat} (h : SatQ P w0 G N d f S Q) : AtQ w0 G N .normal f S (Exit.inBlock id (Exit.then (d.wpIn Fence.wide 10 P Q) Q)) := ⟨fun a w hg => h.out a w hg⟩
theorem atq_ret (h : resK P w0 G S f fn.results.toList fun v => Fin w0 G S v R) : AtQ w0 G ⟨N, []⟩ .ret f S (bodyPostM Fence.wide 10 P fn R) := by
  refine ⟨fun a w ⟨r, hR, hf, hN, hd⟩ => ?_⟩
  obtain ⟨v, u, hK, hdn, hrun⟩ := resK_sound h hR hf
  show LeavesInM _ _ _ _ _ _ a.defers _ _
  rw [show a.defers = [] from hd]
  exact ⟨u, hrun, hK.out r w u hR hdn⟩
/-- Behind a loop over a function: the mark is struck at the end. -/
theorem atq_ret_mark {D : Nat} (i : Nat) (hi : S[i]? = some (objOw D (.deferred (some [])))) (h : resK P w0 G (S.set i .gone) f fn.results.toList fun v => Fin w0 G (S.set i .gone) v R) : AtQ w0 G ⟨N, [{ target := .collected D, args := #[] }]⟩ .ret f S (bodyPostM Fence.wide 10 P fn R) := by
  refine ⟨fun a w ⟨r, hR, hf, hN, hd⟩ => ?_⟩
  obtain ⟨b, hb, ⟨rfl, hD⟩, _⟩ := hR.own i _ hi
  have hR2 : Rel w0 G (S.set i .gone) r (w.putObj b (.deferred none)) := hR.setBlock hb (grownBy_putObj' w b _) (by trivial) (hR.lt_of_blk hb)
  obtain ⟨v, u, hK, hdn, hrun⟩ := resK_sound h hR2 hf
  show LeavesInM _ _ _ _ _ _ a.defers _ _
  rw [show a.defers = [{ target := .collected b, args := #[] }] from hd]
  exact ⟨by simp, .inl ⟨b, _, rfl, run_takeDeferred hD, u, hrun, hK.out r _ u hR2 hdn⟩⟩
theorem calls_satq {fid : FuncId} (xs : List Value) (hf : P.funcs[fid]? = some fn) (hN : fn.ntmps = N) (hb : fn.body = some c) (hle : xs.length ≤ N) {w : World} {R : Ending → World → Prop}
    (h : SatQ P w Gs.nil ⟨N, []⟩ c (argFr (xs.map fun x => AV.of x) 0) [] (bodyPostM Fence.wide 10 P fn R)) : Calls P fid xs.toArray w R := by
  refine callsIn_wide.1 (callsIn_of_wp_marks (n := 10) hf hb trivial (h.out _ w ⟨Env.none, rel_none w, fun i => ?_, by simp; omega, rfl⟩))
  refine argFr_get (r := Env.none) (xs.map fun x => AV.of x) xs 0 (avdenL_of xs) (fun j u hj => ?_) i
  rw [Nat.zero_add, Array.getD_eq_getD_getElem?, Array.getElem?_append_left (by simp; rcases Nat.lt_or_ge j xs.length with h1 | h1; exact h1; rw [List.getElem?_eq_none h1] at hj; cases hj)]
  simp [hj]
end
set_option maxRecDepth 100000 in
theorem backward_box (A : Option Addr) (n c : Nat) (w : World) : Calls Try.prog 47 #[.slice A n c] w fun e w' => ∃ b, e = .returned (.func (.func 75) #[] #[.pointer (some ⟨b, 0, none⟩)]) ∧ w.heap.size ≤ b ∧ w'.heap[b]? = some (.cells #[.slice A n c] 30 (0, 0)) ∧ Below w.heap.size w w' := by
  refine calls_val [.slice A n c] Try.func47 Try.ntmps47 rfl (by simp) ?_
  conv => whnf
  refine ⟨fun r w' u hR hd => ?_⟩
  simp only [AV.den, Pc.den, CV.den, denL] at hd
  obtain ⟨us, rfl, u, l, rfl, ⟨b, hb, rfl⟩, rfl⟩ := hd
  obtain ⟨b', us, h1, h2, h3⟩ := hR.own 0 _ rfl
  rw [hb] at h1; injection h1 with h1; subst h1
  obtain rfl := denL_vals_inv (us := [.slice A n c]) h3
  refine ⟨b, rfl, ?_, h2, hR.toBelow⟩
  rcases Nat.lt_or_ge b w.heap.size with h | h
  · exact absurd ((hR.new 0 b hb).2 h) (by simp)
  · exact h
theorem call_backward {w0 : World} {G : Gs} {S : List Ow} {K : AV → List Ow → Prop} {A : Option Addr} {n c : Nat} (hK : K (.p (.c (.clo (.func 75) [.ref S.length 0]))) (S ++ [.cells 30 [.v (.slice A n c)]])) :
    CallS Try.prog w0 G 47 [.p (.c (.v (.slice A n c)))] S K := by
  refine ⟨by kernel_rfl, fun r w us hR hd => ?_⟩
  obtain ⟨u1, l1, rfl, d1, d2⟩ := hd
  obtain rfl : l1 = [] := d2
  obtain rfl := den_v d1
  refine (backward_box A n c w).mono fun e w' ⟨b, he, hb, hh, hB⟩ => ⟨_, _, _, r.set S.length (some b) none, he, ?_, hR.snoc (o := .cells 30 [.v (.slice A n c)]) hB (fun x hx => by injection hx with hx; subst hx; exact ⟨hb, (Array.getElem?_eq_some_iff.1 hh).1⟩) ⟨b, [.slice A n c], by simp [Env.set], hh, denL_vals [.slice A n c]⟩, hR.le_new _ _, hK⟩
  simp only [AV.den, Pc.den, CV.den, denL]
  exact ⟨_, rfl, _, _, rfl, ⟨b, by simp [Env.set], rfl⟩, rfl⟩
end Go.Proofs.Ytmjfgnnefcimiaa
namespace Go.Proofs.Ytmjfgnnefcimiaa
open Go.RowKit

theorem rel_setSame {w0 : World} {G : Gs} {S : List Ow} {r : Env} {w : World} (h : Rel w0 G S r w) {i : Nat} {o : Ow} (ho : o.holds r w i) : Rel w0 G (S.set i o) r w := by
  refine ⟨h.os, h.tape, h.output, h.size, h.old, fun j o' hj => ?_, h.inj, h.new, fun j hj => h.outB j (by simpa using hj), fun j hj => h.outV j (by simpa using hj), h.first⟩
  rw [List.getElem?_set] at hj
  split at hj
  · rename_i hij; subst hij
    split at hj
    · injection hj with hj; subst hj; exact ho
    · cases hj
  · exact h.own j o' hj
mutual
def CV.ren (σ : Nat → Nat) : CV → CV
  | .v x => .v x
  | .ref i o => .ref (σ i) o
  | .vref i o => .vref (σ i) o
  | .row i => .row (σ i)
  | .sl i o n c => .sl (σ i) o n c
  | .mp i => .mp (σ i)
  | .clo f cap => .clo f (renL σ cap)
  | .any => .any
def renL (σ : Nat → Nat) : List CV → List CV
  | [] => []
  | c :: l => c.ren σ :: renL σ l
end
def Pc.ren (σ : Nat → Nat) : Pc → Pc
  | .c x => .c (x.ren σ)
  | .agg l => .agg (renL σ l)
def prenL (σ : Nat → Nat) : List Pc → List Pc
  | [] => []
  | c :: l => c.ren σ :: prenL σ l
def AV.ren (σ : Nat → Nat) : AV → AV
  | .p x => .p (x.ren σ)
  | .tup l => .tup (prenL σ l)
def Ow.ren (σ : Nat → Nat) : Ow → Ow
  | .cells t l => .cells t (renL σ l)
  | o => o
def Env.comp (r : Env) (σ : Nat → Nat) (n : Nat) : Env := ⟨fun i => if i < n then r.blk (σ i) else Option.none, fun i => if i < n then r.val (σ i) else Option.none⟩
section
variable {r : Env} {σ : Nat → Nat} {n : Nat}
theorem comp_blk {i : Nat} (h : i < n) : (r.comp σ n).blk i = r.blk (σ i) := if_pos h
theorem comp_val {i : Nat} (h : i < n) : (r.comp σ n).val i = r.val (σ i) := if_pos h
mutual
theorem CV.den_ren : ∀ (c : CV) (u : Value), c.bnd n = true → (c.ren σ).den r u → c.den (r.comp σ n) u
  | .v x, u, _, hd => by simpa only [CV.den, CV.ren] using hd
  | .ref i off, u, hb, hd => by
    have hi : i < n := by simpa [CV.bnd, Nat.blt_eq] using hb
    simp only [CV.den, CV.ren] at hd ⊢; rw [comp_blk hi]; exact hd
  | .vref i off, u, hb, hd => by
    have hi : i < n := by simpa [CV.bnd, Nat.blt_eq] using hb
    simp only [CV.den, CV.ren] at hd ⊢; rw [comp_val hi]; exact hd
  | .row i, u, hb, hd => by
    have hi : i < n := by simpa [CV.bnd, Nat.blt_eq] using hb
    simp only [CV.den, CV.ren] at hd ⊢; rw [comp_val hi]; exact hd
  | .sl i off m c, u, hb, hd => by
    have hi : i < n := by simpa [CV.bnd, Nat.blt_eq] using hb
    simp only [CV.den, CV.ren] at hd ⊢; rw [comp_blk hi]; exact hd
  | .mp i, u, hb, hd => by
    have hi : i < n := by simpa [CV.bnd, Nat.blt_eq] using hb
    simp only [CV.den, CV.ren] at hd ⊢; rw [comp_blk hi]; exact hd
  | .clo f cap, u, hb, hd => by
    simp only [CV.den, CV.ren] at hd ⊢; obtain ⟨us, hu, hl⟩ := hd
    exact ⟨us, hu, denL_ren cap us (by simpa only [CV.bnd] using hb) hl⟩
  | .any, u, _, hd => by simp only [CV.den]
theorem denL_ren : ∀ (l : List CV) (us : List Value), bndL n l = true → denL r (renL σ l) us → denL (r.comp σ n) l us
  | [], us, _, hd => by simpa only [denL, renL] using hd
  | c :: cs, us, hb, hd => by
    simp only [denL, renL] at hd ⊢; obtain ⟨u, l, hu, hc, hl⟩ := hd
    simp only [bndL] at hb
    split at hb
    · rename_i h1; exact ⟨u, l, hu, CV.den_ren c u h1 hc, denL_ren cs l hb hl⟩
    · cases hb
end
theorem Pc.den_ren : ∀ (c : Pc) (u : Value), c.bnd n = true → (c.ren σ).den r u → c.den (r.comp σ n) u
  | .c x, u, hb, hd => CV.den_ren x u hb hd
  | .agg l, u, hb, hd => by obtain ⟨us, hu, hl⟩ := hd; exact ⟨us, hu, denL_ren l us hb hl⟩
theorem pdenL_ren : ∀ (l : List Pc) (us : List Value), pbndL n l = true → pdenL r (prenL σ l) us → pdenL (r.comp σ n) l us
  | [], us, _, hd => hd
  | c :: cs, us, hb, hd => by
    obtain ⟨u, l, hu, hc, hl⟩ := hd
    simp only [pbndL] at hb
    split at hb
    · rename_i h1; exact ⟨u, l, hu, Pc.den_ren c u h1 hc, pdenL_ren cs l hb hl⟩
    · cases hb
theorem AV.den_ren : ∀ (c : AV) (u : Value), c.bnd n = true → (c.ren σ).den r u → c.den (r.comp σ n) u
  | .p x, u, hb, hd => Pc.den_ren x u hb hd
  | .tup l, u, hb, hd => by obtain ⟨us, hu, hl⟩ := hd; exact ⟨us, hu, pdenL_ren l us hb hl⟩
end
def FRen (f : Fr) (σ : Nat → Nat) : Fr → Prop
  | [] => True
  | (d, x) :: g => AVle (f.get d) (x.ren σ) ∧ FRen f σ g
theorem FRen.get {f : Fr} {σ : Nat → Nat} : ∀ {g : Fr} (k : Nat), FRen f σ g → g.get k = .p (.c .any) ∨ AVle (f.get k) ((g.get k).ren σ)
  | [], k, _ => .inl rfl
  | (d, x) :: g, k, h => by
    simp only [Fr.get]
    split
    · rename_i hk; have := Nat.eq_of_beq_eq_true hk; subst this; exact .inr h.1
    · exact FRen.get k h.2
def RLe (S : List Ow) (σ : Nat → Nat) : List Ow → List Nat → Prop
  | [], [] => True
  | o' :: S', k :: l => (∃ o, S[k]? = some o ∧ OLe o (o'.ren σ)) ∧ RLe S σ S' l
  | _, _ => False
theorem RLe.length {S : List Ow} {σ : Nat → Nat} : ∀ {S' : List Ow} {l : List Nat}, RLe S σ S' l → S'.length = l.length
  | [], [], _ => rfl
  | _ :: S', _ :: l, h => by simp [RLe.length h.2]
  | [], _ :: _, h => h.elim
  | _ :: _, [], h => h.elim
theorem RLe.get {S : List Ow} {σ : Nat → Nat} : ∀ {S' : List Ow} {l : List Nat} {i : Nat} {o' : Ow}, RLe S σ S' l → S'[i]? = some o' → ∃ k o, l[i]? = some k ∧ S[k]? = some o ∧ OLe o (o'.ren σ)
  | [], _, i, o', _, h => by simp at h
  | o :: S', k :: l, 0, o', h, hi => by simp at hi; subst hi; obtain ⟨o1, h1, h2⟩ := h.1; exact ⟨k, o1, by simp, h1, h2⟩
  | o :: S', k :: l, i + 1, o', h, hi => by simpa using RLe.get h.2 (by simpa using hi)
  | _ :: _, [], _, _, h, _ => h.elim
def isViewB (S : List Ow) (k : Nat) : Bool := match S[k]? with | some (.view ..) => true | _ => false
def memB (k : Nat) : List Nat → Bool
  | [] => false
  | j :: l => match Nat.beq k j with | true => true | false => memB k l
theorem memB_of {k : Nat} : ∀ {l : List Nat}, k ∈ l → memB k l = true
  | j :: l, h => by
    simp only [memB]
    split
    · rfl
    · rename_i hb
      rcases List.mem_cons.1 h with rfl | h
      · rw [Nat.beq_refl] at hb; cases hb
      · exact memB_of h
def injB (S : List Ow) : List Nat → Bool
  | [] => true
  | k :: l => match isViewB S k, memB k l with | false, true => false | _, _ => injB S l
theorem injB_spec {S : List Ow} : ∀ {l : List Nat} {i j k : Nat}, injB S l = true → i < j → l[i]? = some k → l[j]? = some k → isViewB S k = true
  | [], i, j, k, _, _, h, _ => by simp at h
  | a :: l, i, j, k, hb, hij, hi, hj => by
    obtain ⟨j, rfl⟩ : ∃ j', j = j' + 1 := ⟨j - 1, by omega⟩
    simp only [List.getElem?_cons_succ] at hj
    simp only [injB] at hb
    cases i with
    | zero =>
      simp at hi; subst hi
      cases hv : isViewB S a
      · rw [hv, memB_of (List.mem_of_getElem? hj)] at hb; cases hb
      · rfl
    | succ i =>
      have hb2 : injB S l = true := by split at hb; cases hb; exact hb
      exact injB_spec hb2 (by omega : i < j) (by simpa using hi) hj
def idB (n : Nat) : List Nat → Nat → Bool
  | [], _ => true
  | k :: l, i => match Nat.blt i n, Nat.beq k i with | true, false => false | _, _ => idB n l (i + 1)
theorem idB_zero : ∀ (l : List Nat) (i : Nat), idB 0 l i = true
  | [], _ => rfl
  | k :: l, i => by
    simp only [idB]
    have : Nat.blt i 0 = false := by cases i <;> rfl
    rw [this]; exact idB_zero l (i + 1)
theorem idB_spec {n : Nat} : ∀ {l : List Nat} {s i k : Nat}, idB n l s = true → l[i]? = some k → s + i < n → k = s + i
  | [], s, i, k, _, h, _ => by simp at h
  | a :: l, s, i, k, hb, hi, hn => by
    simp only [idB] at hb
    cases i with
    | zero =>
      simp at hi; subst hi
      have h1 : Nat.blt s n = true := by rw [Nat.blt_eq]; omega
      rw [h1] at hb
      cases h2 : Nat.beq a s
      · rw [h2] at hb; cases hb
      · exact Nat.eq_of_beq_eq_true h2
    | succ i =>
      have hb2 : idB n l (s + 1) = true := by split at hb; cases hb; exact hb
      have := idB_spec (i := i) hb2 (by simpa using hi) (by omega)
      omega
theorem rel_ren {w0 : World} {G : Gs} {S S' : List Ow} {r : Env} {w : World} (hR : Rel w0 G S r w) (σl : List Nat) (hS : RLe S (fun i => σl.getD i 0) S' σl) (hb : sbnd S'.length S' = true) (hi : injB S σl = true) (hG : idB G.fix.length σl 0 = true) (hGl : Nat.ble G.fix.length S'.length = true) :
    Rel w0 G S' (r.comp (fun i => σl.getD i 0) S'.length) w := by
  have hl := hS.length
  have at_ : ∀ i, i < S'.length → ∃ k o o', σl[i]? = some k ∧ σl.getD i 0 = k ∧ S'[i]? = some o' ∧ S[k]? = some o ∧ OLe o (o'.ren fun i => σl.getD i 0) := fun i hil => by
    obtain ⟨k, o, h1, h2, h3⟩ := hS.get (List.getElem?_eq_getElem hil)
    exact ⟨k, o, _, h1, by rw [List.getD_eq_getElem?_getD, h1]; rfl, List.getElem?_eq_getElem hil, h2, h3⟩
  have lt_of : ∀ {i b}, (r.comp (fun i => σl.getD i 0) S'.length).blk i = some b → i < S'.length := fun {i b} h => by
    simp only [Env.comp] at h; split at h
    · assumption
    · cases h
  refine ⟨hR.os, hR.tape, hR.output, hR.size, hR.old, fun i o' ho' => ?_, fun i j b h1 h2 => ?_, fun i b h => ?_, fun i h => if_neg (by omega), fun i h => if_neg (by omega), fun i g hg => ?_⟩
  · have hil : i < S'.length := by
      rcases Nat.lt_or_ge i S'.length with h1 | h1
      · exact h1
      · rw [List.getElem?_eq_none h1] at ho'; cases ho'
    obtain ⟨k, o, o2, h1, h2, h3, h4, h5⟩ := at_ i hil
    rw [ho'] at h3; injection h3 with h3; subst h3
    have hh := h5.holds (hR.own k o h4)
    have hbo := sbnd_get hb ho'
    have hbl : (r.comp (fun i => σl.getD i 0) S'.length).blk i = r.blk k := (comp_blk hil).trans (by rw [h2])
    have hvl : (r.comp (fun i => σl.getD i 0) S'.length).val i = r.val k := (comp_val hil).trans (by rw [h2])
    cases o' with
    | cells t l => obtain ⟨b, us, j1, j2, j3⟩ := hh; exact ⟨b, us, hbl.trans j1, j2, denL_ren l us hbo j3⟩
    | row e size m xs => obtain ⟨v, j1, j2, j3⟩ := hh; exact ⟨v, hvl.trans j1, j2.trans hbl.symm, j3⟩
    | ext φ => obtain ⟨b, j1, j2⟩ := hh; exact ⟨b, hbl.trans j1, j2⟩
    | view φ m xs =>
      obtain ⟨A, c, j1, j2, j3, j4, j5⟩ := hh
      refine ⟨A, c, hvl.trans j1, j2, j3, hbl.trans j4, fun j u hj => ?_⟩
      obtain ⟨b, off, j6, j7, j8, j9⟩ := j5 j u hj
      refine ⟨b, off, j6, j7, fun q hq => ?_, j9⟩
      rw [comp_blk (lt_of hq)] at hq
      exact j8 _ hq
    | gone => trivial
  · have l1 := lt_of h1
    have l2 := lt_of h2
    rw [comp_blk l1] at h1
    rw [comp_blk l2] at h2
    obtain ⟨k, o, o2, a1, a2, a3, a4, a5⟩ := at_ i l1
    obtain ⟨k', o', o2', b1, b2, b3, b4, b5⟩ := at_ j l2
    have hk := hR.inj _ _ b h1 h2
    rw [a2, b2] at hk
    subst hk
    have hnv : isViewB S k = false := by
      cases hv : isViewB S k
      · rfl
      · exfalso
        unfold isViewB at hv
        rw [a4] at hv
        cases o <;> simp at hv
        obtain ⟨A, c, _, _, _, j4, _⟩ := hR.own k _ a4
        rw [a2, j4] at h1; cases h1
    rcases Nat.lt_trichotomy i j with h | h | h
    · rw [injB_spec hi h a1 b1] at hnv; cases hnv
    · exact h
    · rw [injB_spec hi h b1 a1] at hnv; cases hnv
  · have l1 := lt_of h
    rw [comp_blk l1] at h
    exact hR.new _ b h
  · have hgl : i < G.fix.length := by
      rcases Nat.lt_or_ge i G.fix.length with h1 | h1
      · exact h1
      · rw [List.getElem?_eq_none h1] at hg; cases hg
    have hil : i < S'.length := Nat.lt_of_lt_of_le hgl (Nat.le_of_ble_eq_true hGl)
    obtain ⟨k, o, o2, a1, a2, _⟩ := at_ i hil
    rw [comp_blk hil, a2]
    have := idB_spec hG a1 (by omega)
    rw [this, Nat.zero_add]
    exact hR.first i g hg
theorem FRen.den {r : Env} {f f' : Fr} {σ : Nat → Nat} {n : Nat} {a : Act} (h : FRen f σ f') (hb : f'.bnd n = true) (hf : FDen r f a) : FDen (r.comp σ n) f' a := fun k => by
  rcases h.get k with h1 | h1
  · rw [h1]; simp [AV.den, Pc.den, CV.den]
  · exact AV.den_ren _ _ (Fr.bnd_get k hb) (h1.den (hf k))
/-- The entries in another order, with new names; some dropped, views doubled. -/
theorem ent_ren {w0 : World} {G : Gs} {N : Nd} {f f' : Fr} {S S' : List Ow} (σl : List Nat) (hf : FRen f (fun i => σl.getD i 0) f') (hS : RLe S (fun i => σl.getD i 0) S' σl) (hfb : f'.bnd S'.length = true) (hb : sbnd S'.length S' = true) (hi : injB S σl = true) (hG : idB G.fix.length σl 0 = true) (hGl : Nat.ble G.fix.length S'.length = true) : Ent w0 G N f S f' S' :=
  ⟨fun _a _w ⟨_r, hR, hd, hN, hdf⟩ => ⟨_, rel_ren hR σl hS hb hi hG hGl, hf.den hfb hd, hN, hdf⟩⟩
theorem entB_ren {f f' : Fr} {S S' : List Ow} (σl : List Nat) (hf : FRen f (fun i => σl.getD i 0) f') (hS : RLe S (fun i => σl.getD i 0) S' σl) (hfb : f'.bnd S'.length = true) (hb : sbnd S'.length S' = true) (hi : injB S σl = true) : EntB f S f' S' :=
  ⟨fun w0 w r a hR hd => ⟨_, rel_ren hR σl hS hb hi (idB_zero σl 0) rfl, hf.den hfb hd, fun i b h => by
    simp only [Env.comp] at h; split at h
    · exact ⟨_, h⟩
    · cases h⟩⟩
end Go.Proofs.Ytmjfgnnefcimiaa
namespace Go.Proofs.Ytmjfgnnefcimiaa
open Go.RowKit

def ckRow (s : Ck) : List Value := [.int .i64 (s.marks : Int), .int .u32 (s.written : Int), .bool s.changed]
/-- What the checker's one step leaves: its three cells, and nothing else of what lay there. -/
def CkPost (g : Nat) (w : World) (r : Option Ck) (e : Ending) (w' : World) : Prop :=
  e = .returned (.bool r.isSome) ∧ w.grownBy w' (some g) ∧ ∀ s, r = some s → Has w' g (ckRow s)

theorem post_none {g : Nat} {w w' : World} {r : Option Ck} {b : Bool} (hr : r = none) (hb : b = false) (h : w.grownBy w' (some g)) : CkPost g w r (.returned (.bool b)) w' := by
  subst hr; subst hb
  exact ⟨rfl, h, fun s hs => by cases hs⟩

theorem post_some {g : Nat} {w w' : World} {r : Option Ck} {b : Bool} {s : Ck} (hr : r = some s) (hb : b = true) (h : w.grownBy w' (some g)) (hc : Has w' g (ckRow s)) : CkPost g w r (.returned (.bool b)) w' := by
  subst hr; subst hb
  exact ⟨rfl, h, fun s' hs => by cases hs; exact hc⟩

section
variable (g : Nat) (s : Ck) (o : BOp) (last exit : Bool) (w : World)

/-- The operation is not well formed. -/
theorem next_unformed (hg : Has w g (ckRow s)) (h : formedB o = false) :
    Calls Try.prog 70 #[.pointer (some ⟨g, 0, none⟩), opV o, .bool last, .bool exit] w (CkPost g w (ckNext s o last exit)) := by
  have hr : Hid (ckNext s o last exit = none) := by unfold Hid ckNext; simp [h]
  have hglt := hg.lt
  clear hg
  unfold formedB at h
  unfold opV
  by_cases hI : isOp o.code = true
  · by_cases hd : fieldB (hasD o.code) o.d = true
    · by_cases ha : fieldB (hasA o.code) o.a = true
      · by_cases hb : fieldB (hasB o.code) o.b = true
        · have hN : hasN o.code = false ∧ (o.n == 0) = false := by simpa [hI, hd, ha, hb] using h
          obtain ⟨hN, h0⟩ := hN
          have h1 : (o.n != 0) = true := by simpa using h0
          clear h
          go_enter Try.func70, Try.ntmps70
          go_wp2_with (first | (go_at_call 73; refine (shapeOf_any _ _).mono ?_; rintro e w1 ⟨rfl, hb1⟩; obtain ⟨hc1, hf1⟩ := bcell hb1; have hz1 := hb1.size; try simp only [World.size_alloc] at hz1; have hy1_0 : w.heap.size < w1.heap.size := (by omega); have hc1_0 := fun o => hc1 (w.heap.size) o (by first | omega | (simp; done) | (simp; omega)); have hf1_0 := fun o => hf1 (w.heap.size) o (by first | omega | (simp; done) | (simp; omega))) | (go_at_call 94; refine (field_ir _ _ _).mono ?_; rintro e w' ⟨rfl, rfl⟩))
          go_ret
          exact post_none hr.out rfl (by repeat (first | exact World.grownBy.refl _ _ | assumption | (with_reducible refine only_drew ?_) | (with_reducible refine only_drewN ?_ _) | (with_reducible refine only_alloc ?_ _) | (with_reducible refine only_setCell ?_ (by first | exact .inl rfl | (right; simp; omega)) _) | (with_reducible refine only_below ?_ (by assumption) (by first | exact Nat.le_refl _ | assumption | (simp; done) | (simp; omega) | omega))))
        · have hb' : fieldB (hasB o.code) o.b = false := by simpa using hb
          clear h hb
          go_enter Try.func70, Try.ntmps70
          go_wp2_with (first | (go_at_call 73; refine (shapeOf_any _ _).mono ?_; rintro e w1 ⟨rfl, hb1⟩; obtain ⟨hc1, hf1⟩ := bcell hb1; have hz1 := hb1.size; try simp only [World.size_alloc] at hz1; have hy1_0 : w.heap.size < w1.heap.size := (by omega); have hc1_0 := fun o => hc1 (w.heap.size) o (by first | omega | (simp; done) | (simp; omega)); have hf1_0 := fun o => hf1 (w.heap.size) o (by first | omega | (simp; done) | (simp; omega))) | (go_at_call 94; refine (field_ir _ _ _).mono ?_; rintro e w' ⟨rfl, rfl⟩))
          go_ret
          exact post_none hr.out rfl (by repeat (first | exact World.grownBy.refl _ _ | assumption | (with_reducible refine only_drew ?_) | (with_reducible refine only_drewN ?_ _) | (with_reducible refine only_alloc ?_ _) | (with_reducible refine only_setCell ?_ (by first | exact .inl rfl | (right; simp; omega)) _) | (with_reducible refine only_below ?_ (by assumption) (by first | exact Nat.le_refl _ | assumption | (simp; done) | (simp; omega) | omega))))
      · have ha' : fieldB (hasA o.code) o.a = false := by simpa using ha
        clear h ha
        go_enter Try.func70, Try.ntmps70
        go_wp2_with (first | (go_at_call 73; refine (shapeOf_any _ _).mono ?_; rintro e w1 ⟨rfl, hb1⟩; obtain ⟨hc1, hf1⟩ := bcell hb1; have hz1 := hb1.size; try simp only [World.size_alloc] at hz1; have hy1_0 : w.heap.size < w1.heap.size := (by omega); have hc1_0 := fun o => hc1 (w.heap.size) o (by first | omega | (simp; done) | (simp; omega)); have hf1_0 := fun o => hf1 (w.heap.size) o (by first | omega | (simp; done) | (simp; omega))) | (go_at_call 94; refine (field_ir _ _ _).mono ?_; rintro e w' ⟨rfl, rfl⟩))
        go_ret
        exact post_none hr.out rfl (by repeat (first | exact World.grownBy.refl _ _ | assumption | (with_reducible refine only_drew ?_) | (with_reducible refine only_drewN ?_ _) | (with_reducible refine only_alloc ?_ _) | (with_reducible refine only_setCell ?_ (by first | exact .inl rfl | (right; simp; omega)) _) | (with_reducible refine only_below ?_ (by assumption) (by first | exact Nat.le_refl _ | assumption | (simp; done) | (simp; omega) | omega))))
    · have hd' : fieldB (hasD o.code) o.d = false := by simpa using hd
      clear h hd
      go_enter Try.func70, Try.ntmps70
      go_wp2_with (first | (go_at_call 73; refine (shapeOf_any _ _).mono ?_; rintro e w1 ⟨rfl, hb1⟩; obtain ⟨hc1, hf1⟩ := bcell hb1; have hz1 := hb1.size; try simp only [World.size_alloc] at hz1; have hy1_0 : w.heap.size < w1.heap.size := (by omega); have hc1_0 := fun o => hc1 (w.heap.size) o (by first | omega | (simp; done) | (simp; omega)); have hf1_0 := fun o => hf1 (w.heap.size) o (by first | omega | (simp; done) | (simp; omega))) | (go_at_call 94; refine (field_ir _ _ _).mono ?_; rintro e w' ⟨rfl, rfl⟩))
      go_ret
      exact post_none hr.out rfl (by repeat (first | exact World.grownBy.refl _ _ | assumption | (with_reducible refine only_drew ?_) | (with_reducible refine only_drewN ?_ _) | (with_reducible refine only_alloc ?_ _) | (with_reducible refine only_setCell ?_ (by first | exact .inl rfl | (right; simp; omega)) _) | (with_reducible refine only_below ?_ (by assumption) (by first | exact Nat.le_refl _ | assumption | (simp; done) | (simp; omega) | omega))))
  · have hI' : isOp o.code = false := by simpa using hI
    clear h hI
    go_enter Try.func70, Try.ntmps70
    go_wp2_with (first | (go_at_call 73; refine (shapeOf_any _ _).mono ?_; rintro e w1 ⟨rfl, hb1⟩; obtain ⟨hc1, hf1⟩ := bcell hb1; have hz1 := hb1.size; try simp only [World.size_alloc] at hz1; have hy1_0 : w.heap.size < w1.heap.size := (by omega); have hc1_0 := fun o => hc1 (w.heap.size) o (by first | omega | (simp; done) | (simp; omega)); have hf1_0 := fun o => hf1 (w.heap.size) o (by first | omega | (simp; done) | (simp; omega))) | (go_at_call 94; refine (field_ir _ _ _).mono ?_; rintro e w' ⟨rfl, rfl⟩))
    go_ret
    exact post_none hr.out rfl (by repeat (first | exact World.grownBy.refl _ _ | assumption | (with_reducible refine only_drew ?_) | (with_reducible refine only_drewN ?_ _) | (with_reducible refine only_alloc ?_ _) | (with_reducible refine only_setCell ?_ (by first | exact .inl rfl | (right; simp; omega)) _) | (with_reducible refine only_below ?_ (by assumption) (by first | exact Nat.le_refl _ | assumption | (simp; done) | (simp; omega) | omega))))
end
end Go.Proofs.Ytmjfgnnefcimiaa
namespace Go.Proofs.Ytmjfgnnefcimiaa
open Go.RowKit

theorem formed_parts {o : BOp} (h : formedB o = true) : isOp o.code = true ∧ fieldB (hasD o.code) o.d = true ∧ fieldB (hasA o.code) o.a = true ∧ fieldB (hasB o.code) o.b = true ∧ (hasN o.code = true ∨ (hasN o.code = false ∧ (o.n != 0) = false)) := by
  unfold formedB at h
  simp only [Bool.and_eq_true, Bool.or_eq_true] at h
  obtain ⟨⟨⟨⟨h1, h2⟩, h3⟩, h4⟩, h5⟩ := h
  refine ⟨h1, h2, h3, h4, ?_⟩
  cases hN : hasN o.code
  · right; refine ⟨rfl, ?_⟩; rw [hN] at h5; simp at h5; simp [h5]
  · exact .inl rfl

section
variable (g : Nat) (s : Ck) (o : BOp) (last exit : Bool) (w : World)

set_option maxHeartbeats 1000000 in
theorem next_unplaced (hg : Has w g (ckRow s)) (hf : formedB o = true) (h : placedB s o last exit = false) :
    Calls Try.prog 70 #[.pointer (some ⟨g, 0, none⟩), opV o, .bool last, .bool exit] w (CkPost g w (ckNext s o last exit)) := by
  have hr : Hid (ckNext s o last exit = none) := by unfold Hid ckNext; simp [h]
  have hglt := hg.lt
  have hgl1 : g < w.heap.size + 1 := by omega
  have q2 : w.cell? ⟨g, 2, none⟩ = some (.bool s.changed) := (hg 2 _ rfl).1
  clear hg
  obtain ⟨hI, hd, ha, hb, hN⟩ := formed_parts hf
  clear hf
  unfold placedB at h
  unfold opV
  by_cases hE : endsB o.code = last
  · have hE' : (endsB o.code == last) = true := by simp [hE]
    rw [hE'] at h
    have HE := Lib.hid hE
    clear hE hE'
    by_cases h23 : (o.code == 23 && !exit) = true
    · have h23' : (o.code == 23) = true ∧ exit = false := by simpa using h23
      obtain ⟨h1, rfl⟩ := h23'
      clear h h23
      have hE := HE.out
      cases last
      all_goals rcases hN with hN | ⟨hN, h0⟩
      all_goals
        go_enter Try.func70, Try.ntmps70
        go_wp2_with (first | (go_at_call 73; refine (shapeOf_any _ _).mono ?_; rintro e w1 ⟨rfl, hb1⟩; obtain ⟨hc1, hf1⟩ := bcell hb1; have hz1 := hb1.size; try simp only [World.size_alloc] at hz1; have hy1_0 : w.heap.size < w1.heap.size := (by omega); have hc1_0 := fun o => hc1 (w.heap.size) o (by first | omega | (simp; done) | (simp; omega)); have hf1_0 := fun o => hf1 (w.heap.size) o (by first | omega | (simp; done) | (simp; omega)); have hy1_1 : g < w1.heap.size := (by omega); have hc1_1 := fun o => hc1 (g) o (by first | omega | (simp; done) | (simp; omega)); have hf1_1 := fun o => hf1 (g) o (by first | omega | (simp; done) | (simp; omega))) | (go_at_call 94; refine (field_ir _ _ _).mono ?_; rintro e w' ⟨rfl, rfl⟩) | (go_at_call 95; refine (ends_ir _ _).mono ?_; rintro e w' ⟨rfl, rfl⟩))
        go_ret
        exact post_none hr.out rfl (by repeat (first | exact World.grownBy.refl _ _ | assumption | (with_reducible refine only_drew ?_) | (with_reducible refine only_drewN ?_ _) | (with_reducible refine only_alloc ?_ _) | (with_reducible refine only_setCell ?_ (by first | exact .inl rfl | (right; simp; omega)) _) | (with_reducible refine only_below ?_ (by assumption) (by first | exact Nat.le_refl _ | assumption | (simp; done) | (simp; omega) | omega))))
    · have h23' : (o.code == 23 && !exit) = false := by simpa using h23
      rw [h23'] at h
      have hLC : leaves o.code = true ∧ s.changed = true := by simpa using h
      obtain ⟨hL, hC⟩ := hLC
      rw [hC] at q2
      clear h h23 hC
      have h3 : (o.code == 23) = false ∨ ((o.code == 23) = true ∧ exit = true) := by
        cases hx : (o.code == 23) <;> cases exit <;> simp_all
      clear h23'
      have hE := HE.out
      cases last
      all_goals rcases h3 with h3 | ⟨h3, rfl⟩
      all_goals rcases hN with hN | ⟨hN, h0⟩
      all_goals
        go_enter Try.func70, Try.ntmps70
        go_wp2_with (first | (go_at_call 73; refine (shapeOf_any _ _).mono ?_; rintro e w1 ⟨rfl, hb1⟩; obtain ⟨hc1, hf1⟩ := bcell hb1; have hz1 := hb1.size; try simp only [World.size_alloc] at hz1; have hy1_0 : w.heap.size < w1.heap.size := (by omega); have hc1_0 := fun o => hc1 (w.heap.size) o (by first | omega | (simp; done) | (simp; omega)); have hf1_0 := fun o => hf1 (w.heap.size) o (by first | omega | (simp; done) | (simp; omega)); have hy1_1 : g < w1.heap.size := (by omega); have hc1_1 := fun o => hc1 (g) o (by first | omega | (simp; done) | (simp; omega)); have hf1_1 := fun o => hf1 (g) o (by first | omega | (simp; done) | (simp; omega))) | (go_at_call 94; refine (field_ir _ _ _).mono ?_; rintro e w' ⟨rfl, rfl⟩) | (go_at_call 95; refine (ends_ir _ _).mono ?_; rintro e w' ⟨rfl, rfl⟩))
        go_ret
        exact post_none hr.out rfl (by repeat (first | exact World.grownBy.refl _ _ | assumption | (with_reducible refine only_drew ?_) | (with_reducible refine only_drewN ?_ _) | (with_reducible refine only_alloc ?_ _) | (with_reducible refine only_setCell ?_ (by first | exact .inl rfl | (right; simp; omega)) _) | (with_reducible refine only_below ?_ (by assumption) (by first | exact Nat.le_refl _ | assumption | (simp; done) | (simp; omega) | omega))))
  · clear h
    cases last
    · have hE' : endsB o.code = true := by simpa using hE
      clear hE
      rcases hN with hN | ⟨hN, h0⟩
      all_goals
        go_enter Try.func70, Try.ntmps70
        go_wp2_with (first | (go_at_call 73; refine (shapeOf_any _ _).mono ?_; rintro e w1 ⟨rfl, hb1⟩; obtain ⟨hc1, hf1⟩ := bcell hb1; have hz1 := hb1.size; try simp only [World.size_alloc] at hz1; have hy1_0 : w.heap.size < w1.heap.size := (by omega); have hc1_0 := fun o => hc1 (w.heap.size) o (by first | omega | (simp; done) | (simp; omega)); have hf1_0 := fun o => hf1 (w.heap.size) o (by first | omega | (simp; done) | (simp; omega)); have hy1_1 : g < w1.heap.size := (by omega); have hc1_1 := fun o => hc1 (g) o (by first | omega | (simp; done) | (simp; omega)); have hf1_1 := fun o => hf1 (g) o (by first | omega | (simp; done) | (simp; omega))) | (go_at_call 94; refine (field_ir _ _ _).mono ?_; rintro e w' ⟨rfl, rfl⟩) | (go_at_call 95; refine (ends_ir _ _).mono ?_; rintro e w' ⟨rfl, rfl⟩))
        go_ret
        exact post_none hr.out rfl (by repeat (first | exact World.grownBy.refl _ _ | assumption | (with_reducible refine only_drew ?_) | (with_reducible refine only_drewN ?_ _) | (with_reducible refine only_alloc ?_ _) | (with_reducible refine only_setCell ?_ (by first | exact .inl rfl | (right; simp; omega)) _) | (with_reducible refine only_below ?_ (by assumption) (by first | exact Nat.le_refl _ | assumption | (simp; done) | (simp; omega) | omega))))
    · have hE' : endsB o.code = false := by simpa using hE
      clear hE
      rcases hN with hN | ⟨hN, h0⟩
      all_goals
        go_enter Try.func70, Try.ntmps70
        go_wp2_with (first | (go_at_call 73; refine (shapeOf_any _ _).mono ?_; rintro e w1 ⟨rfl, hb1⟩; obtain ⟨hc1, hf1⟩ := bcell hb1; have hz1 := hb1.size; try simp only [World.size_alloc] at hz1; have hy1_0 : w.heap.size < w1.heap.size := (by omega); have hc1_0 := fun o => hc1 (w.heap.size) o (by first | omega | (simp; done) | (simp; omega)); have hf1_0 := fun o => hf1 (w.heap.size) o (by first | omega | (simp; done) | (simp; omega)); have hy1_1 : g < w1.heap.size := (by omega); have hc1_1 := fun o => hc1 (g) o (by first | omega | (simp; done) | (simp; omega)); have hf1_1 := fun o => hf1 (g) o (by first | omega | (simp; done) | (simp; omega))) | (go_at_call 94; refine (field_ir _ _ _).mono ?_; rintro e w' ⟨rfl, rfl⟩) | (go_at_call 95; refine (ends_ir _ _).mono ?_; rintro e w' ⟨rfl, rfl⟩))
        go_ret
        exact post_none hr.out rfl (by repeat (first | exact World.grownBy.refl _ _ | assumption | (with_reducible refine only_drew ?_) | (with_reducible refine only_drewN ?_ _) | (with_reducible refine only_alloc ?_ _) | (with_reducible refine only_setCell ?_ (by first | exact .inl rfl | (right; simp; omega)) _) | (with_reducible refine only_below ?_ (by assumption) (by first | exact Nat.le_refl _ | assumption | (simp; done) | (simp; omega) | omega))))

end
end Go.Proofs.Ytmjfgnnefcimiaa
