/- The optimizer's passes as plain functions: Copies. Plain: a list turned about in place; the dead operations. Walks: the passes: Copies. slices.Reverse on a row of operations: the shelf's contract. Walks: the passes: Dead. Walks: slices.Equal on operations. The optimizer as plain functions: the passes until nothing changes. Walks: the passes until nothing changes. -/
import Derived.Shelf.SlicesQ.Reverse
import Derived.Ground.SlgnProg
import Derived.Test.YtmjfgnnefcimiaaM10
namespace Go.Proofs.Ytmjfgnnefcimiaa
open Go.RowKit

def midF (s : Int → Option Int) : Prop := ∀ k x, s k = some x → mid x
def copyMark (s : Int → Option Int) (o : BOp) : Int → Option Int := if o.code == 20 then fun v => (fdel s 8 v).filter fun w => !decide (20 ≤ w) else s
def origS (s : Int → Option Int) (has : Bool) (v : Int) : Int := if has && (s v).isSome then (s v).getD 0 else v
def copyOp (s : Int → Option Int) (o : BOp) : BOp := ⟨o.code, o.d, origS s (memI o.a (reads o) && o.code != 20) o.a, origS s (twoB o.code) o.b, o.n⟩
def copySkip (p : BOp) : Bool := p.code == 2 && p.d == p.a
def copyKill (s : Int → Option Int) (d : Int) : Int → Option Int := fun v => (mdel s d v).filter fun w => !(w == d)
def copyUpd (s : Int → Option Int) (p : BOp) : Int → Option Int := if writes p < 0 then s else if p.code == 2 then mput (copyKill s (writes p)) (writes p) p.a else copyKill s (writes p)
def copyRun : (Int → Option Int) → List BOp → List BOp
  | _, [] => []
  | s, o :: l => if copySkip (copyOp (copyMark s o) o) then copyRun (copyMark s o) l else copyOp (copyMark s o) o :: copyRun (copyUpd (copyMark s o) (copyOp (copyMark s o) o)) l
def copyAll (b : Blk) : List BOp := if validB b then copyRun noneF b.ops else b.ops
theorem copyRun_at {f : Int → Option Int} {l : List BOp} {k : Nat} {o : BOp} (h : l[k]? = some o) :
    copyRun f (l.drop k) = if copySkip (copyOp (copyMark f o) o) then copyRun (copyMark f o) (l.drop (k + 1)) else copyOp (copyMark f o) o :: copyRun (copyUpd (copyMark f o) (copyOp (copyMark f o) o)) (l.drop (k + 1)) := by
  have hk : k < l.length := by
    rcases Nat.lt_or_ge k l.length with h1 | h1
    · exact h1
    · rw [List.getElem?_eq_none h1] at h; cases h
  rw [List.drop_eq_getElem_cons hk]
  have e : l[k] = o := by rw [List.getElem?_eq_getElem hk] at h; injection h
  rw [e]; rfl
theorem midF_none : midF noneF := nofun
theorem midF_fdel {s : Int → Option Int} (h : midF s) (n : Nat) : midF (fdel s n) := fun k x hx => by
  unfold fdel at hx; split at hx
  · cases hx
  · exact h k x hx
theorem midF_filter {s : Int → Option Int} (h : midF s) (p : Int → Bool) : midF fun v => (s v).filter p := fun k x hx => by
  obtain ⟨h1, _⟩ := Option.filter_eq_some_iff.1 hx; exact h k x h1
theorem midF_mark {s : Int → Option Int} (h : midF s) (o : BOp) : midF (copyMark s o) := by
  unfold copyMark; split
  · exact midF_filter (midF_fdel h 8) _
  · exact h
theorem midF_mdel {s : Int → Option Int} (h : midF s) (d : Int) : midF (mdel s d) := fun k x hx => by
  unfold mdel at hx; split at hx
  · cases hx
  · exact h k x hx
theorem midF_kill {s : Int → Option Int} (h : midF s) (d : Int) : midF (copyKill s d) := midF_filter (midF_mdel h d) _
theorem midF_upd {s : Int → Option Int} {p : BOp} (h : midF s) (hp : p.ok) : midF (copyUpd s p) := by
  unfold copyUpd
  split
  · exact h
  split
  · intro k x hx; unfold mput at hx; split at hx
    · injection hx with hx; subst hx; exact hp.a
    · exact midF_kill h _ k x hx
  · exact midF_kill h _
theorem origS_mid {s : Int → Option Int} (h : midF s) {has : Bool} {v : Int} (hv : mid v) : mid (origS s has v) := by
  unfold origS
  split
  · cases hs : s v with
    | none => exact mid0
    | some x => exact h v x hs
  · exact hv
theorem copyOp_ok {s : Int → Option Int} {o : BOp} (h : midF s) (ho : o.ok) : (copyOp s o).ok := ⟨ho.code, ho.d, origS_mid h ho.a, origS_mid h ho.b, ho.n⟩
theorem copyRun_length : ∀ (l : List BOp) (f : Int → Option Int), (copyRun f l).length ≤ l.length
  | [], f => Nat.le_refl _
  | o :: l, f => by
    unfold copyRun
    split
    · have := copyRun_length l (copyMark f o); simp; omega
    · have := copyRun_length l (copyUpd (copyMark f o) (copyOp (copyMark f o) o)); simp; omega
end Go.Proofs.Ytmjfgnnefcimiaa
namespace Go.Proofs.Ytmjfgnnefcimiaa

/-- The k first and the k last have changed places. -/
def RevAt (l m : List BOp) (k : Nat) : Prop := m.length = l.length ∧ ∀ i, i < l.length → m[i]? = if i < k ∨ l.length ≤ i + k then l[l.length - 1 - i]? else l[i]?
theorem revAt_zero (l : List BOp) : RevAt l l 0 := ⟨rfl, fun i hi => by rw [if_neg (by omega)]⟩
theorem revAt_next {l m : List BOp} {k : Nat} {a b : BOp} (h : RevAt l m k) (hk : k < l.length - 1 - k) (ha : m[k]? = some a) (hb : m[l.length - 1 - k]? = some b) : RevAt l ((m.set k b).set (l.length - 1 - k) a) (k + 1) := by
  obtain ⟨h1, h2⟩ := h
  refine ⟨by simp [h1], fun i hi => ?_⟩
  have hk' := h2 k (by omega)
  have hj' := h2 (l.length - 1 - k) (by omega)
  rw [if_neg (by omega)] at hk' hj'
  rw [List.getElem?_set, List.getElem?_set]
  by_cases e1 : l.length - 1 - k = i
  · subst e1
    rw [if_pos rfl, if_pos (by simp [h1]; omega), if_pos (by omega), show l.length - 1 - (l.length - 1 - k) = k by omega, ← hk', ha]
  · rw [if_neg e1]
    by_cases e2 : k = i
    · subst e2
      rw [if_pos rfl, if_pos (by omega), if_pos (by omega), ← hj', hb]
    · rw [if_neg e2, h2 i hi]
      by_cases e3 : i < k ∨ l.length ≤ i + k
      · rw [if_pos e3, if_pos (by omega)]
      · rw [if_neg e3, if_neg (by omega)]
theorem revAt_end {l m : List BOp} {k : Nat} (h : RevAt l m k) (hk : ¬ (k : Int) < (l.length : Int) - 1 - k) : m = l.reverse := by
  obtain ⟨h1, h2⟩ := h
  refine List.ext_getElem? fun i => ?_
  rcases Nat.lt_or_ge i l.length with hi | hi
  · rw [h2 i hi, List.getElem?_reverse hi]
    by_cases e3 : i < k ∨ l.length ≤ i + k
    · rw [if_pos e3]
    · rw [if_neg e3]; congr 1; omega
  · rw [List.getElem?_eq_none (by omega), List.getElem?_eq_none (by simpa using hi)]

theorem ops_length (l : List BOp) : (l.flatMap opC).length = l.length * 5 := by
  induction l with
  | nil => rfl
  | cons o l ih => simp [List.flatMap_cons, ih, opC]; omega
theorem ops_cut : ∀ {l : List BOp} {k : Nat} {o : BOp}, l[k]? = some o → ((l.flatMap opC).drop (k * 5)).take 5 = opC o
  | [], k, o, h => by simp at h
  | x :: l, 0, o, h => by simp at h; subst h; simp [List.flatMap_cons, opC]
  | x :: l, k + 1, o, h => by
    rw [List.flatMap_cons, show (k + 1) * 5 = (opC x).length + k * 5 by simp [opC]; omega, ← List.drop_drop, List.drop_left]
    exact ops_cut (by simpa using h)
theorem set_right {α : Type} (p q : List α) (k : Nat) (u : α) : (p ++ q).set (p.length + k) u = p ++ q.set k u := by
  rw [List.set_append_right _ _ (by omega)]; congr 2; omega
theorem setAll_right {α : Type} : ∀ (us p q : List α) (k : Nat), setAll (p ++ q) (p.length + k) us = p ++ setAll q k us
  | [], p, q, k => rfl
  | u :: us, p, q, k => by
    simp only [setAll]
    rw [set_right]
    exact setAll_right us p (q.set k u) (k + 1)
theorem ops_set : ∀ {l : List BOp} {k : Nat} (o : BOp), k < l.length → setAll (l.flatMap opC) (k * 5) (opC o) = (l.set k o).flatMap opC
  | [], k, o, h => by simp at h
  | x :: l, 0, o, h => by simp [List.flatMap_cons, opC, setAll]
  | x :: l, k + 1, o, h => by
    rw [List.flatMap_cons, show (k + 1) * 5 = (opC x).length + k * 5 by simp [opC]; omega, setAll_right, ops_set o (by simpa using h)]
    simp [List.flatMap_cons]

theorem next_formed {s s2 : Ck} {o : BOp} {x y : Bool} (h : ckNext s o x y = some s2) : formedB o = true := by
  unfold ckNext at h
  by_cases hf : (formedB o && placedB s o x y) = true
  · simp only [Bool.and_eq_true] at hf; exact hf.1
  · rw [if_neg hf] at h; cases h
theorem run_formed : ∀ {l : List BOp} {s s' : Ck}, ckRun s l = some s' → ∀ o ∈ l, formedB o = true
  | [], _, _, _, o, ho => by cases ho
  | p :: l, s, s', h, o, ho => by
    unfold ckRun at h
    split at h
    · rename_i s2 h2
      rcases List.mem_cons.1 ho with rfl | ho
      · exact next_formed h2
      · exact run_formed h o ho
    · cases h
theorem valid_formed {b : Blk} (h : validB b = true) : ∀ o ∈ b.ops, formedB o = true := by
  unfold validB at h
  simp only [Bool.and_eq_true] at h
  have h2 := h.2
  split at h2
  · rename_i s hs; exact run_formed hs
  · cases h2
theorem beforeM_lt {o : BOp} {m : Nat} (hm : m < 4294967296) (hf : formedB o = true) : beforeM o m < 4294967296 := by
  unfold beforeM
  have h1 : (if 0 ≤ writes o then clrM m (writes o).toNat else m) < 4294967296 := by split; exact clrM_lt hm; exact hm
  have h2 := readsM_lt h1 (reads_var hf)
  split
  · exact Nat.or_lt_two_pow (n := 32) h2 (by decide)
  · exact h2

/-- Nothing that follows wants it. -/
def deadB (o : BOp) (m : Nat) : Bool := pureB o && !(m.testBit o.d.toNat)
/-- Passed over from the last: what is live, and what is left, the last first. -/
structure DeadS where
  live : Nat
  out : List BOp
def deadStep (s : DeadS) (o : BOp) : DeadS := if deadB o s.live then s else ⟨beforeM o s.live, s.out ++ [o]⟩
def deadRun (l : List BOp) : DeadS := l.foldl deadStep ⟨0, []⟩
def deadAll (b : Blk) : List BOp := if validB b then (deadRun b.ops.reverse).out.reverse else b.ops
theorem deadRun_snoc (l : List BOp) (o : BOp) : deadRun (l ++ [o]) = deadStep (deadRun l) o := by unfold deadRun; rw [List.foldl_append]; rfl
theorem deadStep_lt {s : DeadS} {o : BOp} (hs : s.live < 4294967296) (hf : formedB o = true) : (deadStep s o).live < 4294967296 := by
  unfold deadStep; split
  · exact hs
  · exact beforeM_lt hs hf
theorem deadFold_lt : ∀ {l : List BOp} {s : DeadS}, s.live < 4294967296 → (∀ o ∈ l, formedB o = true) → (l.foldl deadStep s).live < 4294967296
  | [], s, h, _ => h
  | o :: l, s, h, hf => deadFold_lt (l := l) (deadStep_lt h (hf o (by simp))) fun p hp => hf p (by simp [hp])
theorem deadRun_lt {l : List BOp} (hf : ∀ o ∈ l, formedB o = true) : (deadRun l).live < 4294967296 := deadFold_lt (by decide) hf
theorem deadFold_length : ∀ (l : List BOp) (s : DeadS), (l.foldl deadStep s).out.length ≤ s.out.length + l.length
  | [], s => Nat.le_refl _
  | o :: l, s => by
    have h1 := deadFold_length l (deadStep s o)
    have h2 : (deadStep s o).out.length ≤ s.out.length + 1 := by unfold deadStep; split <;> simp
    simp only [List.foldl_cons, List.length_cons]; omega
theorem deadRun_length (l : List BOp) : (deadRun l).out.length ≤ l.length := by have := deadFold_length l ⟨0, []⟩; simpa [deadRun] using this
/-- All places, the last first: the list turned about. -/
theorem ops_of_places {l : List BOp} : ∀ {xs : List BOp} {ps : List Nat}, xs.length = ps.length → (∀ (i j : Nat) (o : BOp), ps[i]? = some j → xs[i]? = some o → l[j]? = some o) → ps = (List.range l.length).reverse → xs = l.reverse := by
  intro xs ps hlen h hps
  subst hps
  simp only [List.length_reverse, List.length_range] at hlen
  refine List.ext_getElem? fun i => ?_
  rcases Nat.lt_or_ge i l.length with hi | hi
  · obtain ⟨o, ho⟩ : ∃ o, xs[i]? = some o := ⟨_, List.getElem?_eq_getElem (by omega)⟩
    have h1 := h i (l.length - 1 - i) o (by rw [List.getElem?_reverse (by simpa using hi), List.length_range, List.getElem?_range (by omega)]) ho
    rw [ho, List.getElem?_reverse hi, h1]
  · rw [List.getElem?_eq_none (by omega), List.getElem?_eq_none (by simpa using hi)]
end Go.Proofs.Ytmjfgnnefcimiaa
namespace Go.Proofs.Ytmjfgnnefcimiaa
open Go.RowKit

set_option maxRecDepth 100000 in
theorem orig_any (h : Bool) (v : Int) (g b n : Nat) (s : Int → Option Int) (w : World) (hg : w.cell? ⟨g, 0, none⟩ = some (.map (some b))) (hgl : g < w.heap.size) (hm : IMap i64R i64D w b n s) (hv : mid v) :
    Calls Try.prog 42 #[.bool h, .int .i64 v, .pointer (some ⟨g, 0, none⟩)] w fun e w' => e = .returned (.int .i64 (origS s h v)) ∧ Below w.heap.size w w' := by
  refine calls_val [.bool h, .int .i64 v, .pointer (some ⟨g, 0, none⟩)] Try.func42 Try.ntmps42 rfl (by simp) ?_
  conv => whnf
  refine ⟨_, cells_one hgl (by simp) hg, ?_⟩
  conv => whnf
  refine q_look_i64_old rfl v rfl hm (by simp) rfl (wf_mid hv) ?_
  conv => whnf
  (apply Exists.intro; refine And.intro (fun h => ?_) ?_; (conv => whnf); exact ⟨rfl, rfl, rfl, rfl, rfl⟩; (conv => whnf))
  refine ⟨fun h1 => ?_, fun h1 => ?_⟩
  · conv => whnf
    refine fin_val rfl fun w' hb => ⟨?_, hb⟩
    have e : origS s h v = (s v).getD 0 := if_pos h1
    rw [e]
  · conv => whnf
    refine fin_val rfl fun w' hb => ⟨?_, hb⟩
    have e : origS s h v = v := if_neg (Bool.eq_false_iff.1 h1)
    rw [e]
theorem callq_contains {w0 : World} {G : Gs} {S : List Ow} {K : AV → Prop} {e : TypeId} {n : Nat} {xs : List Int} {v : Int} (i : Nat) (hi : S[i]? = some (.row e 1 n (xs.map (.int .i64)))) (hn : xs.length = n) (hm : n ≤ 1000000000) (hK : K (one (.bool (memI v xs)))) :
    QCall Try.prog w0 G S 45 [.p (.c (.row i)), .p (.c (.v (.int .i64 v)))] K := by
  refine ⟨⟨by kernel_rfl, .bool (memI v xs), hK, fun r w us hR hd => ?_⟩⟩
  obtain ⟨u1, l1, rfl, d1, u2, l2, rfl, d2, d3⟩ := hd
  obtain rfl : l2 = [] := d3
  obtain rfl := den_v d2
  obtain ⟨A, c, rfl, hs, _⟩ := hR.rowAt hi (den_row d1)
  exact (contains_int A n c v xs w hs hn hm).mono fun e w' ⟨h1, h2⟩ => ⟨h1, by subst h2; exact Below.refl _ _⟩
theorem callq_orig {w0 : World} {G : Gs} {S : List Ow} {K : AV → Prop} {t : TypeId} {n : Nat} {s : Int → Option Int} {h : Bool} {v : Int} (i j : Nat) (hi : S[i]? = some (.cells t [.mp j])) (hj : S[j]? = some (mapOw i64R i64D n s)) (hv : mid v) {y : Int} (hy : origS s h v = y) (hK : K (one (.int .i64 y))) :
    QCall Try.prog w0 G S 42 [.p (.c (.v (.bool h))), .p (.c (.v (.int .i64 v))), .p (.c (.ref i 0))] K := by
  subst hy
  refine ⟨⟨by kernel_rfl, .int .i64 (origS s h v), hK, fun r w us hR hd => ?_⟩⟩
  obtain ⟨u1, l1, rfl, d1, u2, l2, rfl, d2, u3, l3, rfl, d3, d4⟩ := hd
  obtain rfl : l3 = [] := d4
  obtain rfl := den_v d1
  obtain rfl := den_v d2
  obtain ⟨gb, hgb, rfl⟩ := den_ref d3
  obtain ⟨b1, v1, e1, e2, e3⟩ := hR.cell hi (off := 0) rfl
  rw [hgb] at e1; injection e1 with e1; subst e1
  simp only [CV.den] at e3
  obtain ⟨b2, e4, rfl⟩ := e3
  obtain ⟨b3, e5, hmap, _⟩ := hR.own j _ hj
  rw [e4] at e5; injection e5 with e5; subst e5
  exact orig_any h v gb b2 n s w e2 (hR.new i gb hgb).1 hmap hv
theorem copyUpd_move {g : Int → Option Int} {p : BOp} (hd : ¬ writes p < 0) (h : (p.code == 2) = true) (k : Int) : mput (copyKill g (writes p)) (writes p) p.a k = copyUpd g p k := by unfold copyUpd; rw [if_neg hd, if_pos h]
theorem copyUpd_other {g : Int → Option Int} {p : BOp} (hd : ¬ writes p < 0) (h : (p.code == 2) = false) (k : Int) : copyKill g (writes p) k = copyUpd g p k := by unfold copyUpd; rw [if_neg hd, h, if_neg (by simp)]
structure CopySt (n : Nat) (ops : List BOp) where
  k : Nat
  f : Int → Option Int
  out : List BOp
  hk : k ≤ n
  hm : midF f
  hl : out.length ≤ k
  eq : copyRun noneF ops = out ++ copyRun f (ops.drop k)
set_option maxRecDepth 100000 in
set_option maxHeartbeats 1000000 in
theorem copies_pass : Pass Try.prog 18 copyAll := by
  intro b A1 A2 A3 c1 c2 c3 w hb h1 h2 h3 hc3 hm3
  cases hv : validB b
  · have hF : copyAll b = b.ops := by unfold copyAll; rw [hv]; rfl
    refine calls_val [.agg #[.slice A1 b.at_.length c1, .slice A2 b.pages.length c2, .slice A3 b.ops.length c3]] Try.func18 Try.ntmps18 rfl (by simp) ?_
    conv => whnf
    refine call_con rfl (by kernel_rfl) (fun r w' hR => valid_ir A1 A2 A3 c1 c2 c3 b w' hb (sl_later h2 hR.toBelow) (sl_later h3 hR.toBelow)) ?_
    conv => whnf
    refine ⟨fun h => ?_, (fun h => by rw [hv] at h; cases h)⟩
    conv => whnf
    refine fin_val rfl fun w' hB => ⟨A3, c3, by rw [hF], by rw [hF]; exact sl_later h3 hB, by rw [hF]; exact hc3, hm3, .inr rfl, hB⟩
  · have hF : copyAll b = copyRun noneF b.ops := by unfold copyAll; rw [hv]; rfl
    obtain ⟨hpos, hmax⟩ := valid_pos hv
    obtain ⟨bb, off, rfl⟩ := ops_addr h3 hpos
    refine calls_val [.agg #[.slice A1 b.at_.length c1, .slice A2 b.pages.length c2, .slice (some ⟨bb, off, none⟩) b.ops.length c3]] Try.func18 Try.ntmps18 rfl (by simp) ?_
    conv => whnf
    refine call_con rfl (by kernel_rfl) (fun r w' hR => valid_ir A1 A2 _ c1 c2 c3 b w' hb (sl_later h2 hR.toBelow) (sl_later h3 hR.toBelow)) ?_
    conv => whnf
    refine ⟨(fun h => by rw [hv] at h; cases h), fun h => ?_⟩
    conv => whnf
    refine op_makeMap (R := i64R) (cd := i64D) rfl rfl ?_
    conv => whnf
    refine ⟨CopySt b.ops.length b.ops, fun x => [(1, .p (.c (.ref 0 0))), (2, .p (.c (.ref 1 0))), (3, .p (.c (.ref 3 0))), (4, .p (.c (.clo (.func 42) [.ref 3 0]))), (5, .p (.c (.row 4))), (21, one (.slice (some ⟨bb, off, none⟩) b.ops.length c3)), (22, one (.int .i64 b.ops.length)), (23, one (.int .i64 x.k))], fun x => [.cells 32 [.v (.slice A1 b.at_.length c1), .v (.slice A2 b.pages.length c2), .v (.slice (some ⟨bb, off, none⟩) b.ops.length c3)], .cells 32 [.v (.slice none 0 0), .v (.slice none 0 0), .v (.slice none 0 0)], mapOw i64R i64D x.k x.f, .cells 64 [.mp 2], .row 53 5 x.out.length (x.out.flatMap opC)], fun x => b.ops.length - x.k, ⟨⟨0, noneF, [], Nat.zero_le _, midF_none, Nat.le_refl _, by simp⟩, ?_⟩, fun x => ?_⟩
    · exact ent_trans (ent_row 5 53 5 rfl) (ent_same rfl (And.intro (rfl) (And.intro (rfl) (And.intro (rfl) (And.intro (rfl) (And.intro (rfl) (And.intro (rfl) (And.intro (rfl) (And.intro (rfl) trivial)))))))) (And.intro ((And.intro rfl (Or.inl rfl))) (And.intro ((And.intro rfl (Or.inl rfl))) (And.intro ((fun _ _ h => h)) (And.intro ((And.intro rfl (Or.inl rfl))) (And.intro ((And.intro rfl (And.intro rfl (And.intro (rfl) (rfl))))) trivial))))))
    have hk := x.hk
    have hl := x.hl
    have heq := x.eq
    conv => whnf
    refine ⟨fun hc => ?_, fun hc => ?_⟩
    · have hlt : x.k < b.ops.length := by simpa using hc
      obtain ⟨o, hx⟩ : ∃ o, b.ops[x.k]? = some o := ⟨_, List.getElem?_eq_getElem hlt⟩
      have ho : o.ok := hb.ops o (List.mem_of_getElem? hx)
      have hat := copyRun_at (f := x.f) hx
      conv => whnf
      refine ⟨⟨by omega, by omega⟩, ?_⟩
      conv => whnf
      refine ⟨opC o, cells_op h3 (by simp) hx, rfl, ?_⟩
      conv => whnf
      obtain ⟨g, hg⟩ : ∃ g, g = copyMark x.f o := ⟨_, rfl⟩
      have hgm : midF g := by rw [hg]; exact midF_mark x.hm o
      rw [← hg] at hat
      refine ⟨fun hm => ?_, fun hm => ?_⟩
      · conv => whnf
        refine call_map (m' := fdel x.f 8) 2 rfl (by kernel_rfl) (fun w' b' hmap => forget_int w' hmap) ?_
        conv => whnf
        refine op_range rfl Try.underlying64 2 rfl rfl rfl (fun b' q M I left cnt hrg hleft => ?_)
        conv => whnf
        refine ⟨FiltSt b' q x.k (fdel x.f 8) (fun w => !decide (20 ≤ w)), fun y => [(1, .p (.c (.ref 0 0))), (2, .p (.c (.ref 1 0))), (3, .p (.c (.ref 3 0))), (4, .p (.c (.clo (.func 42) [.ref 3 0]))), (5, .p (.c (.row 4))), (21, one (.slice (some ⟨bb, off, none⟩) b.ops.length c3)), (22, one (.int .i64 b.ops.length)), (23, one (.int .i64 x.k)), (7, .p (.c (.ref 5 0))), (33, .p (.c (.ref 6 0)))], fun y => [.cells 32 [.v (.slice A1 b.at_.length c1), .v (.slice A2 b.pages.length c2), .v (.slice (some ⟨bb, off, none⟩) b.ops.length c3)], .cells 32 [.v (.slice none 0 0), .v (.slice none 0 0), .v (.slice none 0 0)], objOw b' y.M, .cells 64 [.mp 2], .row 53 5 x.out.length (x.out.flatMap opC), .cells 53 [.v (.int .i64 o.code), .v (.int .i64 o.d), .v (.int .i64 o.a), .v (.int .i64 o.b), .v (.int .u32 o.n)], objOw q y.I], fun y => y.cnt, ⟨⟨M, I, left, cnt, hrg.is (fun k hk => filt_start _ (hleft k hk))⟩, ?_⟩, fun y => ?_⟩
        · exact ent_same rfl (And.intro (rfl) (And.intro (rfl) (And.intro (rfl) (And.intro (rfl) (And.intro (rfl) (And.intro (rfl) (And.intro (rfl) (And.intro (rfl) (And.intro (rfl) (And.intro (rfl) trivial)))))))))) (And.intro ((And.intro rfl (Or.inl rfl))) (And.intro ((And.intro rfl (Or.inl rfl))) (And.intro ((fun _ _ h => h)) (And.intro ((And.intro rfl (Or.inl rfl))) (And.intro ((And.intro rfl (And.intro rfl (And.intro (rfl) (rfl))))) (And.intro ((And.intro rfl (Or.inl rfl))) (And.intro ((fun _ _ h => h)) trivial)))))))
        conv => whnf
        refine op_next_i64 rfl 2 6 b' q y.M y.I y.left y.cnt rfl rfl rfl y.h rfl (fun hno => ?_) (fun x' c I' cnt' hwf hlx hcx hlt' hrg' hent => ?_)
        · conv => whnf
          refine ⟨nofun, fun _ => ?_⟩
          conv => whnf
          refine ⟨[(1, .p (.c (.ref 0 0))), (2, .p (.c (.ref 1 0))), (3, .p (.c (.ref 3 0))), (4, .p (.c (.clo (.func 42) [.ref 3 0]))), (5, .p (.c (.row 4))), (21, one (.slice (some ⟨bb, off, none⟩) b.ops.length c3)), (22, one (.int .i64 b.ops.length)), (23, one (.int .i64 x.k)), (7, .p (.c (.ref 5 0)))], [.cells 32 [.v (.slice A1 b.at_.length c1), .v (.slice A2 b.pages.length c2), .v (.slice (some ⟨bb, off, none⟩) b.ops.length c3)], .cells 32 [.v (.slice none 0 0), .v (.slice none 0 0), .v (.slice none 0 0)], mapOw i64R i64D x.k g, .cells 64 [.mp 2], .row 53 5 x.out.length (x.out.flatMap opC), .cells 53 [.v (.int .i64 o.code), .v (.int .i64 o.d), .v (.int .i64 o.a), .v (.int .i64 o.b), .v (.int .u32 o.n)]], ent_drop (And.intro (rfl) (And.intro (rfl) (And.intro (rfl) (And.intro (rfl) (And.intro (rfl) (And.intro (rfl) (And.intro (rfl) (And.intro (rfl) (And.intro (rfl) trivial))))))))) (And.intro ((And.intro rfl (Or.inl rfl))) (And.intro ((And.intro rfl (Or.inl rfl))) (And.intro (obj_le_wf y.h (Nat.le_refl _) (fun k hk => (filt_end (hno k hk)).trans (by rw [hg]; unfold copyMark; rw [if_pos hm]))) (And.intro ((And.intro rfl (Or.inl rfl))) (And.intro ((And.intro rfl (And.intro rfl (And.intro (rfl) (rfl))))) (And.intro ((And.intro rfl (Or.inl rfl))) trivial)))))) rfl rfl, ?_⟩
          conv => whnf
          refine call_row rfl (by kernel_rfl) (fun r w' hR => reads_ir o w') ?_
          conv => whnf
          refine sat_tail 14 mixed (by kernel_rfl) ?_
          conv => whnf
          refine callq_contains 6 rfl rfl (by have := reads_len o; omega) ?_
          conv => whnf
          refine ⟨fun hin => ?_, fun hin => ?_⟩
          · obtain ⟨p, hp⟩ : ∃ p, p = copyOp g o := ⟨_, rfl⟩
            have hpa : origS g (o.code != 20) o.a = p.a := by rw [hp]; unfold copyOp; rw [hin]; simp
            have hpb : origS g (twoB o.code) o.b = p.b := by rw [hp]; rfl
            have hpc : o.code = p.code := by rw [hp]; rfl
            have hpd : o.d = p.d := by rw [hp]; rfl
            have hpn : o.n = p.n := by rw [hp]; rfl
            have hpok : p.ok := by rw [hp]; exact copyOp_ok hgm ho
            conv => whnf
            (refine ⟨fun _ => ?_, (fun h => absurd h (by decide))⟩; (conv => whnf))
            (refine ⟨fun _ => ?_, (fun h => absurd h (by decide))⟩; (conv => whnf))
            refine callq_orig (t := 64) (n := x.k) (s := g) 3 2 ?_ ?_ ho.a hpa ?_
            · rfl
            · rfl
            conv => whnf
            refine sat_tail 8 mixed (by kernel_rfl) ?_
            conv => whnf
            refine q_same rfl (by kernel_rfl) (fun r w' _ => two_any _ w') ?_
            conv => whnf
            refine callq_orig (t := 64) (n := x.k) (s := g) 3 2 ?_ ?_ ho.b hpb ?_
            · rfl
            · rfl
            rw [hpc, hpd, hpn]
            rw [← hp] at hat
            conv => whnf
            (apply Exists.intro; refine And.intro (fun h => ?_) ?_; (conv => whnf); exact ⟨rfl, rfl, rfl, rfl, rfl⟩; (conv => whnf))
            refine ⟨fun hs => ?_, fun hs => ?_⟩
            · conv => whnf
              refine ⟨(x.k : Int) + 1, wr64 (by omega), ?_⟩
              conv => whnf
              refine ⟨⟨x.k + 1, g, x.out, by omega, hgm, by omega, by rw [heq, hat, if_pos (show copySkip p = true from hs)]⟩, ent_drop (And.intro (rfl) (And.intro (rfl) (And.intro (rfl) (And.intro (rfl) (And.intro (rfl) (And.intro (rfl) (And.intro (rfl) (And.intro (num_succ x.k) trivial)))))))) (And.intro ((And.intro rfl (Or.inl rfl))) (And.intro ((And.intro rfl (Or.inl rfl))) (And.intro (imap_le (Nat.le_succ _) (fun _ => rfl)) (And.intro ((And.intro rfl (Or.inl rfl))) (And.intro ((And.intro rfl (And.intro rfl (And.intro (rfl) (rfl))))) trivial))))) rfl rfl, by dsimp only; omega⟩
            conv => whnf
            refine appK_sound rfl ?_ rfl
            conv => whnf
            refine ⟨by omega, ?_⟩
            conv => whnf
            refine call_con rfl (by kernel_rfl) (fun r w' _ => writes_ir p w') ?_
            conv => whnf
            refine ⟨fun hd => ?_, fun hd => ?_⟩
            · conv => whnf
              have hd' : writes p < 0 := by simpa using hd
              have hu : copyUpd g p = g := by unfold copyUpd; rw [if_pos hd']
              refine ⟨(x.k : Int) + 1, wr64 (by omega), ?_⟩
              conv => whnf
              refine ⟨⟨x.k + 1, g, x.out ++ [p], by omega, hgm, by simp; omega, by rw [heq, hat, if_neg (Bool.eq_false_iff.1 (show copySkip p = false from hs)), hu]; simp⟩, ent_drop (And.intro (rfl) (And.intro (rfl) (And.intro (rfl) (And.intro (rfl) (And.intro (rfl) (And.intro (rfl) (And.intro (rfl) (And.intro (num_succ x.k) trivial)))))))) (And.intro ((And.intro rfl (Or.inl rfl))) (And.intro ((And.intro rfl (Or.inl rfl))) (And.intro (imap_le (Nat.le_succ _) (fun _ => rfl)) (And.intro ((And.intro rfl (Or.inl rfl))) (And.intro ((And.intro rfl (And.intro rfl (And.intro (by simp) (by simp [opC]))))) trivial))))) rfl rfl, by dsimp only; omega⟩
            have hd' : ¬ writes p < 0 := by simpa using hd
            conv => whnf
            refine op_delete rfl Try.underlying64 2 (writes p) rfl rfl rfl (wf_mid (writes_mid hpok)) rfl ?_
            conv => whnf
            refine op_range rfl Try.underlying64 2 rfl rfl rfl (fun b' q M I left cnt hrg hleft => ?_)
            conv => whnf
            refine ⟨FiltSt b' q x.k (mdel g (writes p)) (fun w => !(w == writes p)), fun y => [(1, .p (.c (.ref 0 0))), (2, .p (.c (.ref 1 0))), (3, .p (.c (.ref 3 0))), (4, .p (.c (.clo (.func 42) [.ref 3 0]))), (5, .p (.c (.row 4))), (21, one (.slice (some ⟨bb, off, none⟩) b.ops.length c3)), (22, one (.int .i64 b.ops.length)), (23, one (.int .i64 x.k)), (7, .p (.c (.ref 5 0))), (88, .p (.c (.ref 8 0))), (11, one (.int .i64 (writes p)))], fun y => [.cells 32 [.v (.slice A1 b.at_.length c1), .v (.slice A2 b.pages.length c2), .v (.slice (some ⟨bb, off, none⟩) b.ops.length c3)], .cells 32 [.v (.slice none 0 0), .v (.slice none 0 0), .v (.slice none 0 0)], objOw b' y.M, .cells 64 [.mp 2], .row 53 5 (x.out.length + 1) (x.out.flatMap opC ++ [.int .i64 p.code, .int .i64 p.d, .int .i64 p.a, .int .i64 p.b, .int .u32 p.n]), .cells 53 [.v (.int .i64 p.code), .v (.int .i64 p.d), .v (.int .i64 p.a), .v (.int .i64 p.b), .v (.int .u32 p.n)], .gone, .gone, objOw q y.I], fun y => y.cnt, ⟨⟨M, I, left, cnt, hrg.is (fun k hk => filt_start _ (hleft k hk))⟩, ?_⟩, fun y => ?_⟩
            · exact ent_same rfl (And.intro (rfl) (And.intro (rfl) (And.intro (rfl) (And.intro (rfl) (And.intro (rfl) (And.intro (rfl) (And.intro (rfl) (And.intro (rfl) (And.intro (rfl) (And.intro (rfl) (And.intro (rfl) trivial))))))))))) (And.intro ((And.intro rfl (Or.inl rfl))) (And.intro ((And.intro rfl (Or.inl rfl))) (And.intro ((fun _ _ h => h)) (And.intro ((And.intro rfl (Or.inl rfl))) (And.intro ((And.intro rfl (And.intro rfl (And.intro (rfl) (rfl))))) (And.intro ((And.intro rfl (Or.inl rfl))) (And.intro (trivial) (And.intro (trivial) (And.intro ((fun _ _ h => h)) trivial)))))))))
            conv => whnf
            refine op_next_i64 rfl 2 8 b' q y.M y.I y.left y.cnt rfl rfl rfl y.h rfl (fun hno => ?_) (fun x' c I' cnt' hwf hlx hcx hlt' hrg' hent => ?_)
            · conv => whnf
              refine ⟨nofun, fun _ => ?_⟩
              conv => whnf
              refine ⟨[(1, .p (.c (.ref 0 0))), (2, .p (.c (.ref 1 0))), (3, .p (.c (.ref 3 0))), (4, .p (.c (.clo (.func 42) [.ref 3 0]))), (5, .p (.c (.row 4))), (21, one (.slice (some ⟨bb, off, none⟩) b.ops.length c3)), (22, one (.int .i64 b.ops.length)), (23, one (.int .i64 x.k)), (7, .p (.c (.ref 5 0))), (11, one (.int .i64 (writes p)))], [.cells 32 [.v (.slice A1 b.at_.length c1), .v (.slice A2 b.pages.length c2), .v (.slice (some ⟨bb, off, none⟩) b.ops.length c3)], .cells 32 [.v (.slice none 0 0), .v (.slice none 0 0), .v (.slice none 0 0)], mapOw i64R i64D x.k (copyKill g (writes p)), .cells 64 [.mp 2], .row 53 5 (x.out.length + 1) (x.out.flatMap opC ++ [.int .i64 p.code, .int .i64 p.d, .int .i64 p.a, .int .i64 p.b, .int .u32 p.n]), .cells 53 [.v (.int .i64 p.code), .v (.int .i64 p.d), .v (.int .i64 p.a), .v (.int .i64 p.b), .v (.int .u32 p.n)]], ent_drop (And.intro (rfl) (And.intro (rfl) (And.intro (rfl) (And.intro (rfl) (And.intro (rfl) (And.intro (rfl) (And.intro (rfl) (And.intro (rfl) (And.intro (rfl) (And.intro (rfl) trivial)))))))))) (And.intro ((And.intro rfl (Or.inl rfl))) (And.intro ((And.intro rfl (Or.inl rfl))) (And.intro (obj_le_wf y.h (Nat.le_refl _) (fun k hk => (filt_end (hno k hk)).trans (rfl))) (And.intro ((And.intro rfl (Or.inl rfl))) (And.intro ((And.intro rfl (And.intro rfl (And.intro (rfl) (rfl))))) (And.intro ((And.intro rfl (Or.inl rfl))) trivial)))))) rfl rfl, ?_⟩
              conv => whnf
              refine ⟨fun h2 => ?_, fun h2 => ?_⟩
              · conv => whnf
                refine op_mapUpdate rfl Try.underlying64 i64Elems 2 (writes p) p.a rfl rfl rfl rfl (by omega) (wf_mid (writes_mid hpok)) hpok.a rfl ?_
                conv => whnf
                refine ⟨(x.k : Int) + 1, wr64 (by omega), ?_⟩
                conv => whnf
                refine ⟨⟨x.k + 1, copyUpd g p, x.out ++ [p], by omega, midF_upd hgm hpok, by simp; omega, by rw [heq, hat, if_neg (Bool.eq_false_iff.1 (show copySkip p = false from hs))]; simp⟩, ent_drop (And.intro (rfl) (And.intro (rfl) (And.intro (rfl) (And.intro (rfl) (And.intro (rfl) (And.intro (rfl) (And.intro (rfl) (And.intro (num_succ x.k) trivial)))))))) (And.intro ((And.intro rfl (Or.inl rfl))) (And.intro ((And.intro rfl (Or.inl rfl))) (And.intro (imap_le (Nat.le_refl _) (copyUpd_move hd' h2)) (And.intro ((And.intro rfl (Or.inl rfl))) (And.intro ((And.intro rfl (And.intro rfl (And.intro (by simp) (by simp [opC]))))) trivial))))) rfl rfl, by dsimp only; omega⟩
              · conv => whnf
                refine ⟨(x.k : Int) + 1, wr64 (by omega), ?_⟩
                conv => whnf
                refine ⟨⟨x.k + 1, copyUpd g p, x.out ++ [p], by omega, midF_upd hgm hpok, by simp; omega, by rw [heq, hat, if_neg (Bool.eq_false_iff.1 (show copySkip p = false from hs))]; simp⟩, ent_drop (And.intro (rfl) (And.intro (rfl) (And.intro (rfl) (And.intro (rfl) (And.intro (rfl) (And.intro (rfl) (And.intro (rfl) (And.intro (num_succ x.k) trivial)))))))) (And.intro ((And.intro rfl (Or.inl rfl))) (And.intro ((And.intro rfl (Or.inl rfl))) (And.intro (imap_le (Nat.le_succ _) (copyUpd_other hd' h2)) (And.intro ((And.intro rfl (Or.inl rfl))) (And.intro ((And.intro rfl (And.intro rfl (And.intro (by simp) (by simp [opC]))))) trivial))))) rfl rfl, by dsimp only; omega⟩
            · conv => whnf
              refine ⟨fun _ => ?_, nofun⟩
              conv => whnf
              refine op_entry rfl 2 8 b' q y.M I' x' (.int .i64 c) rfl rfl rfl rfl hent ?_
              conv => whnf
              refine ⟨fun hge => ?_, fun hge => ?_⟩
              · conv => whnf
                refine op_delete_in rfl Try.underlying64 2 8 b' q y.M I' _ cnt' x' rfl rfl rfl hrg' rfl hwf rfl (fun M' cnt2 hle hrg2 => ?_)
                conv => whnf
                exact ⟨⟨M', I', _, cnt2, hrg2.is (fun k _ => filt_drop hcx hlx (by simpa using hge) k)⟩, ent_same rfl (And.intro (rfl) (And.intro (rfl) (And.intro (rfl) (And.intro (rfl) (And.intro (rfl) (And.intro (rfl) (And.intro (rfl) (And.intro (rfl) (And.intro (rfl) (And.intro (rfl) (And.intro (rfl) trivial))))))))))) (And.intro ((And.intro rfl (Or.inl rfl))) (And.intro ((And.intro rfl (Or.inl rfl))) (And.intro ((fun _ _ h => h)) (And.intro ((And.intro rfl (Or.inl rfl))) (And.intro ((And.intro rfl (And.intro rfl (And.intro (rfl) (rfl))))) (And.intro ((And.intro rfl (Or.inl rfl))) (And.intro (trivial) (And.intro (trivial) (And.intro ((fun _ _ h => h)) trivial))))))))), by dsimp only; omega⟩
              · conv => whnf
                exact ⟨⟨y.M, I', _, cnt', hrg'.is (fun k _ => filt_keep hcx hlx (by simpa using hge) k)⟩, ent_same rfl (And.intro (rfl) (And.intro (rfl) (And.intro (rfl) (And.intro (rfl) (And.intro (rfl) (And.intro (rfl) (And.intro (rfl) (And.intro (rfl) (And.intro (rfl) (And.intro (rfl) (And.intro (rfl) trivial))))))))))) (And.intro ((And.intro rfl (Or.inl rfl))) (And.intro ((And.intro rfl (Or.inl rfl))) (And.intro ((fun _ _ h => h)) (And.intro ((And.intro rfl (Or.inl rfl))) (And.intro ((And.intro rfl (And.intro rfl (And.intro (rfl) (rfl))))) (And.intro ((And.intro rfl (Or.inl rfl))) (And.intro (trivial) (And.intro (trivial) (And.intro ((fun _ _ h => h)) trivial))))))))), by dsimp only; omega⟩
          · obtain ⟨p, hp⟩ : ∃ p, p = copyOp g o := ⟨_, rfl⟩
            have hpa : origS g false o.a = p.a := by rw [hp]; unfold copyOp; rw [show memI o.a (reads o) = false from hin]; simp
            have hpb : origS g (twoB o.code) o.b = p.b := by rw [hp]; rfl
            have hpc : o.code = p.code := by rw [hp]; rfl
            have hpd : o.d = p.d := by rw [hp]; rfl
            have hpn : o.n = p.n := by rw [hp]; rfl
            have hpok : p.ok := by rw [hp]; exact copyOp_ok hgm ho
            conv => whnf
            (refine ⟨(fun h => absurd h (by decide)), fun _ => ?_⟩; (conv => whnf))
            (refine ⟨(fun h => absurd h (by decide)), fun _ => ?_⟩; (conv => whnf))
            refine callq_orig (t := 64) (n := x.k) (s := g) 3 2 ?_ ?_ ho.a hpa ?_
            · rfl
            · rfl
            conv => whnf
            refine sat_tail 8 mixed (by kernel_rfl) ?_
            conv => whnf
            refine q_same rfl (by kernel_rfl) (fun r w' _ => two_any _ w') ?_
            conv => whnf
            refine callq_orig (t := 64) (n := x.k) (s := g) 3 2 ?_ ?_ ho.b hpb ?_
            · rfl
            · rfl
            rw [hpc, hpd, hpn]
            rw [← hp] at hat
            conv => whnf
            (apply Exists.intro; refine And.intro (fun h => ?_) ?_; (conv => whnf); exact ⟨rfl, rfl, rfl, rfl, rfl⟩; (conv => whnf))
            refine ⟨fun hs => ?_, fun hs => ?_⟩
            · conv => whnf
              refine ⟨(x.k : Int) + 1, wr64 (by omega), ?_⟩
              conv => whnf
              refine ⟨⟨x.k + 1, g, x.out, by omega, hgm, by omega, by rw [heq, hat, if_pos (show copySkip p = true from hs)]⟩, ent_drop (And.intro (rfl) (And.intro (rfl) (And.intro (rfl) (And.intro (rfl) (And.intro (rfl) (And.intro (rfl) (And.intro (rfl) (And.intro (num_succ x.k) trivial)))))))) (And.intro ((And.intro rfl (Or.inl rfl))) (And.intro ((And.intro rfl (Or.inl rfl))) (And.intro (imap_le (Nat.le_succ _) (fun _ => rfl)) (And.intro ((And.intro rfl (Or.inl rfl))) (And.intro ((And.intro rfl (And.intro rfl (And.intro (rfl) (rfl))))) trivial))))) rfl rfl, by dsimp only; omega⟩
            conv => whnf
            refine appK_sound rfl ?_ rfl
            conv => whnf
            refine ⟨by omega, ?_⟩
            conv => whnf
            refine call_con rfl (by kernel_rfl) (fun r w' _ => writes_ir p w') ?_
            conv => whnf
            refine ⟨fun hd => ?_, fun hd => ?_⟩
            · conv => whnf
              have hd' : writes p < 0 := by simpa using hd
              have hu : copyUpd g p = g := by unfold copyUpd; rw [if_pos hd']
              refine ⟨(x.k : Int) + 1, wr64 (by omega), ?_⟩
              conv => whnf
              refine ⟨⟨x.k + 1, g, x.out ++ [p], by omega, hgm, by simp; omega, by rw [heq, hat, if_neg (Bool.eq_false_iff.1 (show copySkip p = false from hs)), hu]; simp⟩, ent_drop (And.intro (rfl) (And.intro (rfl) (And.intro (rfl) (And.intro (rfl) (And.intro (rfl) (And.intro (rfl) (And.intro (rfl) (And.intro (num_succ x.k) trivial)))))))) (And.intro ((And.intro rfl (Or.inl rfl))) (And.intro ((And.intro rfl (Or.inl rfl))) (And.intro (imap_le (Nat.le_succ _) (fun _ => rfl)) (And.intro ((And.intro rfl (Or.inl rfl))) (And.intro ((And.intro rfl (And.intro rfl (And.intro (by simp) (by simp [opC]))))) trivial))))) rfl rfl, by dsimp only; omega⟩
            have hd' : ¬ writes p < 0 := by simpa using hd
            conv => whnf
            refine op_delete rfl Try.underlying64 2 (writes p) rfl rfl rfl (wf_mid (writes_mid hpok)) rfl ?_
            conv => whnf
            refine op_range rfl Try.underlying64 2 rfl rfl rfl (fun b' q M I left cnt hrg hleft => ?_)
            conv => whnf
            refine ⟨FiltSt b' q x.k (mdel g (writes p)) (fun w => !(w == writes p)), fun y => [(1, .p (.c (.ref 0 0))), (2, .p (.c (.ref 1 0))), (3, .p (.c (.ref 3 0))), (4, .p (.c (.clo (.func 42) [.ref 3 0]))), (5, .p (.c (.row 4))), (21, one (.slice (some ⟨bb, off, none⟩) b.ops.length c3)), (22, one (.int .i64 b.ops.length)), (23, one (.int .i64 x.k)), (7, .p (.c (.ref 5 0))), (88, .p (.c (.ref 8 0))), (11, one (.int .i64 (writes p)))], fun y => [.cells 32 [.v (.slice A1 b.at_.length c1), .v (.slice A2 b.pages.length c2), .v (.slice (some ⟨bb, off, none⟩) b.ops.length c3)], .cells 32 [.v (.slice none 0 0), .v (.slice none 0 0), .v (.slice none 0 0)], objOw b' y.M, .cells 64 [.mp 2], .row 53 5 (x.out.length + 1) (x.out.flatMap opC ++ [.int .i64 p.code, .int .i64 p.d, .int .i64 p.a, .int .i64 p.b, .int .u32 p.n]), .cells 53 [.v (.int .i64 p.code), .v (.int .i64 p.d), .v (.int .i64 p.a), .v (.int .i64 p.b), .v (.int .u32 p.n)], .gone, .gone, objOw q y.I], fun y => y.cnt, ⟨⟨M, I, left, cnt, hrg.is (fun k hk => filt_start _ (hleft k hk))⟩, ?_⟩, fun y => ?_⟩
            · exact ent_same rfl (And.intro (rfl) (And.intro (rfl) (And.intro (rfl) (And.intro (rfl) (And.intro (rfl) (And.intro (rfl) (And.intro (rfl) (And.intro (rfl) (And.intro (rfl) (And.intro (rfl) (And.intro (rfl) trivial))))))))))) (And.intro ((And.intro rfl (Or.inl rfl))) (And.intro ((And.intro rfl (Or.inl rfl))) (And.intro ((fun _ _ h => h)) (And.intro ((And.intro rfl (Or.inl rfl))) (And.intro ((And.intro rfl (And.intro rfl (And.intro (rfl) (rfl))))) (And.intro ((And.intro rfl (Or.inl rfl))) (And.intro (trivial) (And.intro (trivial) (And.intro ((fun _ _ h => h)) trivial)))))))))
            conv => whnf
            refine op_next_i64 rfl 2 8 b' q y.M y.I y.left y.cnt rfl rfl rfl y.h rfl (fun hno => ?_) (fun x' c I' cnt' hwf hlx hcx hlt' hrg' hent => ?_)
            · conv => whnf
              refine ⟨nofun, fun _ => ?_⟩
              conv => whnf
              refine ⟨[(1, .p (.c (.ref 0 0))), (2, .p (.c (.ref 1 0))), (3, .p (.c (.ref 3 0))), (4, .p (.c (.clo (.func 42) [.ref 3 0]))), (5, .p (.c (.row 4))), (21, one (.slice (some ⟨bb, off, none⟩) b.ops.length c3)), (22, one (.int .i64 b.ops.length)), (23, one (.int .i64 x.k)), (7, .p (.c (.ref 5 0))), (11, one (.int .i64 (writes p)))], [.cells 32 [.v (.slice A1 b.at_.length c1), .v (.slice A2 b.pages.length c2), .v (.slice (some ⟨bb, off, none⟩) b.ops.length c3)], .cells 32 [.v (.slice none 0 0), .v (.slice none 0 0), .v (.slice none 0 0)], mapOw i64R i64D x.k (copyKill g (writes p)), .cells 64 [.mp 2], .row 53 5 (x.out.length + 1) (x.out.flatMap opC ++ [.int .i64 p.code, .int .i64 p.d, .int .i64 p.a, .int .i64 p.b, .int .u32 p.n]), .cells 53 [.v (.int .i64 p.code), .v (.int .i64 p.d), .v (.int .i64 p.a), .v (.int .i64 p.b), .v (.int .u32 p.n)]], ent_drop (And.intro (rfl) (And.intro (rfl) (And.intro (rfl) (And.intro (rfl) (And.intro (rfl) (And.intro (rfl) (And.intro (rfl) (And.intro (rfl) (And.intro (rfl) (And.intro (rfl) trivial)))))))))) (And.intro ((And.intro rfl (Or.inl rfl))) (And.intro ((And.intro rfl (Or.inl rfl))) (And.intro (obj_le_wf y.h (Nat.le_refl _) (fun k hk => (filt_end (hno k hk)).trans (rfl))) (And.intro ((And.intro rfl (Or.inl rfl))) (And.intro ((And.intro rfl (And.intro rfl (And.intro (rfl) (rfl))))) (And.intro ((And.intro rfl (Or.inl rfl))) trivial)))))) rfl rfl, ?_⟩
              conv => whnf
              refine ⟨fun h2 => ?_, fun h2 => ?_⟩
              · conv => whnf
                refine op_mapUpdate rfl Try.underlying64 i64Elems 2 (writes p) p.a rfl rfl rfl rfl (by omega) (wf_mid (writes_mid hpok)) hpok.a rfl ?_
                conv => whnf
                refine ⟨(x.k : Int) + 1, wr64 (by omega), ?_⟩
                conv => whnf
                refine ⟨⟨x.k + 1, copyUpd g p, x.out ++ [p], by omega, midF_upd hgm hpok, by simp; omega, by rw [heq, hat, if_neg (Bool.eq_false_iff.1 (show copySkip p = false from hs))]; simp⟩, ent_drop (And.intro (rfl) (And.intro (rfl) (And.intro (rfl) (And.intro (rfl) (And.intro (rfl) (And.intro (rfl) (And.intro (rfl) (And.intro (num_succ x.k) trivial)))))))) (And.intro ((And.intro rfl (Or.inl rfl))) (And.intro ((And.intro rfl (Or.inl rfl))) (And.intro (imap_le (Nat.le_refl _) (copyUpd_move hd' h2)) (And.intro ((And.intro rfl (Or.inl rfl))) (And.intro ((And.intro rfl (And.intro rfl (And.intro (by simp) (by simp [opC]))))) trivial))))) rfl rfl, by dsimp only; omega⟩
              · conv => whnf
                refine ⟨(x.k : Int) + 1, wr64 (by omega), ?_⟩
                conv => whnf
                refine ⟨⟨x.k + 1, copyUpd g p, x.out ++ [p], by omega, midF_upd hgm hpok, by simp; omega, by rw [heq, hat, if_neg (Bool.eq_false_iff.1 (show copySkip p = false from hs))]; simp⟩, ent_drop (And.intro (rfl) (And.intro (rfl) (And.intro (rfl) (And.intro (rfl) (And.intro (rfl) (And.intro (rfl) (And.intro (rfl) (And.intro (num_succ x.k) trivial)))))))) (And.intro ((And.intro rfl (Or.inl rfl))) (And.intro ((And.intro rfl (Or.inl rfl))) (And.intro (imap_le (Nat.le_succ _) (copyUpd_other hd' h2)) (And.intro ((And.intro rfl (Or.inl rfl))) (And.intro ((And.intro rfl (And.intro rfl (And.intro (by simp) (by simp [opC]))))) trivial))))) rfl rfl, by dsimp only; omega⟩
            · conv => whnf
              refine ⟨fun _ => ?_, nofun⟩
              conv => whnf
              refine op_entry rfl 2 8 b' q y.M I' x' (.int .i64 c) rfl rfl rfl rfl hent ?_
              conv => whnf
              refine ⟨fun hge => ?_, fun hge => ?_⟩
              · conv => whnf
                refine op_delete_in rfl Try.underlying64 2 8 b' q y.M I' _ cnt' x' rfl rfl rfl hrg' rfl hwf rfl (fun M' cnt2 hle hrg2 => ?_)
                conv => whnf
                exact ⟨⟨M', I', _, cnt2, hrg2.is (fun k _ => filt_drop hcx hlx (by simpa using hge) k)⟩, ent_same rfl (And.intro (rfl) (And.intro (rfl) (And.intro (rfl) (And.intro (rfl) (And.intro (rfl) (And.intro (rfl) (And.intro (rfl) (And.intro (rfl) (And.intro (rfl) (And.intro (rfl) (And.intro (rfl) trivial))))))))))) (And.intro ((And.intro rfl (Or.inl rfl))) (And.intro ((And.intro rfl (Or.inl rfl))) (And.intro ((fun _ _ h => h)) (And.intro ((And.intro rfl (Or.inl rfl))) (And.intro ((And.intro rfl (And.intro rfl (And.intro (rfl) (rfl))))) (And.intro ((And.intro rfl (Or.inl rfl))) (And.intro (trivial) (And.intro (trivial) (And.intro ((fun _ _ h => h)) trivial))))))))), by dsimp only; omega⟩
              · conv => whnf
                exact ⟨⟨y.M, I', _, cnt', hrg'.is (fun k _ => filt_keep hcx hlx (by simpa using hge) k)⟩, ent_same rfl (And.intro (rfl) (And.intro (rfl) (And.intro (rfl) (And.intro (rfl) (And.intro (rfl) (And.intro (rfl) (And.intro (rfl) (And.intro (rfl) (And.intro (rfl) (And.intro (rfl) (And.intro (rfl) trivial))))))))))) (And.intro ((And.intro rfl (Or.inl rfl))) (And.intro ((And.intro rfl (Or.inl rfl))) (And.intro ((fun _ _ h => h)) (And.intro ((And.intro rfl (Or.inl rfl))) (And.intro ((And.intro rfl (And.intro rfl (And.intro (rfl) (rfl))))) (And.intro ((And.intro rfl (Or.inl rfl))) (And.intro (trivial) (And.intro (trivial) (And.intro ((fun _ _ h => h)) trivial))))))))), by dsimp only; omega⟩
        · conv => whnf
          refine ⟨fun _ => ?_, nofun⟩
          conv => whnf
          refine op_entry rfl 2 6 b' q y.M I' x' (.int .i64 c) rfl rfl rfl rfl hent ?_
          conv => whnf
          refine ⟨fun hge => ?_, fun hge => ?_⟩
          · conv => whnf
            refine op_delete_in rfl Try.underlying64 2 6 b' q y.M I' _ cnt' x' rfl rfl rfl hrg' rfl hwf rfl (fun M' cnt2 hle hrg2 => ?_)
            conv => whnf
            exact ⟨⟨M', I', _, cnt2, hrg2.is (fun k _ => filt_drop hcx hlx (by simpa using hge) k)⟩, ent_same rfl (And.intro (rfl) (And.intro (rfl) (And.intro (rfl) (And.intro (rfl) (And.intro (rfl) (And.intro (rfl) (And.intro (rfl) (And.intro (rfl) (And.intro (rfl) (And.intro (rfl) trivial)))))))))) (And.intro ((And.intro rfl (Or.inl rfl))) (And.intro ((And.intro rfl (Or.inl rfl))) (And.intro ((fun _ _ h => h)) (And.intro ((And.intro rfl (Or.inl rfl))) (And.intro ((And.intro rfl (And.intro rfl (And.intro (rfl) (rfl))))) (And.intro ((And.intro rfl (Or.inl rfl))) (And.intro ((fun _ _ h => h)) trivial))))))), by dsimp only; omega⟩
          · conv => whnf
            exact ⟨⟨y.M, I', _, cnt', hrg'.is (fun k _ => filt_keep hcx hlx (by simpa using hge) k)⟩, ent_same rfl (And.intro (rfl) (And.intro (rfl) (And.intro (rfl) (And.intro (rfl) (And.intro (rfl) (And.intro (rfl) (And.intro (rfl) (And.intro (rfl) (And.intro (rfl) (And.intro (rfl) trivial)))))))))) (And.intro ((And.intro rfl (Or.inl rfl))) (And.intro ((And.intro rfl (Or.inl rfl))) (And.intro ((fun _ _ h => h)) (And.intro ((And.intro rfl (Or.inl rfl))) (And.intro ((And.intro rfl (And.intro rfl (And.intro (rfl) (rfl))))) (And.intro ((And.intro rfl (Or.inl rfl))) (And.intro ((fun _ _ h => h)) trivial))))))), by dsimp only; omega⟩
      · rw [show x.f = g by rw [hg]; unfold copyMark; rw [if_neg (Bool.eq_false_iff.1 hm)]]
        conv => whnf
        refine call_row rfl (by kernel_rfl) (fun r w' hR => reads_ir o w') ?_
        conv => whnf
        refine sat_tail 14 mixed (by kernel_rfl) ?_
        conv => whnf
        refine callq_contains 6 rfl rfl (by have := reads_len o; omega) ?_
        conv => whnf
        refine ⟨fun hin => ?_, fun hin => ?_⟩
        · obtain ⟨p, hp⟩ : ∃ p, p = copyOp g o := ⟨_, rfl⟩
          have hpa : origS g (o.code != 20) o.a = p.a := by rw [hp]; unfold copyOp; rw [hin]; simp
          have hpb : origS g (twoB o.code) o.b = p.b := by rw [hp]; rfl
          have hpc : o.code = p.code := by rw [hp]; rfl
          have hpd : o.d = p.d := by rw [hp]; rfl
          have hpn : o.n = p.n := by rw [hp]; rfl
          have hpok : p.ok := by rw [hp]; exact copyOp_ok hgm ho
          conv => whnf
          (refine ⟨fun _ => ?_, (fun h => absurd h (by decide))⟩; (conv => whnf))
          (refine ⟨fun _ => ?_, (fun h => absurd h (by decide))⟩; (conv => whnf))
          refine callq_orig (t := 64) (n := x.k) (s := g) 3 2 ?_ ?_ ho.a hpa ?_
          · rfl
          · rfl
          conv => whnf
          refine sat_tail 8 mixed (by kernel_rfl) ?_
          conv => whnf
          refine q_same rfl (by kernel_rfl) (fun r w' _ => two_any _ w') ?_
          conv => whnf
          refine callq_orig (t := 64) (n := x.k) (s := g) 3 2 ?_ ?_ ho.b hpb ?_
          · rfl
          · rfl
          rw [hpc, hpd, hpn]
          rw [← hp] at hat
          conv => whnf
          (apply Exists.intro; refine And.intro (fun h => ?_) ?_; (conv => whnf); exact ⟨rfl, rfl, rfl, rfl, rfl⟩; (conv => whnf))
          refine ⟨fun hs => ?_, fun hs => ?_⟩
          · conv => whnf
            refine ⟨(x.k : Int) + 1, wr64 (by omega), ?_⟩
            conv => whnf
            refine ⟨⟨x.k + 1, g, x.out, by omega, hgm, by omega, by rw [heq, hat, if_pos (show copySkip p = true from hs)]⟩, ent_drop (And.intro (rfl) (And.intro (rfl) (And.intro (rfl) (And.intro (rfl) (And.intro (rfl) (And.intro (rfl) (And.intro (rfl) (And.intro (num_succ x.k) trivial)))))))) (And.intro ((And.intro rfl (Or.inl rfl))) (And.intro ((And.intro rfl (Or.inl rfl))) (And.intro (imap_le (Nat.le_succ _) (fun _ => rfl)) (And.intro ((And.intro rfl (Or.inl rfl))) (And.intro ((And.intro rfl (And.intro rfl (And.intro (rfl) (rfl))))) trivial))))) rfl rfl, by dsimp only; omega⟩
          conv => whnf
          refine appK_sound rfl ?_ rfl
          conv => whnf
          refine ⟨by omega, ?_⟩
          conv => whnf
          refine call_con rfl (by kernel_rfl) (fun r w' _ => writes_ir p w') ?_
          conv => whnf
          refine ⟨fun hd => ?_, fun hd => ?_⟩
          · conv => whnf
            have hd' : writes p < 0 := by simpa using hd
            have hu : copyUpd g p = g := by unfold copyUpd; rw [if_pos hd']
            refine ⟨(x.k : Int) + 1, wr64 (by omega), ?_⟩
            conv => whnf
            refine ⟨⟨x.k + 1, g, x.out ++ [p], by omega, hgm, by simp; omega, by rw [heq, hat, if_neg (Bool.eq_false_iff.1 (show copySkip p = false from hs)), hu]; simp⟩, ent_drop (And.intro (rfl) (And.intro (rfl) (And.intro (rfl) (And.intro (rfl) (And.intro (rfl) (And.intro (rfl) (And.intro (rfl) (And.intro (num_succ x.k) trivial)))))))) (And.intro ((And.intro rfl (Or.inl rfl))) (And.intro ((And.intro rfl (Or.inl rfl))) (And.intro (imap_le (Nat.le_succ _) (fun _ => rfl)) (And.intro ((And.intro rfl (Or.inl rfl))) (And.intro ((And.intro rfl (And.intro rfl (And.intro (by simp) (by simp [opC]))))) trivial))))) rfl rfl, by dsimp only; omega⟩
          have hd' : ¬ writes p < 0 := by simpa using hd
          conv => whnf
          refine op_delete rfl Try.underlying64 2 (writes p) rfl rfl rfl (wf_mid (writes_mid hpok)) rfl ?_
          conv => whnf
          refine op_range rfl Try.underlying64 2 rfl rfl rfl (fun b' q M I left cnt hrg hleft => ?_)
          conv => whnf
          refine ⟨FiltSt b' q x.k (mdel g (writes p)) (fun w => !(w == writes p)), fun y => [(1, .p (.c (.ref 0 0))), (2, .p (.c (.ref 1 0))), (3, .p (.c (.ref 3 0))), (4, .p (.c (.clo (.func 42) [.ref 3 0]))), (5, .p (.c (.row 4))), (21, one (.slice (some ⟨bb, off, none⟩) b.ops.length c3)), (22, one (.int .i64 b.ops.length)), (23, one (.int .i64 x.k)), (7, .p (.c (.ref 5 0))), (88, .p (.c (.ref 8 0))), (11, one (.int .i64 (writes p)))], fun y => [.cells 32 [.v (.slice A1 b.at_.length c1), .v (.slice A2 b.pages.length c2), .v (.slice (some ⟨bb, off, none⟩) b.ops.length c3)], .cells 32 [.v (.slice none 0 0), .v (.slice none 0 0), .v (.slice none 0 0)], objOw b' y.M, .cells 64 [.mp 2], .row 53 5 (x.out.length + 1) (x.out.flatMap opC ++ [.int .i64 p.code, .int .i64 p.d, .int .i64 p.a, .int .i64 p.b, .int .u32 p.n]), .cells 53 [.v (.int .i64 p.code), .v (.int .i64 p.d), .v (.int .i64 p.a), .v (.int .i64 p.b), .v (.int .u32 p.n)], .gone, .gone, objOw q y.I], fun y => y.cnt, ⟨⟨M, I, left, cnt, hrg.is (fun k hk => filt_start _ (hleft k hk))⟩, ?_⟩, fun y => ?_⟩
          · exact ent_same rfl (And.intro (rfl) (And.intro (rfl) (And.intro (rfl) (And.intro (rfl) (And.intro (rfl) (And.intro (rfl) (And.intro (rfl) (And.intro (rfl) (And.intro (rfl) (And.intro (rfl) (And.intro (rfl) trivial))))))))))) (And.intro ((And.intro rfl (Or.inl rfl))) (And.intro ((And.intro rfl (Or.inl rfl))) (And.intro ((fun _ _ h => h)) (And.intro ((And.intro rfl (Or.inl rfl))) (And.intro ((And.intro rfl (And.intro rfl (And.intro (rfl) (rfl))))) (And.intro ((And.intro rfl (Or.inl rfl))) (And.intro (trivial) (And.intro (trivial) (And.intro ((fun _ _ h => h)) trivial)))))))))
          conv => whnf
          refine op_next_i64 rfl 2 8 b' q y.M y.I y.left y.cnt rfl rfl rfl y.h rfl (fun hno => ?_) (fun x' c I' cnt' hwf hlx hcx hlt' hrg' hent => ?_)
          · conv => whnf
            refine ⟨nofun, fun _ => ?_⟩
            conv => whnf
            refine ⟨[(1, .p (.c (.ref 0 0))), (2, .p (.c (.ref 1 0))), (3, .p (.c (.ref 3 0))), (4, .p (.c (.clo (.func 42) [.ref 3 0]))), (5, .p (.c (.row 4))), (21, one (.slice (some ⟨bb, off, none⟩) b.ops.length c3)), (22, one (.int .i64 b.ops.length)), (23, one (.int .i64 x.k)), (7, .p (.c (.ref 5 0))), (11, one (.int .i64 (writes p)))], [.cells 32 [.v (.slice A1 b.at_.length c1), .v (.slice A2 b.pages.length c2), .v (.slice (some ⟨bb, off, none⟩) b.ops.length c3)], .cells 32 [.v (.slice none 0 0), .v (.slice none 0 0), .v (.slice none 0 0)], mapOw i64R i64D x.k (copyKill g (writes p)), .cells 64 [.mp 2], .row 53 5 (x.out.length + 1) (x.out.flatMap opC ++ [.int .i64 p.code, .int .i64 p.d, .int .i64 p.a, .int .i64 p.b, .int .u32 p.n]), .cells 53 [.v (.int .i64 p.code), .v (.int .i64 p.d), .v (.int .i64 p.a), .v (.int .i64 p.b), .v (.int .u32 p.n)]], ent_drop (And.intro (rfl) (And.intro (rfl) (And.intro (rfl) (And.intro (rfl) (And.intro (rfl) (And.intro (rfl) (And.intro (rfl) (And.intro (rfl) (And.intro (rfl) (And.intro (rfl) trivial)))))))))) (And.intro ((And.intro rfl (Or.inl rfl))) (And.intro ((And.intro rfl (Or.inl rfl))) (And.intro (obj_le_wf y.h (Nat.le_refl _) (fun k hk => (filt_end (hno k hk)).trans (rfl))) (And.intro ((And.intro rfl (Or.inl rfl))) (And.intro ((And.intro rfl (And.intro rfl (And.intro (rfl) (rfl))))) (And.intro ((And.intro rfl (Or.inl rfl))) trivial)))))) rfl rfl, ?_⟩
            conv => whnf
            refine ⟨fun h2 => ?_, fun h2 => ?_⟩
            · conv => whnf
              refine op_mapUpdate rfl Try.underlying64 i64Elems 2 (writes p) p.a rfl rfl rfl rfl (by omega) (wf_mid (writes_mid hpok)) hpok.a rfl ?_
              conv => whnf
              refine ⟨(x.k : Int) + 1, wr64 (by omega), ?_⟩
              conv => whnf
              refine ⟨⟨x.k + 1, copyUpd g p, x.out ++ [p], by omega, midF_upd hgm hpok, by simp; omega, by rw [heq, hat, if_neg (Bool.eq_false_iff.1 (show copySkip p = false from hs))]; simp⟩, ent_drop (And.intro (rfl) (And.intro (rfl) (And.intro (rfl) (And.intro (rfl) (And.intro (rfl) (And.intro (rfl) (And.intro (rfl) (And.intro (num_succ x.k) trivial)))))))) (And.intro ((And.intro rfl (Or.inl rfl))) (And.intro ((And.intro rfl (Or.inl rfl))) (And.intro (imap_le (Nat.le_refl _) (copyUpd_move hd' h2)) (And.intro ((And.intro rfl (Or.inl rfl))) (And.intro ((And.intro rfl (And.intro rfl (And.intro (by simp) (by simp [opC]))))) trivial))))) rfl rfl, by dsimp only; omega⟩
            · conv => whnf
              refine ⟨(x.k : Int) + 1, wr64 (by omega), ?_⟩
              conv => whnf
              refine ⟨⟨x.k + 1, copyUpd g p, x.out ++ [p], by omega, midF_upd hgm hpok, by simp; omega, by rw [heq, hat, if_neg (Bool.eq_false_iff.1 (show copySkip p = false from hs))]; simp⟩, ent_drop (And.intro (rfl) (And.intro (rfl) (And.intro (rfl) (And.intro (rfl) (And.intro (rfl) (And.intro (rfl) (And.intro (rfl) (And.intro (num_succ x.k) trivial)))))))) (And.intro ((And.intro rfl (Or.inl rfl))) (And.intro ((And.intro rfl (Or.inl rfl))) (And.intro (imap_le (Nat.le_succ _) (copyUpd_other hd' h2)) (And.intro ((And.intro rfl (Or.inl rfl))) (And.intro ((And.intro rfl (And.intro rfl (And.intro (by simp) (by simp [opC]))))) trivial))))) rfl rfl, by dsimp only; omega⟩
          · conv => whnf
            refine ⟨fun _ => ?_, nofun⟩
            conv => whnf
            refine op_entry rfl 2 8 b' q y.M I' x' (.int .i64 c) rfl rfl rfl rfl hent ?_
            conv => whnf
            refine ⟨fun hge => ?_, fun hge => ?_⟩
            · conv => whnf
              refine op_delete_in rfl Try.underlying64 2 8 b' q y.M I' _ cnt' x' rfl rfl rfl hrg' rfl hwf rfl (fun M' cnt2 hle hrg2 => ?_)
              conv => whnf
              exact ⟨⟨M', I', _, cnt2, hrg2.is (fun k _ => filt_drop hcx hlx (by simpa using hge) k)⟩, ent_same rfl (And.intro (rfl) (And.intro (rfl) (And.intro (rfl) (And.intro (rfl) (And.intro (rfl) (And.intro (rfl) (And.intro (rfl) (And.intro (rfl) (And.intro (rfl) (And.intro (rfl) (And.intro (rfl) trivial))))))))))) (And.intro ((And.intro rfl (Or.inl rfl))) (And.intro ((And.intro rfl (Or.inl rfl))) (And.intro ((fun _ _ h => h)) (And.intro ((And.intro rfl (Or.inl rfl))) (And.intro ((And.intro rfl (And.intro rfl (And.intro (rfl) (rfl))))) (And.intro ((And.intro rfl (Or.inl rfl))) (And.intro (trivial) (And.intro (trivial) (And.intro ((fun _ _ h => h)) trivial))))))))), by dsimp only; omega⟩
            · conv => whnf
              exact ⟨⟨y.M, I', _, cnt', hrg'.is (fun k _ => filt_keep hcx hlx (by simpa using hge) k)⟩, ent_same rfl (And.intro (rfl) (And.intro (rfl) (And.intro (rfl) (And.intro (rfl) (And.intro (rfl) (And.intro (rfl) (And.intro (rfl) (And.intro (rfl) (And.intro (rfl) (And.intro (rfl) (And.intro (rfl) trivial))))))))))) (And.intro ((And.intro rfl (Or.inl rfl))) (And.intro ((And.intro rfl (Or.inl rfl))) (And.intro ((fun _ _ h => h)) (And.intro ((And.intro rfl (Or.inl rfl))) (And.intro ((And.intro rfl (And.intro rfl (And.intro (rfl) (rfl))))) (And.intro ((And.intro rfl (Or.inl rfl))) (And.intro (trivial) (And.intro (trivial) (And.intro ((fun _ _ h => h)) trivial))))))))), by dsimp only; omega⟩
        · obtain ⟨p, hp⟩ : ∃ p, p = copyOp g o := ⟨_, rfl⟩
          have hpa : origS g false o.a = p.a := by rw [hp]; unfold copyOp; rw [show memI o.a (reads o) = false from hin]; simp
          have hpb : origS g (twoB o.code) o.b = p.b := by rw [hp]; rfl
          have hpc : o.code = p.code := by rw [hp]; rfl
          have hpd : o.d = p.d := by rw [hp]; rfl
          have hpn : o.n = p.n := by rw [hp]; rfl
          have hpok : p.ok := by rw [hp]; exact copyOp_ok hgm ho
          conv => whnf
          (refine ⟨(fun h => absurd h (by decide)), fun _ => ?_⟩; (conv => whnf))
          (refine ⟨(fun h => absurd h (by decide)), fun _ => ?_⟩; (conv => whnf))
          refine callq_orig (t := 64) (n := x.k) (s := g) 3 2 ?_ ?_ ho.a hpa ?_
          · rfl
          · rfl
          conv => whnf
          refine sat_tail 8 mixed (by kernel_rfl) ?_
          conv => whnf
          refine q_same rfl (by kernel_rfl) (fun r w' _ => two_any _ w') ?_
          conv => whnf
          refine callq_orig (t := 64) (n := x.k) (s := g) 3 2 ?_ ?_ ho.b hpb ?_
          · rfl
          · rfl
          rw [hpc, hpd, hpn]
          rw [← hp] at hat
          conv => whnf
          (apply Exists.intro; refine And.intro (fun h => ?_) ?_; (conv => whnf); exact ⟨rfl, rfl, rfl, rfl, rfl⟩; (conv => whnf))
          refine ⟨fun hs => ?_, fun hs => ?_⟩
          · conv => whnf
            refine ⟨(x.k : Int) + 1, wr64 (by omega), ?_⟩
            conv => whnf
            refine ⟨⟨x.k + 1, g, x.out, by omega, hgm, by omega, by rw [heq, hat, if_pos (show copySkip p = true from hs)]⟩, ent_drop (And.intro (rfl) (And.intro (rfl) (And.intro (rfl) (And.intro (rfl) (And.intro (rfl) (And.intro (rfl) (And.intro (rfl) (And.intro (num_succ x.k) trivial)))))))) (And.intro ((And.intro rfl (Or.inl rfl))) (And.intro ((And.intro rfl (Or.inl rfl))) (And.intro (imap_le (Nat.le_succ _) (fun _ => rfl)) (And.intro ((And.intro rfl (Or.inl rfl))) (And.intro ((And.intro rfl (And.intro rfl (And.intro (rfl) (rfl))))) trivial))))) rfl rfl, by dsimp only; omega⟩
          conv => whnf
          refine appK_sound rfl ?_ rfl
          conv => whnf
          refine ⟨by omega, ?_⟩
          conv => whnf
          refine call_con rfl (by kernel_rfl) (fun r w' _ => writes_ir p w') ?_
          conv => whnf
          refine ⟨fun hd => ?_, fun hd => ?_⟩
          · conv => whnf
            have hd' : writes p < 0 := by simpa using hd
            have hu : copyUpd g p = g := by unfold copyUpd; rw [if_pos hd']
            refine ⟨(x.k : Int) + 1, wr64 (by omega), ?_⟩
            conv => whnf
            refine ⟨⟨x.k + 1, g, x.out ++ [p], by omega, hgm, by simp; omega, by rw [heq, hat, if_neg (Bool.eq_false_iff.1 (show copySkip p = false from hs)), hu]; simp⟩, ent_drop (And.intro (rfl) (And.intro (rfl) (And.intro (rfl) (And.intro (rfl) (And.intro (rfl) (And.intro (rfl) (And.intro (rfl) (And.intro (num_succ x.k) trivial)))))))) (And.intro ((And.intro rfl (Or.inl rfl))) (And.intro ((And.intro rfl (Or.inl rfl))) (And.intro (imap_le (Nat.le_succ _) (fun _ => rfl)) (And.intro ((And.intro rfl (Or.inl rfl))) (And.intro ((And.intro rfl (And.intro rfl (And.intro (by simp) (by simp [opC]))))) trivial))))) rfl rfl, by dsimp only; omega⟩
          have hd' : ¬ writes p < 0 := by simpa using hd
          conv => whnf
          refine op_delete rfl Try.underlying64 2 (writes p) rfl rfl rfl (wf_mid (writes_mid hpok)) rfl ?_
          conv => whnf
          refine op_range rfl Try.underlying64 2 rfl rfl rfl (fun b' q M I left cnt hrg hleft => ?_)
          conv => whnf
          refine ⟨FiltSt b' q x.k (mdel g (writes p)) (fun w => !(w == writes p)), fun y => [(1, .p (.c (.ref 0 0))), (2, .p (.c (.ref 1 0))), (3, .p (.c (.ref 3 0))), (4, .p (.c (.clo (.func 42) [.ref 3 0]))), (5, .p (.c (.row 4))), (21, one (.slice (some ⟨bb, off, none⟩) b.ops.length c3)), (22, one (.int .i64 b.ops.length)), (23, one (.int .i64 x.k)), (7, .p (.c (.ref 5 0))), (88, .p (.c (.ref 8 0))), (11, one (.int .i64 (writes p)))], fun y => [.cells 32 [.v (.slice A1 b.at_.length c1), .v (.slice A2 b.pages.length c2), .v (.slice (some ⟨bb, off, none⟩) b.ops.length c3)], .cells 32 [.v (.slice none 0 0), .v (.slice none 0 0), .v (.slice none 0 0)], objOw b' y.M, .cells 64 [.mp 2], .row 53 5 (x.out.length + 1) (x.out.flatMap opC ++ [.int .i64 p.code, .int .i64 p.d, .int .i64 p.a, .int .i64 p.b, .int .u32 p.n]), .cells 53 [.v (.int .i64 p.code), .v (.int .i64 p.d), .v (.int .i64 p.a), .v (.int .i64 p.b), .v (.int .u32 p.n)], .gone, .gone, objOw q y.I], fun y => y.cnt, ⟨⟨M, I, left, cnt, hrg.is (fun k hk => filt_start _ (hleft k hk))⟩, ?_⟩, fun y => ?_⟩
          · exact ent_same rfl (And.intro (rfl) (And.intro (rfl) (And.intro (rfl) (And.intro (rfl) (And.intro (rfl) (And.intro (rfl) (And.intro (rfl) (And.intro (rfl) (And.intro (rfl) (And.intro (rfl) (And.intro (rfl) trivial))))))))))) (And.intro ((And.intro rfl (Or.inl rfl))) (And.intro ((And.intro rfl (Or.inl rfl))) (And.intro ((fun _ _ h => h)) (And.intro ((And.intro rfl (Or.inl rfl))) (And.intro ((And.intro rfl (And.intro rfl (And.intro (rfl) (rfl))))) (And.intro ((And.intro rfl (Or.inl rfl))) (And.intro (trivial) (And.intro (trivial) (And.intro ((fun _ _ h => h)) trivial)))))))))
          conv => whnf
          refine op_next_i64 rfl 2 8 b' q y.M y.I y.left y.cnt rfl rfl rfl y.h rfl (fun hno => ?_) (fun x' c I' cnt' hwf hlx hcx hlt' hrg' hent => ?_)
          · conv => whnf
            refine ⟨nofun, fun _ => ?_⟩
            conv => whnf
            refine ⟨[(1, .p (.c (.ref 0 0))), (2, .p (.c (.ref 1 0))), (3, .p (.c (.ref 3 0))), (4, .p (.c (.clo (.func 42) [.ref 3 0]))), (5, .p (.c (.row 4))), (21, one (.slice (some ⟨bb, off, none⟩) b.ops.length c3)), (22, one (.int .i64 b.ops.length)), (23, one (.int .i64 x.k)), (7, .p (.c (.ref 5 0))), (11, one (.int .i64 (writes p)))], [.cells 32 [.v (.slice A1 b.at_.length c1), .v (.slice A2 b.pages.length c2), .v (.slice (some ⟨bb, off, none⟩) b.ops.length c3)], .cells 32 [.v (.slice none 0 0), .v (.slice none 0 0), .v (.slice none 0 0)], mapOw i64R i64D x.k (copyKill g (writes p)), .cells 64 [.mp 2], .row 53 5 (x.out.length + 1) (x.out.flatMap opC ++ [.int .i64 p.code, .int .i64 p.d, .int .i64 p.a, .int .i64 p.b, .int .u32 p.n]), .cells 53 [.v (.int .i64 p.code), .v (.int .i64 p.d), .v (.int .i64 p.a), .v (.int .i64 p.b), .v (.int .u32 p.n)]], ent_drop (And.intro (rfl) (And.intro (rfl) (And.intro (rfl) (And.intro (rfl) (And.intro (rfl) (And.intro (rfl) (And.intro (rfl) (And.intro (rfl) (And.intro (rfl) (And.intro (rfl) trivial)))))))))) (And.intro ((And.intro rfl (Or.inl rfl))) (And.intro ((And.intro rfl (Or.inl rfl))) (And.intro (obj_le_wf y.h (Nat.le_refl _) (fun k hk => (filt_end (hno k hk)).trans (rfl))) (And.intro ((And.intro rfl (Or.inl rfl))) (And.intro ((And.intro rfl (And.intro rfl (And.intro (rfl) (rfl))))) (And.intro ((And.intro rfl (Or.inl rfl))) trivial)))))) rfl rfl, ?_⟩
            conv => whnf
            refine ⟨fun h2 => ?_, fun h2 => ?_⟩
            · conv => whnf
              refine op_mapUpdate rfl Try.underlying64 i64Elems 2 (writes p) p.a rfl rfl rfl rfl (by omega) (wf_mid (writes_mid hpok)) hpok.a rfl ?_
              conv => whnf
              refine ⟨(x.k : Int) + 1, wr64 (by omega), ?_⟩
              conv => whnf
              refine ⟨⟨x.k + 1, copyUpd g p, x.out ++ [p], by omega, midF_upd hgm hpok, by simp; omega, by rw [heq, hat, if_neg (Bool.eq_false_iff.1 (show copySkip p = false from hs))]; simp⟩, ent_drop (And.intro (rfl) (And.intro (rfl) (And.intro (rfl) (And.intro (rfl) (And.intro (rfl) (And.intro (rfl) (And.intro (rfl) (And.intro (num_succ x.k) trivial)))))))) (And.intro ((And.intro rfl (Or.inl rfl))) (And.intro ((And.intro rfl (Or.inl rfl))) (And.intro (imap_le (Nat.le_refl _) (copyUpd_move hd' h2)) (And.intro ((And.intro rfl (Or.inl rfl))) (And.intro ((And.intro rfl (And.intro rfl (And.intro (by simp) (by simp [opC]))))) trivial))))) rfl rfl, by dsimp only; omega⟩
            · conv => whnf
              refine ⟨(x.k : Int) + 1, wr64 (by omega), ?_⟩
              conv => whnf
              refine ⟨⟨x.k + 1, copyUpd g p, x.out ++ [p], by omega, midF_upd hgm hpok, by simp; omega, by rw [heq, hat, if_neg (Bool.eq_false_iff.1 (show copySkip p = false from hs))]; simp⟩, ent_drop (And.intro (rfl) (And.intro (rfl) (And.intro (rfl) (And.intro (rfl) (And.intro (rfl) (And.intro (rfl) (And.intro (rfl) (And.intro (num_succ x.k) trivial)))))))) (And.intro ((And.intro rfl (Or.inl rfl))) (And.intro ((And.intro rfl (Or.inl rfl))) (And.intro (imap_le (Nat.le_succ _) (copyUpd_other hd' h2)) (And.intro ((And.intro rfl (Or.inl rfl))) (And.intro ((And.intro rfl (And.intro rfl (And.intro (by simp) (by simp [opC]))))) trivial))))) rfl rfl, by dsimp only; omega⟩
          · conv => whnf
            refine ⟨fun _ => ?_, nofun⟩
            conv => whnf
            refine op_entry rfl 2 8 b' q y.M I' x' (.int .i64 c) rfl rfl rfl rfl hent ?_
            conv => whnf
            refine ⟨fun hge => ?_, fun hge => ?_⟩
            · conv => whnf
              refine op_delete_in rfl Try.underlying64 2 8 b' q y.M I' _ cnt' x' rfl rfl rfl hrg' rfl hwf rfl (fun M' cnt2 hle hrg2 => ?_)
              conv => whnf
              exact ⟨⟨M', I', _, cnt2, hrg2.is (fun k _ => filt_drop hcx hlx (by simpa using hge) k)⟩, ent_same rfl (And.intro (rfl) (And.intro (rfl) (And.intro (rfl) (And.intro (rfl) (And.intro (rfl) (And.intro (rfl) (And.intro (rfl) (And.intro (rfl) (And.intro (rfl) (And.intro (rfl) (And.intro (rfl) trivial))))))))))) (And.intro ((And.intro rfl (Or.inl rfl))) (And.intro ((And.intro rfl (Or.inl rfl))) (And.intro ((fun _ _ h => h)) (And.intro ((And.intro rfl (Or.inl rfl))) (And.intro ((And.intro rfl (And.intro rfl (And.intro (rfl) (rfl))))) (And.intro ((And.intro rfl (Or.inl rfl))) (And.intro (trivial) (And.intro (trivial) (And.intro ((fun _ _ h => h)) trivial))))))))), by dsimp only; omega⟩
            · conv => whnf
              exact ⟨⟨y.M, I', _, cnt', hrg'.is (fun k _ => filt_keep hcx hlx (by simpa using hge) k)⟩, ent_same rfl (And.intro (rfl) (And.intro (rfl) (And.intro (rfl) (And.intro (rfl) (And.intro (rfl) (And.intro (rfl) (And.intro (rfl) (And.intro (rfl) (And.intro (rfl) (And.intro (rfl) (And.intro (rfl) trivial))))))))))) (And.intro ((And.intro rfl (Or.inl rfl))) (And.intro ((And.intro rfl (Or.inl rfl))) (And.intro ((fun _ _ h => h)) (And.intro ((And.intro rfl (Or.inl rfl))) (And.intro ((And.intro rfl (And.intro rfl (And.intro (rfl) (rfl))))) (And.intro ((And.intro rfl (Or.inl rfl))) (And.intro (trivial) (And.intro (trivial) (And.intro ((fun _ _ h => h)) trivial))))))))), by dsimp only; omega⟩
    · conv => whnf
      refine ⟨_, _, ent_refl, ?_⟩
      conv => whnf
      refine call_with 4 rfl ?_
      conv => whnf
      refine fin_block rfl rfl rfl fun w' A c e1 e2 e3 e4 e5 => ?_
      have he : copyAll b = x.out := by rw [hF, heq, List.drop_eq_nil_of_le (by have := of_decide_eq_false hc; omega)]; simp [copyRun]
      exact ⟨A, c, by rw [he], by rw [he]; exact e1, by rw [he]; exact e2, e3, .inl e4, e5⟩
end Go.Proofs.Ytmjfgnnefcimiaa
namespace Go.Proofs
open Go.Shelf Go.Lib
shelf_lay_g SlLaysE0.n35 Slgn 35 at Try 50 as Try.reverseOp
end Go.Proofs
namespace Go.Proofs.Ytmjfgnnefcimiaa
open Go.RowKit

theorem ops_get : ∀ {l : List BOp} {t : Nat}, t < l.length * 5 → (l.flatMap opC)[t]? = some ((opC l[t / 5]!)[t % 5]!)
  | [], t, h => by simp at h
  | x :: l, t, h => by
    rw [List.flatMap_cons]
    rcases Nat.lt_or_ge t 5 with h1 | h1
    · rw [List.getElem?_append_left (by simpa [opC] using h1), Nat.div_eq_of_lt h1, Nat.mod_eq_of_lt h1]
      have : t < (opC x).length := by simpa [opC] using h1
      rw [List.getElem?_eq_getElem this]
      simp [this]
    · obtain ⟨s, rfl⟩ : ∃ s, t = s + 5 := ⟨t - 5, by omega⟩
      rw [List.getElem?_append_right (by simp [opC])]
      have := ops_get (l := l) (t := s) (by simp at h; omega)
      rw [show s + 5 - (opC x).length = s by simp [opC], this, show (s + 5) / 5 = s / 5 + 1 by omega, show (s + 5) % 5 = s % 5 by omega]
      simp
theorem flatK_ops (l : List BOp) : Sort.flatK opC 5 l.toArray = (l.flatMap opC).toArray := by
  refine Array.ext (by simp only [Sort.size_flatK, List.size_toArray, ops_length]) fun t h1 h2 => ?_
  have h1 : t < l.length * 5 := by simpa using h1
  have e := ops_get h1
  rw [← getElem!_pos, Sort.get_flatK _ _ _ _ (by simpa using h1)]
  have h2' : t < (l.flatMap opC).length := by rw [ops_length]; exact h1
  rw [List.getElem?_eq_getElem h2'] at e
  injection e with e
  simp only [List.getElem_toArray]
  rw [e]
  simp
theorem opC_one {x : BOp} : ∀ v ∈ opC x, v.oneCell' = true := by
  intro v hv
  simp only [opC, List.mem_cons, List.not_mem_nil, or_false] at hv
  rcases hv with rfl | rfl | rfl | rfl | rfl <;> rfl
theorem putRow_block {w : World} {g : Nat} {cur : Array Value} {e : TypeId} {F : Array Value} (h : w.heap[g]? = some (.cells cur e (0, 0))) (hF : F.size ≤ cur.size) : ∃ cur' : Array Value, (Sort.putRow id w g 0 F).heap[g]? = some (.cells cur' e (0, 0)) ∧ cur'.size = cur.size ∧ cur'.toList.take F.size = F.toList := by
  refine ⟨Sort.putCells id 0 F cur, by simp [Sort.putRow, Sort.mapBlock, Array.getElem?_modify, h, Sort.onCells], by simp [Sort.putCells], ?_⟩
  refine List.ext_getElem? fun i => ?_
  rw [List.getElem?_take]
  split
  · rename_i hi
    simp only [Sort.putCells, Array.getElem?_toList, Array.getElem?_mapIdx]
    rw [Array.getElem?_eq_getElem (by omega), Array.getElem?_eq_getElem hi]
    simp [hi]
  · rename_i hi
    rw [List.getElem?_eq_none (by simp; omega)]
theorem reverse_row (l : List BOp) (hl : l.length ≤ 1000000) (base : Nat) (v : Value) (w : World) (h : w.ownsRow base 53 5 v l.length (l.flatMap opC)) :
    Calls Try.prog 50 #[v] w fun e w' => e = .returned (.tuple #[]) ∧ w'.ownsRow base 53 5 v l.length (l.reverse.flatMap opC) ∧ w.grownBy w' v.ownBlock := by
  obtain ⟨h1, h2⟩ := h
  rcases h2 with ⟨rfl, h0⟩ | ⟨g, cap, cur, rfl, hg, hh, hn, hcap, hsz, htake⟩
  · have hl0 : l = [] := List.eq_nil_of_length_eq_zero h0
    subst hl0
    refine (AnyQ.slices_Reverse_empty Try.reverseOp none 0 w).mono fun e w' ⟨h3, h4⟩ => ⟨h3, ?_, ?_⟩
    · exact ⟨rfl, .inl ⟨rfl, rfl⟩⟩
    · rw [h4]; exact World.grownBy.refl _ _
  · have hH : Sort.HoldsK opC 5 w g 0 l.toArray := by
      unfold Sort.HoldsK
      rw [flatK_ops]
      intro j hj
      have hj : j < (l.flatMap opC).length := by simpa using hj
      refine ⟨?_, by simp [World.frozen?, hh]⟩
      have hjc : (l.flatMap opC)[j]? = cur[j]? := by
        rw [← htake, List.getElem?_take, if_pos (by rw [h1] at hj; exact hj)]; simp
      simp only [World.cell?, Nat.zero_add, hh]
      rw [← hjc]
      simp [List.getElem?_eq_getElem hj]
    refine (AnyQ.slices_Reverse Try.reverseOp 5 (fun w => by kernel_rfl) (fun w => by kernel_rfl) opC (fun x => rfl) (fun x => opC_one) g 0 cap l.toArray w hH (by simp; omega)).mono fun e w' ⟨h3, q, h4⟩ => ⟨h3, ?_, ?_⟩
    · obtain ⟨cur', k1, k2, k3⟩ := putRow_block (w := Sort.ahead w q) (F := (l.reverse.flatMap opC).toArray) hh (by
        have : (l.reverse.flatMap opC).toArray.size = l.length * 5 := by simp only [List.size_toArray, ops_length, List.length_reverse]
        rw [this, hsz]; exact Nat.mul_le_mul_right 5 hn)
      have e : w' = Sort.putRow id (Sort.ahead w q) g 0 (l.reverse.flatMap opC).toArray := by
        rw [h4]; unfold Sort.putRowK; rw [← flatK_ops]; simp
      refine ⟨by rw [ops_length, List.length_reverse], .inr ⟨g, cap, cur', rfl, hg, by rw [e]; exact k1, hn, hcap, k2.trans hsz, ?_⟩⟩
      have : (l.reverse.flatMap opC).toArray.size = l.length * 5 := by simp only [List.size_toArray, ops_length, List.length_reverse]
      rw [← this]; simpa using k3
    · rw [h4]
      refine ⟨rfl, rfl, rfl, by simp [Sort.putRowK, Sort.ahead], fun k hk hne => ?_⟩
      have hne : g ≠ k := fun e => hne (by rw [e]; rfl)
      simp [Sort.putRowK, Sort.putRow, Sort.mapBlock, Array.getElem?_modify, hne, Sort.ahead]
theorem call_reverse {w0 : World} {G : Gs} {S : List Ow} {K : AV → List Ow → Prop} {l : List BOp} (i : Nat) (hi : S[i]? = some (.row 53 5 l.length (l.flatMap opC))) (hl : l.length ≤ 1000000)
    (hK : K (.tup []) (S.set i (.row 53 5 l.length (l.reverse.flatMap opC)))) : CallS Try.prog w0 G 50 [.p (.c (.row i))] S K := by
  refine ⟨by kernel_rfl, fun r w us hR hd => ?_⟩
  obtain ⟨u1, l1, rfl, d1, d2⟩ := hd
  obtain rfl : l1 = [] := d2
  obtain ⟨v, e1, e2, e3⟩ := hR.own i _ hi
  have d1 := den_row d1
  rw [e1] at d1; injection d1 with d1; subst d1
  refine (reverse_row l hl 0 v w e3).mono fun e w' ⟨he, ho, hg⟩ => ?_
  rw [e2] at hg
  cases hb : r.blk i with
  | none =>
    rw [hb] at hg
    have hB : Below w.heap.size w w' := ⟨hg.os, hg.tape, hg.output, hg.size, fun k hk => hg.block k hk (by simp)⟩
    have hR2 := hR.below hB
    refine ⟨.tup [], _, _, r, he, ⟨_, rfl, rfl⟩, rel_setSame (o := .row 53 5 l.length (l.reverse.flatMap opC)) hR2 ⟨v, e1, e2, ho⟩, Env.le.refl r, hK⟩
  | some b =>
    rw [hb] at hg
    exact ⟨.tup [], _, _, r, he, ⟨_, rfl, rfl⟩, hR.setBlock (o := .row 53 5 l.length (l.reverse.flatMap opC)) hb hg ⟨v, e1, e2, ho⟩ (hR.lt_of_blk hb), Env.le.refl r, hK⟩
end Go.Proofs.Ytmjfgnnefcimiaa
namespace Go.Proofs.Ytmjfgnnefcimiaa
open Go.RowKit

theorem ent_nilrow (i : Nat) {f f' : Fr} {S : List Ow} {t e : TypeId} {size : Nat} (hi : S[i]? = some (.cells t [.v (.slice none 0 0)])) (hf : FLe f f') : EntB f S f' (S.set i (.cells t [.row S.length]) ++ [.row e size 0 []]) := by
  refine ⟨fun w0 w r a hR hf1 => ?_⟩
  obtain ⟨b, us, h1, h2, h3⟩ := hR.own i _ hi
  obtain rfl := denL_vals_inv (us := [.slice none 0 0]) h3
  have hle := hR.le_new none (some (.slice none 0 0))
  have hil := hR.lt_of_blk h1
  have hR2 := hR.snoc (o := .row e size 0 []) (Below.refl _ _) (b := none) (v := some (.slice none 0 0)) nofun ⟨.slice none 0 0, by simp [Env.set], by simp [Env.set, Value.ownBlock], by simp, .inl ⟨rfl, rfl⟩⟩
  refine ⟨r.set S.length none (some (.slice none 0 0)), ?_, hf.den (hf1.mono hle), fun j b hb => ?_⟩
  · have := rel_setSame hR2 (i := i) (o := .cells t [.row S.length]) ⟨b, [.slice none 0 0], hle.blk _ _ h1, h2, by simp only [denL, CV.den]; exact ⟨_, _, rfl, by simp [Env.set], rfl⟩⟩
    rwa [List.set_append_left _ _ hil] at this
  · simp only [Env.set] at hb
    split at hb
    · cases hb
    · exact ⟨j, hb⟩
theorem ops_lt {w : World} {b off : Nat} {l : List BOp} (h : OpsAt w w.heap.size (some ⟨b, off, none⟩) l) (hl : 0 < l.length) : b < w.heap.size := by
  obtain ⟨o, ho⟩ : ∃ o, l[0]? = some o := ⟨_, List.getElem?_eq_getElem hl⟩
  exact (cells_op (G := Gs.nil) h (by simp) ho).1
theorem pure_d {o : BOp} (hf : formedB o = true) (hp : pureB o = true) : 0 ≤ o.d ∧ o.d < 28 := by
  have h1 := writes_var hf
  unfold pureB at hp
  simp only [Bool.and_eq_true, decide_eq_true_eq] at hp
  have h2 := hp.1
  unfold writes at h1 h2
  split at h1
  · rename_i hd; rw [if_pos hd] at h2; exact ⟨h2, h1⟩
  · rename_i hd; rw [if_neg hd] at h2; omega
def opsOf {l : List BOp} (pre : List (Elt l)) : List BOp := pre.map fun x => x.1.2
theorem opsOf_formed {l : List BOp} (h : ∀ o ∈ l, formedB o = true) (pre : List (Elt l)) : ∀ o ∈ opsOf pre, formedB o = true := fun o ho => by
  obtain ⟨x, _, rfl⟩ := List.mem_map.1 ho
  exact h _ (List.mem_of_getElem? x.2)
theorem opsOf_all {l : List BOp} {xs : List (Elt l)} (h : AllDown xs) : opsOf xs = l.reverse := by
  refine ops_of_places (ps := xs.map fun x => x.1.1) (by simp [opsOf]) (fun i j o hj ho => ?_) (by rw [h]; simp [downTo])
  simp only [opsOf, List.getElem?_map] at hj ho
  cases hx : xs[i]? with
  | none => rw [hx] at hj; cases hj
  | some x =>
    rw [hx] at hj ho
    simp only [Option.map_some] at hj ho
    injection hj with hj; injection ho with ho
    subst hj; subst ho
    exact x.2
theorem opsOf_snoc {l : List BOp} (pre : List (Elt l)) (x : Elt l) : opsOf (pre ++ [x]) = opsOf pre ++ [x.1.2] := by simp [opsOf]
set_option maxRecDepth 100000 in
theorem dead_pass : Pass Try.prog 19 deadAll := by
  intro b A1 A2 A3 c1 c2 c3 w hb h1 h2 h3 hc3 hm3
  refine calls_satq [.agg #[.slice A1 b.at_.length c1, .slice A2 b.pages.length c2, .slice A3 b.ops.length c3]] Try.func19 Try.ntmps19 rfl (by simp) ?_
  refine satq_seq ?_
  conv => whnf
  refine satq_seq ?_
  conv => whnf
  refine call_con rfl (by kernel_rfl) (fun r w' hR => valid_ir A1 A2 A3 c1 c2 c3 b w' hb (sl_later h2 hR.toBelow) (sl_later h3 hR.toBelow)) ?_
  conv => whnf
  refine ⟨fun hn => ?_, fun hn => ?_⟩
  · have hv : validB b = false := by simpa using hn
    have hF : deadAll b = b.ops := by unfold deadAll; rw [hv]; rfl
    conv => whnf
    refine atq_ret ?_
    conv => whnf
    refine fin_val rfl fun w' hB => ⟨A3, c3, by rw [hF], by rw [hF]; exact sl_later h3 hB, by rw [hF]; exact hc3, hm3, .inr rfl, hB⟩
  have hv : validB b = true := by simpa using hn
  have hF : deadAll b = (deadRun b.ops.reverse).out.reverse := by unfold deadAll; rw [hv]; rfl
  obtain ⟨hpos, hmax⟩ := valid_pos hv
  obtain ⟨bb, off, rfl⟩ := ops_addr h3 hpos
  have hform := valid_formed hv
  conv => whnf
  refine satq_seq ?_
  conv => whnf
  refine satq_seq ?_
  conv => whnf
  refine satq_in ?_
  refine satq_seq ?_
  conv => whnf
  refine call_backward ?_
  conv => whnf
  refine satq_block ?_
  refine satq_back (N := 38) (m := 4) (V := [.cells 32 [.v (.slice A1 b.at_.length c1), .v (.slice A2 b.pages.length c2), .v (.slice (some ⟨bb, off, none⟩) b.ops.length c3)], .cells 32 [.v (.slice none 0 0), .v (.slice none 0 0), .v (.slice none 0 0)], .cells 30 [.v (.slice none 0 0)], .cells 24 [.v (.int .u32 0)]])
    (A := [.cells 32 [.v (.slice A1 b.at_.length c1), .v (.slice A2 b.pages.length c2), .v (.slice (some ⟨bb, off, none⟩) b.ops.length c3)], .cells 32 [.v (.slice none 0 0), .v (.slice none 0 0), .v (.slice none 0 0)], .cells 30 [.row 4], .cells 24 [.v (.int .u32 0)]]) (T := [.row 53 5 0 []])
    (f0 := [(1, .p (.c (.ref 0 0))), (2, .p (.c (.ref 1 0))), (3, .p (.c (.ref 2 0))), (4, .p (.c (.ref 3 0)))]) (fa := [(1, .p (.c (.ref 0 0))), (2, .p (.c (.ref 1 0))), (3, .p (.c (.ref 2 0))), (4, .p (.c (.ref 3 0)))])
    h3 (ops_lt h3 hpos) (by omega) rfl ⟨rfl, rfl⟩ (And.intro (rfl) (And.intro (rfl) (And.intro (rfl) (And.intro (rfl) trivial)))) rfl rfl
    (fun pre => [.cells 32 [.v (.slice A1 b.at_.length c1), .v (.slice A2 b.pages.length c2), .v (.slice (some ⟨bb, off, none⟩) b.ops.length c3)], .cells 32 [.v (.slice none 0 0), .v (.slice none 0 0), .v (.slice none 0 0)], .cells 30 [.row 4], .cells 24 [.v (.int .u32 ((deadRun (opsOf pre)).live : Int))], .row 53 5 (deadRun (opsOf pre)).out.length ((deadRun (opsOf pre)).out.flatMap opC)])
    rfl rfl rfl (fun _ => rfl) (fun _ => rfl) (fun _ => rfl) (ent_nilrow 2 rfl (And.intro (rfl) (And.intro (rfl) (And.intro (rfl) (And.intro (rfl) trivial))))) rfl 2 (by omega) (fun pre => ⟨_, _, _, _, _, rfl, rfl⟩)
    (fun x => [(1, .p (.c (.ref 0 0))), (2, .p (.c (.ref 1 0))), (3, .p (.c (.ref 2 0))), (4, .p (.c (.ref 3 0))), (6, .p (.c (.ref 5 0)))]) (fun _ => rfl) ?_ ?_ ?_
  · rintro W gs ext lp pre x hgs
    match gs, hgs with
    | [g0, g1, g2, g3], _ =>
    conv => whnf
    exact ⟨rfl, ent_same rfl (And.intro (rfl) (And.intro (rfl) (And.intro (rfl) (And.intro (rfl) (And.intro (rfl) trivial))))) (And.intro ((And.intro rfl (Or.inl rfl))) (And.intro ((And.intro rfl (Or.inl rfl))) (And.intro ((And.intro rfl (Or.inl rfl))) (And.intro ((And.intro rfl (Or.inl rfl))) (And.intro ((And.intro rfl (And.intro rfl (And.intro (rfl) (rfl))))) (And.intro ((And.intro rfl (Or.inl rfl))) trivial))))))⟩
  · rintro W gs ext lp pre x hgs hpl
    match gs, hgs with
    | [g0, g1, g2, g3], _ =>
    obtain ⟨o, ho⟩ : ∃ o, o = x.1.2 := ⟨_, rfl⟩
    have hof : formedB o = true := by rw [ho]; exact hform _ (List.mem_of_getElem? x.2)
    have hlive := deadRun_lt (opsOf_formed hform pre)
    have hlen : (deadRun (opsOf pre)).out.length ≤ pre.length := by have := deadRun_length (opsOf pre); simpa [opsOf] using this
    have hsnoc : deadRun (opsOf (pre ++ [x])) = deadStep (deadRun (opsOf pre)) o := by rw [opsOf_snoc, deadRun_snoc, ho]
    rw [hsnoc, ← ho]
    generalize deadRun (opsOf pre) = s at hlive hlen ⊢
    conv => whnf
    refine call_con rfl (by kernel_rfl) (fun r w' hR => pure_ir o w') ?_
    conv => whnf
    refine ⟨!(s.live.testBit o.d.toNat), fun hp => ?_, ?_⟩
    · obtain ⟨hd0, hd1⟩ := pure_d hof hp
      refine ⟨hd0, (s.live : Int) / 2 ^ o.d.toNat, ?_, ?_⟩
      · rw [show min o.d.toNat IntKind.u32.bits = o.d.toNat from Nat.min_eq_left (by show _ ≤ 32; omega)]
        exact Int.fdiv_eq_ediv_of_nonneg _ (by exact Int.le_of_lt (Int.pow_pos (by decide)))
      conv => whnf
      refine ⟨_, rfl, ?_⟩
      conv => whnf
      refine ⟨rfl, rfl, ?_, rfl, rfl⟩
      show one (.bool (bits .and .u32 ((s.live : Int) / 2 ^ o.d.toNat) 1 == 0)) = one (.bool (!(s.live.testBit o.d.toNat)))
      rw [bit_test _ _ hlive]
    conv => whnf
    refine ⟨fun hs => ?_, fun hs => ?_⟩
    · conv => whnf
      have he : deadStep s o = s := if_pos (by unfold deadB; simpa [cmb] using hs)
      rw [he]
      exact ⟨rfl, ent_drop trivial (And.intro ((And.intro rfl (Or.inl rfl))) (And.intro ((And.intro rfl (Or.inl rfl))) (And.intro ((And.intro rfl (Or.inl rfl))) (And.intro ((And.intro rfl (Or.inl rfl))) (And.intro ((And.intro rfl (And.intro rfl (And.intro (rfl) (rfl))))) trivial))))) rfl rfl⟩
    have he : deadStep s o = ⟨beforeM o s.live, s.out ++ [o]⟩ := if_neg (by unfold deadB; simpa [cmb] using hs)
    rw [he]
    conv => whnf
    refine call_con rfl (by kernel_rfl) (fun r w' hR => before_opt o s.live hlive hof w') ?_
    conv => whnf
    refine appK_sound rfl ?_ rfl
    conv => whnf
    refine ⟨by omega, ?_⟩
    conv => whnf
    exact ⟨rfl, ent_drop trivial (And.intro ((And.intro rfl (Or.inl rfl))) (And.intro ((And.intro rfl (Or.inl rfl))) (And.intro ((And.intro rfl (Or.inl rfl))) (And.intro ((And.intro rfl (Or.inl rfl))) (And.intro ((And.intro rfl (And.intro rfl (And.intro (by simp) (by simp [opC]))))) trivial))))) rfl rfl⟩
  · intro D xs hxs
    refine atq_then ?_
    refine satq_seq ?_
    conv => whnf
    have hlen : (deadRun (opsOf xs)).out.length ≤ b.ops.length := by
      have := deadRun_length (opsOf xs)
      rw [opsOf_all hxs] at this ⊢
      simpa using this
    refine call_reverse 4 rfl (by omega) ?_
    conv => whnf
    refine satq_seq ?_
    conv => whnf
    refine call_with 4 rfl ?_
    conv => whnf
    refine satq_vc ?_
    conv => whnf
    refine atq_ret_mark 5 rfl ?_
    conv => whnf
    rw [opsOf_all hxs]
    refine fin_block (i := 4) (l := (deadRun b.ops.reverse).out.reverse) rfl (by simp) rfl fun w' A c e1 e2 e3 e4 e5 => ?_
    exact ⟨A, c, by rw [hF], by rw [hF]; exact e1, by rw [hF]; exact e2, e3, .inl e4, e5⟩
end Go.Proofs.Ytmjfgnnefcimiaa
namespace Go.Proofs.Ytmjfgnnefcimiaa
open Go.RowKit

theorem op_guard (op : BinOp) (x y : Operand) (p q : BOp) (w : World) : (eqGuard op 53 x y (opV p) (opV q)).run Try.prog w = .ok () w := by
  have h : Try.prog.eqGuardType Try.prog.depth 53 = false := by kernel_rfl
  unfold eqGuard opV
  cases op <;> simp [h]
theorem q_neq_op {w0 : World} {G : Gs} {S : List Ow} {f : Fr} {o : Oper} {K : AV → Prop} {x y : Operand} (p q : BOp) {t : TypeId} (hop : o.op = .binOp .neq 53 x y t) (hx : f.ev x = .p (.agg ((opC p).map .v))) (hy : f.ev y = .p (.agg ((opC q).map .v))) (hK : K (one (.bool (!(p == q))))) : QRun Try.prog w0 G S f o K := by
  refine ⟨_, hK, fun r a hf => ⟨.bool (!(p == q)), den_one _ _, fun w _ => ?_⟩⟩
  have h1 := hf.ev x
  have h2 := hf.ev y
  rw [hx] at h1; rw [hy] at h2
  have e1 : a.eval x = opV p := by obtain ⟨us, hu, hl⟩ := h1; rw [hu, denL_vals_inv hl]; rfl
  have e2 : a.eval y = opV q := by obtain ⟨us, hu, hl⟩ := h2; rw [hu, denL_vals_inv hl]; rfl
  simp [execOp, hop, e1, e2, op_guard, op_neq]
structure EqSt (l m : List BOp) where
  k : Nat
  hk : k ≤ l.length
  h : l.take k = m.take k
set_option maxRecDepth 100000 in
theorem equal_ops (A1 A2 : Option Addr) (c1 c2 : Nat) (l m : List BOp) (w : World) (h1 : OpsAt w w.heap.size A1 l) (h2 : OpsAt w w.heap.size A2 m) (hl : l.length ≤ 1000000) :
    Calls Try.prog 77 #[.slice A1 l.length c1, .slice A2 m.length c2] w fun e w' => e = .returned (.bool (l == m)) ∧ Below w.heap.size w w' := by
  by_cases hlm : l.length = m.length
  · by_cases h0 : l.length = 0
    · have e1 : l = [] := List.eq_nil_of_length_eq_zero h0
      have e2 : m = [] := List.eq_nil_of_length_eq_zero (by omega)
      subst e1; subst e2
      refine calls_val [.slice A1 0 c1, .slice A2 0 c2] Try.func77 Try.ntmps77 rfl (by simp) ?_
      conv => whnf
      (refine ⟨(fun h => absurd h (by decide)), fun _ => ?_⟩; (conv => whnf))
      refine ⟨Unit, fun x => [(12, one (.int .i64 0)), (13, one (.int .i64 0))], fun x => [], fun x => 0, ⟨(), ent_same rfl (And.intro (rfl) (And.intro (rfl) trivial)) trivial⟩, fun x => ?_⟩
      conv => whnf
      (refine ⟨(fun h => absurd h (by decide)), fun _ => ?_⟩; (conv => whnf))
      refine ⟨_, _, ent_refl, ?_⟩
      conv => whnf
      exact fin_val rfl fun w' hB => ⟨rfl, hB⟩
    · obtain ⟨b1, o1, rfl⟩ := ops_addr h1 (by omega)
      obtain ⟨b2, o2, rfl⟩ := ops_addr h2 (by omega)
      refine calls_val [.slice (some ⟨b1, o1, none⟩) l.length c1, .slice (some ⟨b2, o2, none⟩) m.length c2] Try.func77 Try.ntmps77 rfl (by simp) ?_
      conv => whnf
      refine ⟨fun hn => absurd hn (by simp [hlm]), fun _ => ?_⟩
      conv => whnf
      refine ⟨EqSt l m, fun x => [(0, one (.slice (some ⟨b1, o1, none⟩) l.length c1)), (1, one (.slice (some ⟨b2, o2, none⟩) m.length c2)), (12, one (.int .i64 l.length)), (13, one (.int .i64 x.k))], fun x => [], fun x => l.length - x.k, ⟨⟨0, by omega, rfl⟩, ent_same rfl (And.intro (rfl) (And.intro (rfl) (And.intro (rfl) (And.intro (rfl) trivial)))) trivial⟩, fun x => ?_⟩
      have hk := x.hk
      have hx := x.h
      conv => whnf
      refine ⟨fun hc => ?_, fun hc => ?_⟩
      · have hlt : x.k < l.length := by simpa using hc
        obtain ⟨p, hp⟩ : ∃ p, l[x.k]? = some p := ⟨_, List.getElem?_eq_getElem hlt⟩
        obtain ⟨q, hq⟩ : ∃ q, m[x.k]? = some q := ⟨_, List.getElem?_eq_getElem (by omega)⟩
        conv => whnf
        refine sat_quiet mixed (by kernel_rfl) ?_
        conv => whnf
        refine ⟨⟨by omega, by omega⟩, ?_⟩
        conv => whnf
        refine ⟨opC p, cells_op h1 (by simp) hp, rfl, ?_⟩
        conv => whnf
        refine ⟨⟨by omega, by omega⟩, ?_⟩
        conv => whnf
        refine ⟨opC q, cells_op h2 (by simp) hq, rfl, ?_⟩
        conv => whnf
        refine q_neq_op p q rfl rfl rfl ?_
        conv => whnf
        refine ⟨fun hn => ?_, fun hn => ?_⟩
        · conv => whnf
          refine ⟨_, _, ent_refl, ?_⟩
          conv => whnf
          refine fin_val rfl fun w' hB => ⟨?_, hB⟩
          have : (l == m) = false := by
            rw [Bool.eq_false_iff]
            intro e
            have e : l = m := by simpa using e
            subst e
            rw [hp] at hq; injection hq with hq; subst hq
            simp at hn
          rw [this]
        · conv => whnf
          refine ⟨(x.k : Int) + 1, wr64 (by omega), ?_⟩
          conv => whnf
          refine ⟨⟨x.k + 1, by omega, ?_⟩, ent_same rfl (And.intro (rfl) (And.intro (rfl) (And.intro (rfl) (And.intro (num_succ x.k) trivial)))) trivial, by dsimp only; omega⟩
          have : p = q := by simpa using hn
          rw [List.take_add_one, List.take_add_one, hx, hp, hq, this]
      · have hge : ¬ x.k < l.length := by simpa using hc
        conv => whnf
        refine ⟨_, _, ent_refl, ?_⟩
        conv => whnf
        refine fin_val rfl fun w' hB => ⟨?_, hB⟩
        have : l = m := by
          rw [List.take_of_length_le (by omega), List.take_of_length_le (by omega)] at hx
          exact hx
        subst this
        simp
  · refine calls_val [.slice A1 l.length c1, .slice A2 m.length c2] Try.func77 Try.ntmps77 rfl (by simp) ?_
    conv => whnf
    refine ⟨fun _ => ?_, fun hn => absurd hn (by simp; omega)⟩
    conv => whnf
    refine fin_val rfl fun w' hB => ⟨?_, hB⟩
    have : (l == m) = false := by
      rw [Bool.eq_false_iff]
      intro e
      have e : l = m := by simpa using e
      exact hlm (by rw [e])
    rw [this]
end Go.Proofs.Ytmjfgnnefcimiaa
namespace Go.Proofs.Ytmjfgnnefcimiaa
open Go.RowKit

theorem foldRun_ok : ∀ {l : List BOp} {f : Int → Option Int}, wordsF f → (∀ o ∈ l, o.ok) → ∀ p ∈ foldRun f l, p.ok
  | [], f, _, _, p, hp => by cases hp
  | o :: l, f, hf, hl, p, hp => by
    have h1 := foldB_ok (foldMark_words (o := o) hf) (hl o (by simp))
    have h2 := foldMark_words (o := o) hf
    have hl2 : ∀ q ∈ l, q.ok := fun q hq => hl q (by simp [hq])
    unfold foldRun at hp
    split at hp
    · rcases List.mem_cons.1 hp with rfl | hp
      · exact h1
      · split at hp
        · cases hp
        · exact foldRun_ok (foldUpd_words h2 h1) hl2 p hp
    · exact foldRun_ok h2 hl2 p hp
theorem copyRun_ok : ∀ {l : List BOp} {f : Int → Option Int}, midF f → (∀ o ∈ l, o.ok) → ∀ p ∈ copyRun f l, p.ok
  | [], f, _, _, p, hp => by cases hp
  | o :: l, f, hf, hl, p, hp => by
    have h2 := midF_mark hf o
    have h1 := copyOp_ok h2 (hl o (by simp))
    have hl2 : ∀ q ∈ l, q.ok := fun q hq => hl q (by simp [hq])
    unfold copyRun at hp
    split at hp
    · exact copyRun_ok h2 hl2 p hp
    · rcases List.mem_cons.1 hp with rfl | hp
      · exact h1
      · exact copyRun_ok (midF_upd h2 h1) hl2 p hp
theorem deadFold_mem : ∀ {l : List BOp} {s : DeadS} {p : BOp}, p ∈ (l.foldl deadStep s).out → p ∈ s.out ∨ p ∈ l
  | [], s, p, h => .inl h
  | o :: l, s, p, h => by
    rcases deadFold_mem (l := l) h with h | h
    · unfold deadStep at h
      split at h
      · exact .inl h
      · rcases List.mem_append.1 h with h | h
        · exact .inl h
        · right; simp at h; simp [h]
    · right; simp [h]
theorem deadAll_mem {b : Blk} {p : BOp} (h : p ∈ deadAll b) : p ∈ b.ops := by
  unfold deadAll at h
  split at h
  · have := deadFold_mem (List.mem_reverse.1 h)
    simpa using this
  · exact h
def foldP (b : Blk) : Blk := ⟨b.at_, b.pages, foldAll b⟩
def copyP (b : Blk) : Blk := ⟨b.at_, b.pages, copyAll b⟩
def deadP (b : Blk) : Blk := ⟨b.at_, b.pages, deadAll b⟩
theorem foldAll_length (b : Blk) : (foldAll b).length ≤ b.ops.length := by
  unfold foldAll; split
  · exact foldRun_length _ _
  · exact Nat.le_refl _
theorem copyAll_length (b : Blk) : (copyAll b).length ≤ b.ops.length := by
  unfold copyAll; split
  · exact copyRun_length _ _
  · exact Nat.le_refl _
theorem deadAll_length (b : Blk) : (deadAll b).length ≤ b.ops.length := by
  unfold deadAll; split
  · have := deadRun_length b.ops.reverse; simpa using this
  · exact Nat.le_refl _
theorem foldP_ok {b : Blk} (h : b.ok) : (foldP b).ok := ⟨h.at_, h.pages, fun o ho => by
  simp only [foldP, foldAll] at ho
  split at ho
  · exact foldRun_ok wordsF_none h.ops o ho
  · exact h.ops o ho, h.lat, h.lpages, Nat.le_trans (foldAll_length b) h.lops⟩
theorem copyP_ok {b : Blk} (h : b.ok) : (copyP b).ok := ⟨h.at_, h.pages, fun o ho => by
  simp only [copyP, copyAll] at ho
  split at ho
  · exact copyRun_ok midF_none h.ops o ho
  · exact h.ops o ho, h.lat, h.lpages, Nat.le_trans (copyAll_length b) h.lops⟩
theorem deadP_ok {b : Blk} (h : b.ok) : (deadP b).ok := ⟨h.at_, h.pages, fun o ho => h.ops o (deadAll_mem ho), h.lat, h.lpages, Nat.le_trans (deadAll_length b) h.lops⟩
theorem fold_nil {b : Blk} (h : b.ops = []) : foldAll b = [] := List.eq_nil_of_length_eq_zero (by have := foldAll_length b; rw [h] at this; simpa using this)
theorem copy_nil {b : Blk} (h : b.ops = []) : copyAll b = [] := List.eq_nil_of_length_eq_zero (by have := copyAll_length b; rw [h] at this; simpa using this)
theorem dead_nil {b : Blk} (h : b.ops = []) : deadAll b = [] := List.eq_nil_of_length_eq_zero (by have := deadAll_length b; rw [h] at this; simpa using this)
def onceP (b : Blk) : Blk := deadP (copyP (foldP b))
theorem onceP_ok {b : Blk} (h : b.ok) : (onceP b).ok := deadP_ok (copyP_ok (foldP_ok h))
/-- The passes in turn, n rounds at most, until nothing changes. -/
def optN : Nat → Blk → Blk
  | 0, b => b
  | n + 1, b => if (onceP b).ops = b.ops then b else optN n (onceP b)
theorem optN_same {b : Blk} (h : (onceP b).ops = b.ops) (n : Nat) : optN n b = b := by
  cases n with
  | zero => rfl
  | succ n => exact if_pos h
theorem optN_fuel {mu : Blk → Nat} (hmu : ∀ b, b.ok → (onceP b).ops ≠ b.ops → mu (onceP b) < mu b) : ∀ (n m : Nat) {b : Blk}, b.ok → mu b ≤ n → mu b ≤ m → optN n b = optN m b
  | n, m, b, hb, hn, hm => by
    by_cases h : (onceP b).ops = b.ops
    · rw [optN_same h, optN_same h]
    · have hlt := hmu b hb h
      obtain ⟨n, rfl⟩ : ∃ k, n = k + 1 := ⟨n - 1, by omega⟩
      obtain ⟨m, rfl⟩ : ∃ k, m = k + 1 := ⟨m - 1, by omega⟩
      show (if _ then _ else optN n (onceP b)) = (if _ then _ else optN m (onceP b))
      rw [if_neg h, if_neg h]
      exact optN_fuel hmu n m (onceP_ok hb) (by omega) (by omega)
theorem optN_step {mu : Blk → Nat} (hmu : ∀ b, b.ok → (onceP b).ops ≠ b.ops → mu (onceP b) < mu b) {b : Blk} (hb : b.ok) (h : (onceP b).ops ≠ b.ops) : optN (mu b) b = optN (mu (onceP b)) (onceP b) := by
  have hlt := hmu b hb h
  obtain ⟨n, hn⟩ : ∃ k, mu b = k + 1 := ⟨mu b - 1, by omega⟩
  rw [hn]
  show (if _ then _ else optN n (onceP b)) = _
  rw [if_neg h]
  exact optN_fuel hmu _ _ (onceP_ok hb) (by omega) (by omega)
def passN : Nat → Blk → Blk
  | 0, b => b
  | 1, b => foldP b
  | 2, b => copyP (foldP b)
  | _, b => onceP b
end Go.Proofs.Ytmjfgnnefcimiaa
namespace Go.Proofs.Ytmjfgnnefcimiaa
open Go.RowKit

theorem fin_view {w0 : World} {S : List Ow} {i n : Nat} {xs : List Value} {φ : Option Addr → Prop} {l : List BOp} {x1 x2 : Value} {R : Ending → World → Prop} (hi : S[i]? = some (.view φ n xs)) (hn : n = l.length) (hx : xs = l.flatMap opC)
    (h : ∀ w' A c, OpsAt w' w'.heap.size A l → l.length ≤ c → c ≤ maxLen → φ A → Below w0.heap.size w0 w' → R (.returned (.agg #[x1, x2, .slice A l.length c])) w') : Fin w0 Gs.nil S (.p (.agg [.v x1, .v x2, .row i])) R := by
  refine ⟨fun r w u hR hd => ?_⟩
  subst hn; subst hx
  obtain ⟨us, rfl, hl⟩ := den_agg hd
  simp only [denL] at hl
  obtain ⟨u1, l1, rfl, d1, u2, l2, rfl, d2, u3, l3, rfl, d3, rfl⟩ := hl
  simp only [CV.den] at d1 d2 d3
  subst d1; subst d2
  obtain ⟨A, c, rfl, hs, hc1, hc2, hA, _⟩ := viewAt hR hi d3
  exact h w A c hs hc1 hc2 hA hR.toBelow
theorem call_equal_views {w0 : World} {G : Gs} {S : List Ow} {K : AV → List Ow → Prop} (i j : Nat) (l m : List BOp) {φ ψ : Option Addr → Prop} (hi : S[i]? = some (.view φ l.length (l.flatMap opC))) (hj : S[j]? = some (.view ψ m.length (m.flatMap opC))) (hl : l.length ≤ 1000000) (hK : K (one (.bool (l == m))) S) :
    CallS Try.prog w0 G 77 [.p (.c (.row i)), .p (.c (.row j))] S K := by
  refine callS_val (.bool (l == m)) (by kernel_rfl) (fun r w us hR hd => ?_) hK
  obtain ⟨u1, l1, rfl, d1, u2, l2, rfl, d2, d3⟩ := hd
  obtain rfl : l2 = [] := d3
  obtain ⟨A, c, rfl, hs, _⟩ := viewAt hR hi (den_row d1)
  obtain ⟨A', c', rfl, hs', _⟩ := viewAt hR hj (den_row d2)
  exact equal_ops A A' c c' l m w hs hs' hl
def passV : List Value := [.func (.func 17) #[] #[], .func (.func 18) #[] #[], .func (.func 19) #[] #[]]
structure RepSt (mu : Blk → Nat) (b0 : Blk) where
  b : Blk
  ok : b.ok
  hat : b.at_ = b0.at_
  hpg : b.pages = b0.pages
  eq : optN (mu b0) b0 = optN (mu b) b
set_option maxRecDepth 100000 in
theorem repeat_walk (mu : Blk → Nat) (hmu : ∀ b, b.ok → (onceP b).ops ≠ b.ops → mu (onceP b) < mu b) (b : Blk) (A1 A2 A3 : Option Addr) (c1 c2 c3 bp : Nat) (w : World) (hb : b.ok) (h1 : SlAt w w.heap.size A1 (b.at_.map (.int .u32))) (h2 : SlAt w w.heap.size A2 (b.pages.map (.int .i64))) (h3 : OpsAt w w.heap.size A3 b.ops) (hc3 : b.ops.length ≤ c3) (hm3 : c3 ≤ maxLen)
    (hp : SlAt w w.heap.size (some ⟨bp, 0, none⟩) passV) :
    Calls Try.prog 51 #[.agg #[.slice A1 b.at_.length c1, .slice A2 b.pages.length c2, .slice A3 b.ops.length c3], .slice (some ⟨bp, 0, none⟩) 3 3] w fun e w' =>
      ∃ A c, e = .returned (.agg #[.slice A1 b.at_.length c1, .slice A2 b.pages.length c2, .slice A (optN (mu b) b).ops.length c]) ∧ OpsAt w' w'.heap.size A (optN (mu b) b).ops ∧ (optN (mu b) b).ops.length ≤ c ∧ c ≤ maxLen ∧ (Fresh w.heap.size A ∨ A = A3) ∧ Below w.heap.size w w' := by
  obtain ⟨φ, hφ⟩ : ∃ φ : Option Addr → Prop, φ = fun A => Fresh w.heap.size A ∨ A = A3 := ⟨_, rfl⟩
  have hφ1 : ∀ A, Fresh w.heap.size A → φ A := fun A h => by rw [hφ]; exact .inl h
  have hφ2 : φ A3 := by rw [hφ]; exact .inr rfl
  have cellP : ∀ (k : Nat) (v : Value), passV[k]? = some v → CellsAt w Gs.nil bp k [v] := fun k v hk => by
    obtain ⟨b', off, e1, e2, e3⟩ := hp k v hk
    injection e1 with e1; injection e1 with e1 e4; subst e1; subst e4
    exact cells_one e2 (by simp) (by rwa [Nat.zero_add] at e3)
  refine calls_val [.agg #[.slice A1 b.at_.length c1, .slice A2 b.pages.length c2, .slice A3 b.ops.length c3], .slice (some ⟨bp, 0, none⟩) 3 3] Try.func51 Try.ntmps51 rfl (by simp) ?_
  conv => whnf
  refine ⟨RepSt mu b, fun x => [(1, one (.slice (some ⟨bp, 0, none⟩) 3 3)), (2, .p (.c (.ref 0 0))), (4, .p (.c (.ref 1 0)))],
    fun x => [.cells 32 [.v (.slice A1 b.at_.length c1), .v (.slice A2 b.pages.length c2), .row 2], .cells 32 [.v (.slice none 0 0), .v (.slice none 0 0), .v (.slice none 0 0)], .view φ x.b.ops.length (x.b.ops.flatMap opC)],
    fun x => mu x.b, ⟨⟨b, hb, rfl, rfl, rfl⟩, ?_⟩, fun x => ?_⟩
  · exact ent_trans (ent_view (φ := φ) (f' := [(1, one (.slice (some ⟨bp, 0, none⟩) 3 3)), (2, .p (.c (.ref 0 0))), (4, .p (.c (.ref 1 0)))]) 0 2 rfl rfl h3 hc3 hm3 hφ2 (And.intro (rfl) (And.intro (rfl) (And.intro (rfl) trivial)))) (ent_same rfl (And.intro (rfl) (And.intro (rfl) (And.intro (rfl) trivial))) (And.intro ((And.intro rfl (Or.inl rfl))) (And.intro ((And.intro rfl (Or.inl rfl))) (And.intro ((And.intro rfl (And.intro rfl rfl))) trivial))))
  have hok := x.ok
  have hlen : x.b.ops.length ≤ 1000000 := x.ok.lops
  have hat := x.hat
  have hpg := x.hpg
  have heq := x.eq
  conv => whnf
  refine ⟨{ k : Nat // k ≤ 3 }, fun y => [(1, one (.slice (some ⟨bp, 0, none⟩) 3 3)), (2, .p (.c (.ref 0 0))), (4, .p (.c (.ref 1 0))), (5, .p (.c (.ref 3 0))), (9, one (.slice (some ⟨bp, 0, none⟩) 3 3)), (10, one (.int .i64 3)), (11, one (.int .i64 y.1))],
    fun y => [.cells 32 [.v (.slice A1 b.at_.length c1), .v (.slice A2 b.pages.length c2), .row 4], .cells 32 [.v (.slice none 0 0), .v (.slice none 0 0), .v (.slice none 0 0)], .view φ x.b.ops.length (x.b.ops.flatMap opC), .cells 32 [.v (.slice A1 b.at_.length c1), .v (.slice A2 b.pages.length c2), .row 2], .view φ (passN y.1 x.b).ops.length ((passN y.1 x.b).ops.flatMap opC)],
    fun y => 3 - y.1, ⟨⟨0, by omega⟩, ?_⟩, fun y => ?_⟩
  · exact ent_ren [0, 1, 2, 3, 2] (And.intro (rfl) (And.intro (rfl) (And.intro (rfl) (And.intro (rfl) (And.intro (rfl) (And.intro (rfl) (And.intro (rfl) trivial))))))) (And.intro ((Exists.intro _ (And.intro rfl (And.intro rfl (Or.inl rfl))))) (And.intro ((Exists.intro _ (And.intro rfl (And.intro rfl (Or.inl rfl))))) (And.intro ((Exists.intro _ (And.intro rfl (And.intro rfl (And.intro rfl rfl))))) (And.intro ((Exists.intro _ (And.intro rfl (And.intro rfl (Or.inl rfl))))) (And.intro ((Exists.intro _ (And.intro rfl (And.intro rfl (And.intro rfl rfl))))) trivial))))) rfl rfl rfl rfl rfl
  obtain ⟨k, hk⟩ := y
  match k, hk with
  | 0, _ =>
    conv => whnf
    refine ⟨fun _ => ?_, (fun h => by simp at h)⟩
    conv => whnf
    refine ⟨⟨by dsimp only; decide, by dsimp only; decide⟩, ?_⟩
    conv => whnf
    refine ⟨_, cellP 0 _ rfl, ?_⟩
    conv => whnf
    refine call_pass_at fold_pass (by kernel_rfl) 4 x.b b rfl hok hat hpg fold_nil h1 h2 hφ1 ?_
    conv => whnf
    refine ⟨1, rfl, ?_⟩
    conv => whnf
    exact ⟨⟨1, by omega⟩, ent_ren [0, 1, 2, 3, 5] (And.intro (rfl) (And.intro (rfl) (And.intro (rfl) (And.intro (rfl) (And.intro (rfl) (And.intro (rfl) (And.intro (rfl) trivial))))))) (And.intro ((Exists.intro _ (And.intro rfl (And.intro rfl (Or.inl rfl))))) (And.intro ((Exists.intro _ (And.intro rfl (And.intro rfl (Or.inl rfl))))) (And.intro ((Exists.intro _ (And.intro rfl (And.intro rfl (And.intro rfl rfl))))) (And.intro ((Exists.intro _ (And.intro rfl (And.intro rfl (Or.inl rfl))))) (And.intro ((Exists.intro _ (And.intro rfl (And.intro rfl (And.intro rfl rfl))))) trivial))))) rfl rfl rfl rfl rfl, by dsimp only; decide⟩
  | 1, _ =>
    conv => whnf
    refine ⟨fun _ => ?_, (fun h => by simp at h)⟩
    conv => whnf
    refine ⟨⟨by dsimp only; decide, by dsimp only; decide⟩, ?_⟩
    conv => whnf
    refine ⟨_, cellP 1 _ rfl, ?_⟩
    conv => whnf
    refine call_pass_at copies_pass (by kernel_rfl) 4 (foldP x.b) b rfl (foldP_ok hok) hat hpg copy_nil h1 h2 hφ1 ?_
    conv => whnf
    refine ⟨2, rfl, ?_⟩
    conv => whnf
    exact ⟨⟨2, by omega⟩, ent_ren [0, 1, 2, 3, 5] (And.intro (rfl) (And.intro (rfl) (And.intro (rfl) (And.intro (rfl) (And.intro (rfl) (And.intro (rfl) (And.intro (rfl) trivial))))))) (And.intro ((Exists.intro _ (And.intro rfl (And.intro rfl (Or.inl rfl))))) (And.intro ((Exists.intro _ (And.intro rfl (And.intro rfl (Or.inl rfl))))) (And.intro ((Exists.intro _ (And.intro rfl (And.intro rfl (And.intro rfl rfl))))) (And.intro ((Exists.intro _ (And.intro rfl (And.intro rfl (Or.inl rfl))))) (And.intro ((Exists.intro _ (And.intro rfl (And.intro rfl (And.intro rfl rfl))))) trivial))))) rfl rfl rfl rfl rfl, by dsimp only; decide⟩
  | 2, _ =>
    conv => whnf
    refine ⟨fun _ => ?_, (fun h => by simp at h)⟩
    conv => whnf
    refine ⟨⟨by dsimp only; decide, by dsimp only; decide⟩, ?_⟩
    conv => whnf
    refine ⟨_, cellP 2 _ rfl, ?_⟩
    conv => whnf
    refine call_pass_at dead_pass (by kernel_rfl) 4 (copyP (foldP x.b)) b rfl (copyP_ok (foldP_ok hok)) hat hpg dead_nil h1 h2 hφ1 ?_
    conv => whnf
    refine ⟨3, rfl, ?_⟩
    conv => whnf
    exact ⟨⟨3, by omega⟩, ent_ren [0, 1, 2, 3, 5] (And.intro (rfl) (And.intro (rfl) (And.intro (rfl) (And.intro (rfl) (And.intro (rfl) (And.intro (rfl) (And.intro (rfl) trivial))))))) (And.intro ((Exists.intro _ (And.intro rfl (And.intro rfl (Or.inl rfl))))) (And.intro ((Exists.intro _ (And.intro rfl (And.intro rfl (Or.inl rfl))))) (And.intro ((Exists.intro _ (And.intro rfl (And.intro rfl (And.intro rfl rfl))))) (And.intro ((Exists.intro _ (And.intro rfl (And.intro rfl (Or.inl rfl))))) (And.intro ((Exists.intro _ (And.intro rfl (And.intro rfl (And.intro rfl rfl))))) trivial))))) rfl rfl rfl rfl rfl, by dsimp only; decide⟩
  | 3, _ =>
    conv => whnf
    refine ⟨(fun h => by simp at h), fun _ => ?_⟩
    conv => whnf
    refine ⟨_, _, ent_refl, ?_⟩
    conv => whnf
    refine call_equal_views 2 4 x.b.ops (onceP x.b).ops rfl rfl hlen ?_
    conv => whnf
    refine ⟨fun h => ?_, fun h => ?_⟩
    · have he : (onceP x.b).ops = x.b.ops := (by simpa using h : x.b.ops = (onceP x.b).ops).symm
      conv => whnf
      refine ⟨_, _, ent_refl, ?_⟩
      conv => whnf
      rw [optN_same he] at heq
      refine fin_view (i := 4) (l := (onceP x.b).ops) rfl rfl rfl fun w' A c e1 e2 e3 e4 e5 => ?_
      rw [heq, ← he]
      exact ⟨A, c, rfl, e1, e2, e3, by rw [hφ] at e4; exact e4, e5⟩
    · have he : (onceP x.b).ops ≠ x.b.ops := fun e => by rw [e] at h; simp at h
      conv => whnf
      exact ⟨⟨onceP x.b, onceP_ok hok, hat, hpg, by rw [heq, optN_step hmu hok he]⟩, ent_ren [0, 1, 4] (And.intro (rfl) (And.intro (rfl) (And.intro (rfl) trivial))) (And.intro ((Exists.intro _ (And.intro rfl (And.intro rfl (Or.inl rfl))))) (And.intro ((Exists.intro _ (And.intro rfl (And.intro rfl (Or.inl rfl))))) (And.intro ((Exists.intro _ (And.intro rfl (And.intro rfl (And.intro rfl rfl))))) trivial))) rfl rfl rfl rfl rfl, hmu _ hok he⟩
end Go.Proofs.Ytmjfgnnefcimiaa
