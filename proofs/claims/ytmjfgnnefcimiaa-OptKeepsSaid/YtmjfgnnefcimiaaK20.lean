/- Plain: the measure that the fixpoint loop of the optimizer makes smaller. Plain: an operation that only writes a variable, replaced by one that writes the same variable: the block stays valid. How one state is seen as another; how a function's walk begins and ends; calls by contract. 'append' onto a row of the call's own, over states that are known part by part. -/
import Derived.Test.YtmjfgnnefcimiaaK1
import Derived.Test.YtmjfgnnefcimiaaK13
import Derived.Test.YtmjfgnnefcimiaaK14
import Derived.Test.YtmjfgnnefcimiaaK16
import Derived.Test.YtmjfgnnefcimiaaK17
import Derived.Test.YtmjfgnnefcimiaaK19
import Derived.Test.YtmjfgnnefcimiaaK3
import Derived.Test.YtmjfgnnefcimiaaK5
import Derived.Test.YtmjfgnnefcimiaaK6
namespace Go.Proofs.Ytmjfgnnefcimiaa
open Go.RowKit

def rankW (o : BOp) : Nat := if isBin o.code then 3 else if o.code == 2 || o.code == 23 || o.code == 25 then 2 else 1
theorem rankW_pos (o : BOp) : 0 < rankW o := by unfold rankW; split; omega; split <;> omega
def wL : List BOp → Nat
  | [] => 0
  | o :: l => rankW o + wL l
theorem wL_append : ∀ l m : List BOp, wL (l ++ m) = wL l + wL m
  | [], m => by simp [wL]
  | o :: l, m => by simp [wL, wL_append l m]; omega
theorem wL_reverse : ∀ l : List BOp, wL l.reverse = wL l
  | [] => rfl
  | o :: l => by rw [List.reverse_cons, wL_append, wL_reverse l]; simp [wL]; omega
theorem rank_const (d n : Int) : rankW ⟨1, d, 0, 0, n⟩ = 1 := rfl
theorem foldB_w {f : Int → Option Int} {o : BOp} (h : (foldB f o).2 = true) : (foldB f o).1 = o ∨ rankW (foldB f o).1 < rankW o := by
  unfold foldB at h ⊢
  have hbin : isBin o.code = true → rankW o = 3 := fun hb => by unfold rankW; rw [if_pos hb]
  have htwo : o.code = 2 → rankW o = 2 := fun hc => by unfold rankW; rw [hc]; rfl
  have h23 : o.code = 23 → rankW o = 2 := fun hc => by unfold rankW; rw [hc]; rfl
  have h25 : o.code = 25 → rankW o = 2 := fun hc => by unfold rankW; rw [hc]; rfl
  by_cases c1 : (o.code == 2 && (f o.a).isSome) = true
  · rw [if_pos c1]; right
    simp only [Bool.and_eq_true, beq_iff_eq] at c1
    rw [htwo c1.1, rank_const]; omega
  rw [if_neg c1] at h ⊢
  by_cases c2 : (isBin o.code && (f o.a).isSome && (f o.b).isSome) = true
  · rw [if_pos c2]; right
    simp only [Bool.and_eq_true] at c2
    rw [hbin c2.1.1, rank_const]; omega
  rw [if_neg c2] at h ⊢
  by_cases c3 : ((f o.b).isSome && (f o.b).getD 0 == 0 && memI o.code [3, 4, 6, 7, 8, 9, 10]) = true
  · rw [if_pos c3]; right
    simp only [Bool.and_eq_true] at c3
    have hm := c3.2
    simp only [memI, List.any_cons, List.any_nil, Bool.or_false, Bool.or_eq_true, beq_iff_eq] at hm
    rw [hbin (by unfold isBin; rw [decide_eq_true_eq]; omega)]
    show (2 : Nat) < 3
    omega
  rw [if_neg c3] at h ⊢
  by_cases c4 : (o.code == 21 && (f o.a).isSome && (f o.a).getD 0 != 0) = true
  · rw [if_pos c4] at h; cases h
  rw [if_neg c4] at h ⊢
  by_cases c5 : (o.code == 23 && (f o.a).isSome) = true
  · rw [if_pos c5]; right
    simp only [Bool.and_eq_true, beq_iff_eq] at c5
    rw [h23 c5.1]; show (1 : Nat) < 2; omega
  rw [if_neg c5] at h ⊢
  by_cases c6 : (o.code == 25 && (f o.a).isSome) = true
  · rw [if_pos c6]; right
    simp only [Bool.and_eq_true, beq_iff_eq] at c6
    rw [h25 c6.1]; show (1 : Nat) < 2; omega
  rw [if_neg c6]; left; rfl
theorem foldRun_w : ∀ (l : List BOp) (f : Int → Option Int), foldRun f l = l ∨ wL (foldRun f l) < wL l
  | [], f => .inl rfl
  | o :: l, f => by
    have hpos := rankW_pos o
    unfold foldRun
    by_cases hk : (foldB (foldMark f o) o).2 = true
    · rw [if_pos hk]
      have h1 := foldB_w hk
      generalize (foldB (foldMark f o) o).1 = p at h1 ⊢
      by_cases hx : (p.code == 24) = true
      · rw [if_pos hx]
        cases l with
        | nil =>
          rcases h1 with rfl | h1
          · exact .inl rfl
          · right; simp only [wL]; omega
        | cons q l =>
          right
          have := rankW_pos q
          rcases h1 with rfl | h1
          · simp only [wL]; omega
          · simp only [wL]; omega
      · rw [if_neg hx]
        rcases foldRun_w l (foldUpd (foldMark f o) p) with h2 | h2
        · rcases h1 with rfl | h1
          · left; rw [h2]
          · right; rw [h2]; simp only [wL]; omega
        · right
          rcases h1 with rfl | h1
          · simp only [wL]; omega
          · simp only [wL]; omega
    · rw [if_neg hk]
      right
      rcases foldRun_w l (foldMark f o) with h2 | h2
      · rw [h2]; simp only [wL]; omega
      · simp only [wL]; omega
theorem deadFold_w : ∀ (l : List BOp) (s : DeadS), ∃ m, (l.foldl deadStep s).out = s.out ++ m ∧ (m = l ∨ wL m < wL l)
  | [], s => ⟨[], by simp, .inl rfl⟩
  | o :: l, s => by
    have hpos := rankW_pos o
    simp only [List.foldl_cons]
    obtain ⟨m, h1, h2⟩ := deadFold_w l (deadStep s o)
    by_cases hd : deadB o s.live = true
    · have he : deadStep s o = s := if_pos hd
      rw [he] at h1 ⊢
      refine ⟨m, h1, .inr ?_⟩
      rcases h2 with rfl | h2
      · simp only [wL]; omega
      · simp only [wL]; omega
    · have he : deadStep s o = ⟨beforeM o s.live, s.out ++ [o]⟩ := if_neg hd
      rw [he] at h1 ⊢
      refine ⟨o :: m, by rw [h1]; simp, ?_⟩
      rcases h2 with rfl | h2
      · exact .inl rfl
      · right; simp only [wL]; omega
theorem dead_w (l : List BOp) : (deadRun l.reverse).out.reverse = l ∨ wL (deadRun l.reverse).out.reverse < wL l := by
  obtain ⟨m, h1, h2⟩ := deadFold_w l.reverse ⟨0, []⟩
  have h3 : (deadRun l.reverse).out = m := by unfold deadRun; rw [h1]; rfl
  rw [h3]
  rcases h2 with rfl | h2
  · left; simp
  · right; rw [wL_reverse]; rwa [wL_reverse] at h2

/-! Copies: where an operand's value was written. -/
def reach : List Int → Int → Nat
  | [], _ => 0
  | d :: pre, v => if d = v ∧ 0 ≤ v then pre.length + 1 else reach pre v
theorem reach_le : ∀ (pre : List Int) (v : Int), reach pre v ≤ pre.length
  | [], v => Nat.le_refl _
  | d :: pre, v => by
    unfold reach
    have := reach_le pre v
    split <;> simp <;> omega
theorem reach_neg {d : Int} (h : d < 0) (pre : List Int) (v : Int) : reach (d :: pre) v = reach pre v := by
  show (if _ then _ else _) = _
  rw [if_neg (by omega)]
theorem reach_ne {d v : Int} (h : v ≠ d) (pre : List Int) : reach (d :: pre) v = reach pre v := by
  show (if _ then _ else _) = _
  rw [if_neg (fun e => h e.1.symm)]
theorem reach_self {d : Int} (h : 0 ≤ d) (pre : List Int) : reach (d :: pre) d = pre.length + 1 := by
  show (if _ then _ else _) = _
  rw [if_pos ⟨rfl, h⟩]
def pL : List Int → List BOp → Nat
  | _, [] => 0
  | pre, o :: l => reach pre o.a + reach pre o.b + pL (writes o :: pre) l
theorem pL_le : ∀ (l : List BOp) (pre : List Int) (n : Nat), pre.length + l.length ≤ n → pL pre l ≤ l.length * (2 * n)
  | [], pre, n, _ => by simp [pL]
  | o :: l, pre, n, h => by
    have h1 := reach_le pre o.a
    have h2 := reach_le pre o.b
    have h3 := pL_le l (writes o :: pre) n (by simp at h ⊢; omega)
    simp only [List.length_cons] at h ⊢
    simp only [pL]
    rw [Nat.add_mul, Nat.one_mul]
    omega
def InvS (pre : List Int) (s : Int → Option Int) : Prop := ∀ v w, s v = some w → reach pre w < reach pre v
theorem InvS_mark {pre : List Int} {s : Int → Option Int} (h : InvS pre s) (o : BOp) : InvS pre (copyMark s o) := by
  intro v w hv
  unfold copyMark at hv
  split at hv
  · obtain ⟨h1, _⟩ := Option.filter_eq_some_iff.1 hv
    unfold fdel at h1
    split at h1
    · cases h1
    · exact h v w h1
  · exact h v w hv
theorem InvS_upd {pre : List Int} {s : Int → Option Int} (h : InvS pre s) {p : BOp} (hp : copySkip p = false) : InvS (writes p :: pre) (copyUpd s p) := by
  intro v w hv
  unfold copyUpd at hv
  split at hv
  · rename_i hd
    rw [reach_neg hd, reach_neg hd]; exact h v w hv
  rename_i hd
  have hkill : ∀ v w, copyKill s (writes p) v = some w → reach (writes p :: pre) w < reach (writes p :: pre) v := by
    intro v w hv
    obtain ⟨h1, h2⟩ := Option.filter_eq_some_iff.1 hv
    unfold mdel at h1
    split at h1
    · cases h1
    · rename_i hne
      rw [reach_ne (by simpa using h2), reach_ne hne]; exact h v w h1
  split at hv
  · rename_i hc
    unfold mput at hv
    split at hv
    · rename_i hvd
      injection hv with hv; subst hv
      have hwd : writes p = p.d := by unfold writes; rw [show p.code = 2 by simpa using hc]; rfl
      have hne : p.a ≠ writes p := by
        intro e
        unfold copySkip at hp
        rw [hc, e, hwd] at hp
        simp at hp
      rw [hvd, reach_ne hne, reach_self (by omega)]
      have := reach_le pre p.a
      omega
    · exact hkill v w hv
  · exact hkill v w hv
theorem origS_lt {pre : List Int} {s : Int → Option Int} (h : InvS pre s) (has : Bool) (v : Int) : origS s has v = v ∨ reach pre (origS s has v) < reach pre v := by
  unfold origS
  split
  · rename_i hc
    simp only [Bool.and_eq_true] at hc
    obtain ⟨w, hw⟩ := Option.isSome_iff_exists.1 hc.2
    right; rw [hw]; exact h v w hw
  · exact .inl rfl
theorem origS_le {pre : List Int} {s : Int → Option Int} (h : InvS pre s) (has : Bool) (v : Int) : reach pre (origS s has v) ≤ reach pre v := by
  rcases origS_lt h has v with h | h
  · rw [h]; exact Nat.le_refl _
  · omega
theorem copyRun_w : ∀ (l : List BOp) (s : Int → Option Int) (pre : List Int), InvS pre s → wL (copyRun s l) < wL l ∨ (wL (copyRun s l) = wL l ∧ (pL pre (copyRun s l) < pL pre l ∨ copyRun s l = l))
  | [], s, pre, h => .inr ⟨rfl, .inr rfl⟩
  | o :: l, s, pre, h => by
    have hpos := rankW_pos o
    have hm := InvS_mark h o
    unfold copyRun
    by_cases hs : copySkip (copyOp (copyMark s o) o) = true
    · rw [if_pos hs]
      left
      rcases copyRun_w l (copyMark s o) pre hm with h1 | ⟨h1, _⟩
      · simp only [wL]; omega
      · simp only [wL]; omega
    · rw [if_neg hs]
      have hs' : copySkip (copyOp (copyMark s o) o) = false := by simpa using hs
      have hi := InvS_upd hm hs'
      have hr : rankW (copyOp (copyMark s o) o) = rankW o := rfl
      have hw : writes (copyOp (copyMark s o) o) = writes o := rfl
      have ha := origS_lt hm (memI o.a (reads o) && o.code != 20) o.a
      have hb := origS_lt hm (twoB o.code) o.b
      rcases copyRun_w l (copyUpd (copyMark s o) (copyOp (copyMark s o) o)) _ hi with h1 | ⟨h1, h2⟩
      · left; simp only [wL, hr]; omega
      · right
        refine ⟨by simp only [wL, hr, h1], ?_⟩
        simp only [pL, hw] at h2 ⊢
        show reach pre (origS (copyMark s o) (memI o.a (reads o) && o.code != 20) o.a) + reach pre (origS (copyMark s o) (twoB o.code) o.b) + _ < _ ∨ _
        have hle : pL (writes o :: pre) (copyRun (copyUpd (copyMark s o) (copyOp (copyMark s o) o)) l) ≤ pL (writes o :: pre) l := by
          rcases h2 with h2 | h2
          · omega
          · rw [h2]; exact Nat.le_refl _
        rcases ha with ha | ha
        · rcases hb with hb | hb
          · rcases h2 with h2 | h2
            · left; rw [ha, hb]; omega
            · right
              rw [h2]
              have : copyOp (copyMark s o) o = o := by
                show BOp.mk _ _ _ _ _ = o
                rw [ha, hb]
              rw [this]
          · left; rw [ha]; omega
        · left
          have := origS_le hm (twoB o.code) o.b
          omega
def muO (l : List BOp) : Nat := wL l * 2000000000001 + pL [] l
theorem mu_of_w {l m : List BOp} (hm : m.length ≤ 1000000) (h : wL m < wL l) : muO m < muO l := by
  have h1 := pL_le m [] 1000000 (by simpa using hm)
  have h2 : m.length * (2 * 1000000) ≤ 1000000 * (2 * 1000000) := Nat.mul_le_mul_right _ hm
  unfold muO
  omega
theorem fold_mu {b : Blk} (hb : b.ok) : foldAll b = b.ops ∨ muO (foldAll b) < muO b.ops := by
  have hlen := Nat.le_trans (foldAll_length b) hb.lops
  unfold foldAll at hlen ⊢
  split
  · rename_i hv
    rw [if_pos hv] at hlen
    rcases foldRun_w b.ops noneF with h | h
    · exact .inl h
    · exact .inr (mu_of_w hlen h)
  · exact .inl rfl
theorem copy_mu {b : Blk} (hb : b.ok) : copyAll b = b.ops ∨ muO (copyAll b) < muO b.ops := by
  have hlen := Nat.le_trans (copyAll_length b) hb.lops
  unfold copyAll at hlen ⊢
  split
  · rename_i hv
    rw [if_pos hv] at hlen
    rcases copyRun_w b.ops noneF [] (by intro v w h; cases h) with h | ⟨h1, h2⟩
    · exact .inr (mu_of_w hlen h)
    · rcases h2 with h2 | h2
      · right; unfold muO; rw [h1]; omega
      · exact .inl h2
  · exact .inl rfl
theorem dead_mu {b : Blk} (hb : b.ok) : deadAll b = b.ops ∨ muO (deadAll b) < muO b.ops := by
  have hlen := Nat.le_trans (deadAll_length b) hb.lops
  unfold deadAll at hlen ⊢
  split
  · rename_i hv
    rw [if_pos hv] at hlen
    rcases dead_w b.ops with h | h
    · exact .inl h
    · exact .inr (mu_of_w hlen h)
  · exact .inl rfl
def muB (b : Blk) : Nat := muO b.ops
/-- Each round of the fixpoint loop that changes the block makes the measure smaller. -/
theorem once_mu (b : Blk) (hb : b.ok) (h : (onceP b).ops ≠ b.ops) : muB (onceP b) < muB b := by
  have h1 := fold_mu hb
  have h2 := copy_mu (foldP_ok hb)
  have h3 := dead_mu (copyP_ok (foldP_ok hb))
  have e2 : (foldP b).ops = foldAll b := rfl
  have e3 : (copyP (foldP b)).ops = copyAll (foldP b) := rfl
  have e4 : (onceP b).ops = deadAll (copyP (foldP b)) := rfl
  unfold muB
  rw [e4] at h ⊢
  rw [e2] at h2
  rw [e3] at h3
  rcases h1 with h1 | h1
  · rcases h2 with h2 | h2
    · rcases h3 with h3 | h3
      · exact absurd (h3.trans (h2.trans h1)) h
      · rw [h2, h1] at h3; exact h3
    · rcases h3 with h3 | h3
      · rw [h3]; rw [h1] at h2; exact h2
      · rw [h1] at h2; omega
  · rcases h2 with h2 | h2
    · rcases h3 with h3 | h3
      · rw [h3, h2]; exact h1
      · rw [h2] at h3; omega
    · rcases h3 with h3 | h3
      · rw [h3]; omega
      · omega
end Go.Proofs.Ytmjfgnnefcimiaa
namespace Go.Proofs.Ytmjfgnnefcimiaa
open Go.RowKit

/-- What may stand for an operation that only writes a variable. -/
structure ReplOk (o p : BOp) : Prop where
  formed : formedB p = true
  code : 1 ≤ p.code ∧ p.code ≤ 15
  writes : writes p = writes o
  reads : ∀ v ∈ reads p, v ∈ Go.Proofs.Ytmjfgnnefcimiaa.reads o
theorem pure_code {o : BOp} (hp : pureB o = true) : 1 ≤ o.code ∧ o.code ≤ 15 ∧ writes o = o.d := by
  unfold pureB writes at hp
  simp only [Bool.and_eq_true, decide_eq_true_eq] at hp
  obtain ⟨h1, h2⟩ := hp
  split at h1
  · rename_i hd
    have hd' : 1 ≤ o.code ∧ o.code ≤ 17 := by unfold hasD at hd; simpa using hd
    have hl : leaves o.code = false := by simpa using h2
    unfold leaves at hl; rw [decide_eq_false_iff_not] at hl
    exact ⟨by omega, by omega, by unfold writes; rw [if_pos hd]⟩
  · omega
theorem ckNext_repl {s s' : Ck} {o p : BOp} {x y : Bool} (hp : pureB o = true) (hr : ReplOk o p) (h : ckNext s o x y = some s') : ckNext s p x y = some s' := by
  obtain ⟨c1, c2, _⟩ := pure_code hp
  obtain ⟨f1, ⟨d1, d2⟩, e1, e2⟩ := hr
  have code_facts : ∀ c : Int, 1 ≤ c ∧ c ≤ 15 → endsB c = false ∧ (c == 23) = false ∧ leaves c = false ∧ (c == 20) = false ∧ stores c = false := fun c hc => by
    refine ⟨?_, ?_, ?_, ?_, ?_⟩
    · unfold endsB; rw [decide_eq_false_iff_not]; omega
    · rw [beq_eq_false_iff_ne]; omega
    · unfold leaves; rw [decide_eq_false_iff_not]; omega
    · rw [beq_eq_false_iff_ne]; omega
    · unfold stores; rw [decide_eq_false_iff_not]; omega
  obtain ⟨k1, k2, k3, k4, k5⟩ := code_facts o.code ⟨c1, c2⟩
  obtain ⟨j1, j2, j3, j4, j5⟩ := code_facts p.code ⟨d1, d2⟩
  have hpl : ∀ q : BOp, endsB q.code = false → (q.code == 23) = false → leaves q.code = false → placedB s q x y = (false == x) := fun q q1 q2 q3 => by
    unfold placedB; rw [q1, q2, q3]; simp
  unfold ckNext at h ⊢
  rw [hpl o k1 k2 k3, k4, k5] at h
  rw [hpl p j1 j2 j3, f1, j4, j5, e1]
  have hf : formedB o = true ∧ (false == x) = true := by
    by_cases hc : (formedB o && (false == x)) = true
    · simpa using hc
    · rw [if_neg hc] at h; cases h
  rw [hf.1, hf.2] at h
  rw [hf.2]
  simp only [Bool.and_self, if_true, Bool.false_eq_true, if_false] at h ⊢
  by_cases hr : (reads o).all (readB s) = true
  · rw [if_pos hr] at h
    rw [if_pos (by rw [List.all_eq_true] at hr ⊢; exact fun v hv => hr v (e2 v hv))]
    exact h
  · rw [if_neg hr] at h; cases h
theorem ckRun_repl : ∀ {l : List BOp} {s s' : Ck} {i : Nat} {o p : BOp}, ckRun s l = some s' → l[i]? = some o → pureB o = true → ReplOk o p → ckRun s (l.set i p) = some s'
  | [], s, s', i, o, p, h, hi, _, _ => by simp at hi
  | q :: l, s, s', 0, o, p, h, hi, hp, hr => by
    simp at hi; subst hi
    simp only [List.set_cons_zero, ckRun] at h ⊢
    split at h
    · rename_i s1 h1
      rw [ckNext_repl hp hr h1]; exact h
    · cases h
  | q :: l, s, s', i + 1, o, p, h, hi, hp, hr => by
    have hi' : l[i]? = some o := by simpa using hi
    have h : (match ckNext s q l.isEmpty (exitNext l) with | some s' => ckRun s' l | none => none) = some s' := h
    rw [List.set_cons_succ]
    show (match ckNext s q (l.set i p).isEmpty (exitNext (l.set i p)) with | some s' => ckRun s' (l.set i p) | none => none) = some s'
    have e1 : (l.set i p).isEmpty = l.isEmpty := by cases l <;> cases i <;> rfl
    have e2 : exitNext (l.set i p) = exitNext l := by
      cases l with
      | nil => rfl
      | cons a l =>
        cases i with
        | zero =>
          simp at hi'; subst hi'
          have := pure_code hp
          have := hr.code
          show (p.code == 24) = (a.code == 24)
          rw [beq_eq_false_iff_ne.2 (by omega), beq_eq_false_iff_ne.2 (by omega)]
        | succ i => rfl
    rw [e1, e2]
    split at h
    · exact ckRun_repl h hi' hp hr
    · cases h
def headMark (l : List BOp) : Bool := match l with | [] => false | o :: _ => o.code == 20
theorem made_repl {a g : List Int} {l : List BOp} {i : Nat} {o p : BOp} (h : MadeOk ⟨a, g, l⟩) (hi : l[i]? = some o) (hp : pureB o = true) (hr : ReplOk o p) (hok : p.ok) : MadeOk ⟨a, g, l.set i p⟩ := by
  have hlen : (l.set i p).length = l.length := List.length_set
  obtain ⟨h1, h2, h3, h5⟩ := h
  refine ⟨⟨h1.at_, h1.pages, fun q hq => ?_, h1.lat, h1.lpages, ?_⟩, ?_, ?_, h5⟩
  · rcases List.mem_or_eq_of_mem_set hq with hq | rfl
    · exact h1.ops q hq
    · exact hok
  · show (l.set i p).length ≤ _; rw [hlen]; exact h1.lops
  · unfold validB at h2 ⊢
    simp only [Bool.and_eq_true] at h2 ⊢
    obtain ⟨h2, h4⟩ := h2
    refine ⟨?_, ?_⟩
    · unfold headerB at h2 ⊢
      dsimp only at h2 ⊢
      rw [hlen]
      have e : headMark (l.set i p) = headMark l := by
        cases l with
        | nil => rfl
        | cons q l =>
          cases i with
          | zero =>
            simp at hi; subst hi
            have := pure_code hp
            have := hr.code
            show (p.code == 20) = (q.code == 20)
            rw [beq_eq_false_iff_ne.2 (by omega), beq_eq_false_iff_ne.2 (by omega)]
          | succ i => rfl
      have h2 : (pagesFrom none g && decide (1 ≤ a.length ∧ a.length ≤ 64) && decide (1 ≤ l.length ∧ l.length ≤ 2000) && headMark l) = true := h2
      show (pagesFrom none g && decide (1 ≤ a.length ∧ a.length ≤ 64) && decide (1 ≤ l.length ∧ l.length ≤ 2000) && headMark (l.set i p)) = true
      rw [e]; exact h2
    · split at h4
      · rename_i s hs
        have hs2 : ckRun ⟨0, 0, false⟩ (l.set i p) = some s := ckRun_repl hs hi hp hr
        rw [hs2]; exact h4
      · cases h4
  · show (l.set i p).length ≤ _; rw [hlen]; exact h3
theorem pure_formed_d {o : BOp} (hf : formedB o = true) (hp : pureB o = true) : 0 ≤ o.d ∧ o.d < 28 ∧ o.d ≠ 19 := by
  obtain ⟨c1, c2, _⟩ := pure_code hp
  unfold formedB at hf
  simp only [Bool.and_eq_true] at hf
  have hd : fieldB (hasD o.code) o.d = true := hf.1.1.1.2
  have hD : hasD o.code = true := by unfold hasD; rw [decide_eq_true_eq]; omega
  rw [hD] at hd
  unfold fieldB at hd
  rw [if_pos rfl, decide_eq_true_eq] at hd
  exact hd
theorem repl_const {o : BOp} (hf : formedB o = true) (hp : pureB o = true) (n : Int) : ReplOk o ⟨1, o.d, 0, 0, n⟩ := by
  obtain ⟨c1, c2, hw⟩ := pure_code hp
  refine ⟨?_, by dsimp only; omega, by rw [hw]; rfl, nofun⟩
  show (isOp 1 && fieldB true o.d && fieldB false 0 && fieldB false 0 && (true || _)) = true
  have : fieldB true o.d = true := by unfold fieldB; rw [if_pos rfl, decide_eq_true_eq]; exact pure_formed_d hf hp
  rw [this]; rfl
theorem reads_field {o : BOp} (hf : formedB o = true) {v : Int} (hv : v ∈ reads o) : fieldB true v = true := by
  unfold formedB at hf
  simp only [Bool.and_eq_true] at hf
  unfold reads at hv
  rcases List.mem_append.1 hv with hv | hv
  · split at hv
    · rename_i hA
      have := hf.1.1.2
      rw [hA] at this
      simp at hv; subst hv; exact this
    · cases hv
  · split at hv
    · rename_i hB
      simp only [Bool.and_eq_true] at hB
      have := hf.1.2
      rw [hB.1] at this
      simp at hv; subst hv; exact this
    · cases hv
theorem repl_move {o : BOp} (hf : formedB o = true) (hp : pureB o = true) {v : Int} (hv : v ∈ reads o) : ReplOk o ⟨2, o.d, v, 0, 0⟩ := by
  obtain ⟨c1, c2, hw⟩ := pure_code hp
  refine ⟨?_, by dsimp only; omega, by rw [hw]; rfl, fun u hu => ?_⟩
  · show (isOp 2 && fieldB true o.d && fieldB true v && fieldB false 0 && (false || true)) = true
    have : fieldB true o.d = true := by unfold fieldB; rw [if_pos rfl, decide_eq_true_eq]; exact pure_formed_d hf hp
    rw [this, reads_field hf hv]; rfl
  · have : u ∈ [v] := hu
    simp at this; subst this; exact hv
theorem field_mid {v : Int} (h : fieldB true v = true) : mid v := by
  unfold fieldB at h; rw [if_pos rfl, decide_eq_true_eq] at h
  unfold mid; omega
end Go.Proofs.Ytmjfgnnefcimiaa
namespace Go.Proofs.Ytmjfgnnefcimiaa
open Go.RowKit

def AVle (u : AV) : AV → Prop
  | .p (.c .any) => True
  | v => u = v
def FLe (f : Fr) : Fr → Prop
  | [] => True
  | (d, x) :: r => AVle (f.get d) x ∧ FLe f r
def CLp : List CV → List CV → Prop
  | [], [] => True
  | c :: l, d :: m => (match d with | .any => True | d => c = d) ∧ CLp l m
  | _, _ => False
def CLe (l m : List CV) : Prop := l = m ∨ CLp l m
def OLe : Ow → Ow → Prop
  | .cells t l, .cells t' l' => t = t' ∧ CLe l l'
  | .row e s n xs, .row e' s' n' xs' => e = e' ∧ s = s' ∧ n = n' ∧ xs = xs'
  | .view φ n xs, .view φ' n' xs' => φ = φ' ∧ n = n' ∧ xs = xs'
  | .ext φ, .ext ψ => ∀ b w, φ b w → ψ b w
  | _, .gone => True
  | _, _ => False
def SLe : List Ow → List Ow → Prop
  | _, [] => True
  | o :: S, o' :: S' => OLe o o' ∧ SLe S S'
  | [], _ :: _ => False
theorem AVle.den {r : Env} {u v : AV} {x : Value} (h : AVle u v) (hd : u.den r x) : v.den r x := by
  unfold AVle at h
  split at h
  · simp [AV.den, Pc.den, CV.den]
  · subst h; exact hd
theorem FLe.get {f : Fr} : ∀ {g : Fr} (k : Nat), FLe f g → g.get k = .p (.c .any) ∨ AVle (f.get k) (g.get k)
  | [], k, _ => .inl rfl
  | (d, x) :: r, k, h => by
    simp only [Fr.get]
    split
    · rename_i hk; have := Nat.eq_of_beq_eq_true hk; subst this; exact .inr h.1
    · exact FLe.get k h.2
theorem FLe.den {r : Env} {f g : Fr} {a : Act} (h : FLe f g) (hf : FDen r f a) : FDen r g a := fun k => by
  rcases h.get k with h1 | h1
  · rw [h1]; simp [AV.den, Pc.den, CV.den]
  · exact h1.den (hf k)
theorem CLp.den {r : Env} : ∀ {l m : List CV} {us : List Value}, CLp l m → denL r l us → denL r m us
  | [], [], us, _, hd => hd
  | c :: l, d :: m, us, h, hd => by
    simp only [denL] at hd ⊢
    obtain ⟨u, l', hu, hc, hl⟩ := hd
    refine ⟨u, l', hu, ?_, CLp.den h.2 hl⟩
    have h1 := h.1
    split at h1
    · simp only [CV.den]
    · subst h1; exact hc
  | [], _ :: _, _, h, _ => h.elim
  | _ :: _, [], _, h, _ => h.elim
theorem CLe.den {r : Env} {l m : List CV} {us : List Value} (h : CLe l m) (hd : denL r l us) : denL r m us := by
  rcases h with rfl | h
  · exact hd
  · exact h.den hd
theorem OLe.holds {r : Env} {w : World} {i : Nat} {o o' : Ow} (h : OLe o o') (ho : o.holds r w i) : o'.holds r w i := by
  cases o <;> cases o' <;> simp only [OLe] at h
  · obtain ⟨rfl, hl⟩ := h; obtain ⟨b, us, h1, h2, h3⟩ := ho; exact ⟨b, us, h1, h2, hl.den h3⟩
  · trivial
  · obtain ⟨rfl, rfl, rfl, rfl⟩ := h; exact ho
  · trivial
  · obtain ⟨b, h1, h2, h3⟩ := ho; exact ⟨b, h1, h b w h2, fun w' hw => h b w' (h3 w' hw)⟩
  · trivial
  · obtain ⟨rfl, rfl, rfl⟩ := h; exact ho
  · trivial
  · trivial
theorem SLe.get : ∀ {S S' : List Ow} {i : Nat} {o' : Ow}, SLe S S' → S'[i]? = some o' → ∃ o, S[i]? = some o ∧ OLe o o'
  | _, [], i, o', _, h => by simp at h
  | [], _ :: _, _, _, h, _ => h.elim
  | o :: S, o1 :: S', 0, o', h, hi => by simp at hi; subst hi; exact ⟨o, by simp, h.1⟩
  | o :: S, o1 :: S', i + 1, o', h, hi => by simpa using SLe.get h.2 (by simpa using hi)
theorem SLe.length : ∀ {S S' : List Ow}, SLe S S' → S'.length ≤ S.length
  | _, [], _ => by simp
  | [], _ :: _, h => h.elim
  | o :: S, o1 :: S', h => by simp; exact SLe.length h.2

section
variable {P : Program} {w0 : World} {G : Gs} {N : Nd} {f f' : Fr} {S S' : List Ow}
theorem ent_refl : Ent w0 G N f S f S := ⟨fun _ _ h => h⟩
theorem ent_trans {f2 : Fr} {S2 : List Ow} (h : Ent w0 G N f S f' S') (k : Ent w0 G N f' S' f2 S2) : Ent w0 G N f S f2 S2 := ⟨fun a w hg => k.out a w (h.out a w hg)⟩
/-- As many own entries as before. -/
theorem ent_same (hl : S.length = S'.length) (hf : FLe f f') (hS : SLe S S') : Ent w0 G N f S f' S' := ⟨fun a w ⟨r, hR, hd, hN, hdf⟩ =>
  ⟨r, ⟨hR.os, hR.tape, hR.output, hR.size, hR.old, fun i o' hi => by obtain ⟨o, ho, hle⟩ := hS.get hi; exact hle.holds (hR.own i o ho), hR.inj, hR.new, fun i hi => hR.outB i (by omega), fun i hi => hR.outV i (by omega), hR.first⟩, hf.den hd, hN, hdf⟩⟩
/-- Fewer: what is left names none of the others. -/
theorem ent_drop (hf : FLe f f') (hS : SLe S S') (hb : Fr.bnd S'.length f' = true) (hg : grpOk G S' = true) : Ent w0 G N f S f' S' := ⟨fun a w ⟨r, hR, hd, hN, hdf⟩ => by
  unfold grpOk at hg
  split at hg
  · rename_i hG
    refine ⟨r.upto S'.length, hR.upto rfl hS.length (Nat.le_of_ble_eq_true hG) fun i o' hi => ?_, (hf.den hd).agree (Env.upto_agree _ _) hb, hN, hdf⟩
    have hil : i < S'.length := by
      rcases Nat.lt_or_ge i S'.length with h1 | h1
      · exact h1
      · rw [List.getElem?_eq_none h1] at hi; cases hi
    obtain ⟨o, ho, hle⟩ := hS.get hi
    exact Ow.holds_agree (hle.holds (hR.own i o ho)) (Env.upto_agree _ _) (sbnd_get hg hi) hil (Env.upto_blk _ _)
  · cases hg⟩
/-- A slot that holds nil is a row of the call's own, of no elements. -/
theorem ent_row (d : Nat) (e : TypeId) (size : Nat) (h : f.get d = one (.slice none 0 0)) : Ent w0 G N f S ((d, .p (.c (.row S.length))) :: f) (S ++ [.row e size 0 []]) := ⟨fun a w ⟨r, hR, hf, hN, hd⟩ => by
  have hle := hR.le_new none (some (.slice none 0 0))
  have hdd := hf d
  rw [h] at hdd
  have hv := den_v hdd
  refine ⟨r.set S.length none (some (.slice none 0 0)), hR.snoc (Below.refl _ _) nofun ⟨.slice none 0 0, by simp [Env.set], by simp [Env.set, Value.ownBlock], by simp, .inl ⟨rfl, rfl⟩⟩, fun k => ?_, hN, hd⟩
  simp only [Fr.get]
  split
  · rename_i hk
    have := Nat.eq_of_beq_eq_true hk; subst this
    simp only [AV.den, Pc.den, CV.den]; rw [hv]; simp [Env.set]
  · exact (hf.mono hle) k⟩
end

/-! Functions. -/
def argFr : List AV → Nat → Fr
  | [], _ => []
  | x :: l, k => (k, x) :: argFr l (k + 1)
def resV (P : Program) (w0 : World) (G : Gs) (S : List Ow) (f : Fr) : ResultVar → (AV → Prop) → Prop
  | .tmp t, K => forceAV (f.get t) K
  | .cell t ty, K => loadK P w0 G S ty (f.get t) K
def resL (P : Program) (w0 : World) (G : Gs) (S : List Ow) (f : Fr) : List ResultVar → (List AV → Prop) → Prop
  | [], K => K []
  | x :: l, K => resV P w0 G S f x fun v => resL P w0 G S f l fun vs => K (v :: vs)
def toPcs : List AV → Option (List Pc)
  | [] => some []
  | .p x :: l => (match toPcs l with | some m => some (x :: m) | none => none)
  | _ => none
/-- The results, as one value. -/
def resK (P : Program) (w0 : World) (G : Gs) (S : List Ow) (f : Fr) (rs : List ResultVar) (K : AV → Prop) : Prop :=
  resL P w0 G S f rs fun vs => match vs with
    | [v] => K v
    | vs => (match toPcs vs with | some m => K (.tup m) | none => False)
/-- The end of a function: the post of every value and world of this kind. -/
structure Fin (w0 : World) (G : Gs) (S : List Ow) (v : AV) (R : Ending → World → Prop) : Prop where
  out : ∀ r w u, Rel w0 G S r w → v.den r u → R (.returned u) w
def RetK (P : Program) (w0 : World) (G : Gs) (rs : List ResultVar) (R : Ending → World → Prop) : Exit → Fr → List Ow → Prop := fun e f S => match e with
  | .normal => resK P w0 G S f rs fun v => Fin w0 G S v R
  | .ret => resK P w0 G S f rs fun v => Fin w0 G S v R
  | _ => False
def resS (a : Act) (x : ResultVar) : Sem Value := match x with | .tmp t => pure (a.tmps.getD t undef) | .cell t ty => do loadVar ty (← asAddr (a.tmps.getD t undef))
theorem resV_sound {P : Program} {w0 : World} {G : Gs} {S : List Ow} {f : Fr} {x : ResultVar} {K : AV → Prop} (h : resV P w0 G S f x K) {r : Env} {w : World} (hR : Rel w0 G S r w) {a : Act} (hf : FDen r f a) :
    ∃ v u, K v ∧ v.den r u ∧ (resS a x).run P w = .ok u w := by
  cases x with
  | tmp t => exact ⟨_, _, forceAV_iff.1 h, hf t, rfl⟩
  | cell t ty =>
    obtain ⟨v, u, hK, hd, hrun⟩ := loadK_sound h hR (hf t)
    refine ⟨v, u, hK, hd, ?_⟩
    show (asAddr (a.tmps.getD t undef) >>= fun x => loadVar ty x).run P w = _
    have := hrun w (Below.refl _ _)
    simp only [Instr.loadAt] at this
    generalize a.tmps.getD t undef = x at this ⊢
    cases x with
    | pointer p =>
      cases p with
      | none => simp [Instr.sureAddr] at this
      | some p => simpa [Instr.sureAddr, asAddr] using this
    | _ => simp [Instr.sureAddr] at this
theorem resL_sound {P : Program} {w0 : World} {G : Gs} {S : List Ow} {f : Fr} {r : Env} {w : World} (hR : Rel w0 G S r w) {a : Act} (hf : FDen r f a) : ∀ {xs : List ResultVar} {K : List AV → Prop}, resL P w0 G S f xs K →
    ∃ vs us, K vs ∧ avdenL r vs us ∧ (xs.mapM (resS a)).run P w = .ok us w
  | [], K, h => ⟨[], [], h, rfl, by simp⟩
  | x :: xs, K, h => by
    obtain ⟨v, u, h1, hd, hrun⟩ := resV_sound h hR hf
    obtain ⟨vs, us, hK, hds, hruns⟩ := resL_sound hR hf h1
    exact ⟨v :: vs, u :: us, hK, ⟨u, us, rfl, hd, hds⟩, by simp only [List.mapM_cons, Sem.run_bind, hrun, hruns, Result.andThen_ok, Sem.run_pure]⟩
theorem toPcs_den {r : Env} : ∀ {vs : List AV} {m : List Pc} {us : List Value}, toPcs vs = some m → avdenL r vs us → pdenL r m us
  | [], m, us, h, hd => by injection h with h; subst h; exact hd
  | v :: vs, m, us, h, hd => by
    cases v with
    | tup l => simp [toPcs] at h
    | p x =>
      simp only [toPcs] at h
      split at h
      · rename_i m' hm
        injection h with h; subst h
        obtain ⟨u, l, rfl, h1, h2⟩ := hd
        exact ⟨u, l, rfl, h1, toPcs_den hm h2⟩
      · cases h
theorem avdenL_length {r : Env} : ∀ {l : List AV} {us : List Value}, avdenL r l us → us.length = l.length
  | [], us, h => by rw [show us = [] from h]; rfl
  | c :: l, us, h => by obtain ⟨u, l', rfl, _, h2⟩ := h; simp [avdenL_length h2]
theorem resK_sound {P : Program} {w0 : World} {G : Gs} {S : List Ow} {f : Fr} {fn : Func} {K : AV → Prop} (h : resK P w0 G S f fn.results.toList K) {r : Env} {w : World} (hR : Rel w0 G S r w) {a : Act} (hf : FDen r f a) :
    ∃ v u, K v ∧ v.den r u ∧ (results fn a.tmps).run P w = .ok u w := by
  obtain ⟨vs, us, hK, hd, hrun⟩ := resL_sound hR hf h
  have hres : (results fn a.tmps).run P w = .ok (if h : us.toArray.size = 1 then us.toArray[0] else .tuple us.toArray) w := by
    unfold results
    rw [Array.mapM_eq_mapM_toList]
    simp only [Sem.run_bind, Sem.run_map]
    erw [hrun]
    simp
  split at hK
  · rename_i v
    obtain ⟨u, l, rfl, h1, h2⟩ := hd
    have : l = [] := h2
    subst this
    exact ⟨v, u, hK, h1, by rw [hres]; simp⟩
  · rename_i hne
    split at hK
    · rename_i m hm
      refine ⟨_, .tuple us.toArray, hK, ⟨us, rfl, toPcs_den hm hd⟩, ?_⟩
      rw [hres, dif_neg]
      intro h1
      obtain ⟨v, hv⟩ := List.length_eq_one_iff.1 ((avdenL_length hd).symm.trans (by simpa using h1))
      exact hne v hv
    · exact hK.elim
theorem argFr_get {r : Env} {tmps : Array Value} : ∀ (avs : List AV) (us : List Value) (k : Nat), avdenL r avs us → (∀ j u, us[j]? = some u → tmps.getD (k + j) undef = u) → ∀ i, ((argFr avs k).get i).den r (tmps.getD i undef)
  | [], us, k, _, _, i => by simp [argFr, Fr.get, AV.den, Pc.den, CV.den]
  | v :: avs, us, k, hd, h, i => by
    obtain ⟨u, l, rfl, h1, h2⟩ := hd
    simp only [argFr, Fr.get]
    split
    · rename_i hk; have := Nat.eq_of_beq_eq_true hk; subst this
      have := h 0 u rfl
      rw [Nat.add_zero] at this
      rw [this]; exact h1
    · exact argFr_get avs l (k + 1) h2 (fun j u hj => by have := h (j + 1) u (by simpa using hj); rw [← this]; congr 1; omega) i
/-- A function's contract by the walk of its body. -/
theorem calls_vc {P : Program} {fid : FuncId} {fn : Func} {c : Code} {N : Nat} (hf : P.funcs[fid]? = some fn) (hN : fn.ntmps = N) (hb : fn.body = some c) {w0 : World} {G : Gs} {S0 : List Ow} {r0 : Env} (hR : Rel w0 G S0 r0 w0)
    {avs : List AV} {args : List Value} (hargs : avdenL r0 avs args) (hle : args.length ≤ N) {R : Ending → World → Prop} (h : vc none P w0 G ⟨N, []⟩ c (argFr avs 0) S0 (RetK P w0 G fn.results.toList R)) : Calls P fid args.toArray w0 R := by
  refine calls_of_wp hf hb (Code.wp_mono ?_ (wpIn_wide.1 ((vc_sound c _ _ _ h).out 20 _ w0 ⟨r0, hR, ?_, ?_, rfl⟩)))
  · rintro e a w ⟨f, S, hk, r, hR', hf', hN', hd'⟩
    cases e with
    | normal =>
      obtain ⟨v, u, hK, hd, hrun⟩ := resK_sound hk hR' hf'
      exact ⟨hd', u, hrun, hK.out r w u hR' hd⟩
    | ret =>
      obtain ⟨v, u, hK, hd, hrun⟩ := resK_sound hk hR' hf'
      exact ⟨hd', u, hrun, hK.out r w u hR' hd⟩
    | exit id => exact hk.elim
    | goto l => exact hk.elim
    | panic ch => exact hk.elim
    | outgrown => exact hk.elim
  · intro i
    refine argFr_get avs args 0 hargs (fun j u hj => ?_) i
    rw [Nat.zero_add, Array.getD_eq_getD_getElem?, Array.getElem?_append_left (by simp; rcases Nat.lt_or_ge j args.length with h1 | h1; exact h1; rw [List.getElem?_eq_none h1] at hj; cases hj)]
    simp [hj]
  · simp; omega
def Env.none : Env := ⟨fun _ => Option.none, fun _ => Option.none⟩
theorem rel_none (w : World) : Rel w Gs.nil [] Env.none w :=
  ⟨rfl, rfl, rfl, Nat.le_refl _, fun _ _ _ => rfl, by simp, nofun, nofun, fun _ _ => rfl, fun _ _ => rfl, (by intro i g h; simp [Gs.nil] at h)⟩
theorem Rel.toBelow {w0 w : World} {S : List Ow} {r : Env} (h : Rel w0 Gs.nil S r w) : Below w0.heap.size w0 w := ⟨h.os, h.tape, h.output, h.size, fun k hk => h.old k hk (by simp)⟩
/-- A call whose contract leaves alone what lay there and hands back the value x. -/
theorem callS_val {P : Program} {w0 : World} {G : Gs} {fid : FuncId} {args : List AV} {S : List Ow} {K : AV → List Ow → Prop} (x : Value) (hok : fnOk P fid = true)
    (h : ∀ r w us, Rel w0 G S r w → avdenL r args us → Calls P fid us.toArray w fun e w' => e = .returned x ∧ Below w.heap.size w w') (hK : K (AV.of x) S) : CallS P w0 G fid args S K :=
  ⟨hok, fun r w us hR hd => (h r w us hR hd).mono fun _e _w' ⟨he, hb⟩ => ⟨_, x, S, r, he, AV.of_den r x, hR.below hb, Env.le.refl r, hK⟩⟩
/-- What is known whole. -/
def CV.val : CV → Option Value
  | .v x => some x
  | .clo f [] => some (.func f #[] #[])
  | _ => none
def valL : List CV → Option (List Value)
  | [] => some []
  | c :: l => match c.val with | some x => (match valL l with | some m => some (x :: m) | none => none) | none => none
def Pc.val : Pc → Option Value
  | .c x => x.val
  | .agg l => (match valL l with | some m => some (.agg m.toArray) | none => none)
def pvalL : List Pc → Option (List Value)
  | [] => some []
  | c :: l => match c.val with | some x => (match pvalL l with | some m => some (x :: m) | none => none) | none => none
def AV.val : AV → Option Value
  | .p x => x.val
  | .tup l => (match pvalL l with | some m => some (.tuple m.toArray) | none => none)
def avals : List AV → Option (List Value)
  | [] => some []
  | c :: l => match c.val with | some x => (match avals l with | some m => some (x :: m) | none => none) | none => none
theorem CV.val_den {r : Env} {c : CV} {x u : Value} (h : c.val = some x) (hd : c.den r u) : u = x := by
  unfold CV.val at h
  split at h
  · injection h with h; subst h; simpa only [CV.den] using hd
  · injection h with h; subst h
    simp only [CV.den, denL] at hd; obtain ⟨us, rfl, rfl⟩ := hd; rfl
  · cases h
theorem valL_den {r : Env} : ∀ {l : List CV} {xs us : List Value}, valL l = some xs → denL r l us → us = xs
  | [], xs, us, h, hd => by injection h with h; subst h; simpa only [denL] using hd
  | c :: l, xs, us, h, hd => by
    simp only [denL] at hd; obtain ⟨u, m, rfl, h1, h2⟩ := hd
    simp only [valL] at h
    split at h
    · rename_i x hx
      split at h
      · rename_i m' hm
        injection h with h; subst h
        rw [CV.val_den hx h1, valL_den hm h2]
      · cases h
    · cases h
theorem Pc.val_den {r : Env} {c : Pc} {x u : Value} (h : c.val = some x) (hd : c.den r u) : u = x := by
  unfold Pc.val at h
  split at h
  · exact CV.val_den h hd
  · split at h
    · rename_i m hm
      injection h with h; subst h
      obtain ⟨us, rfl, hl⟩ := hd
      rw [valL_den hm hl]
    · cases h
theorem pvalL_den {r : Env} : ∀ {l : List Pc} {xs us : List Value}, pvalL l = some xs → pdenL r l us → us = xs
  | [], xs, us, h, hd => by injection h with h; subst h; exact hd
  | c :: l, xs, us, h, hd => by
    obtain ⟨u, m, rfl, h1, h2⟩ := hd
    simp only [pvalL] at h
    split at h
    · rename_i x hx
      split at h
      · rename_i m' hm
        injection h with h; subst h
        rw [Pc.val_den hx h1, pvalL_den hm h2]
      · cases h
    · cases h
theorem AV.val_den {r : Env} {c : AV} {x u : Value} (h : c.val = some x) (hd : c.den r u) : u = x := by
  unfold AV.val at h
  split at h
  · exact Pc.val_den h hd
  · split at h
    · rename_i m hm
      injection h with h; subst h
      obtain ⟨us, rfl, hl⟩ := hd
      rw [pvalL_den hm hl]
    · cases h
theorem avals_den {r : Env} : ∀ {l : List AV} {xs us : List Value}, avals l = some xs → avdenL r l us → us = xs
  | [], xs, us, h, hd => by injection h with h; subst h; exact hd
  | c :: l, xs, us, h, hd => by
    obtain ⟨u, m, rfl, h1, h2⟩ := hd
    simp only [avals] at h
    split at h
    · rename_i x hx
      split at h
      · rename_i m' hm
        injection h with h; subst h
        rw [AV.val_den hx h1, avals_den hm h2]
      · cases h
    · cases h
section
variable {P : Program} {w0 : World} {G : Gs} {fid : FuncId} {args : List AV} {S : List Ow} {K : AV → List Ow → Prop} {xs : List Value} {x : Value}
/-- A call by its contract, of arguments that are known whole. -/
theorem call_con (hx : avals args = some xs) (hok : fnOk P fid = true) (h : ∀ r w, Rel w0 G S r w → Calls P fid xs.toArray w fun e w' => e = .returned x ∧ Below w.heap.size w w') (hK : K (AV.of x) S) : CallS P w0 G fid args S K :=
  callS_val x hok (fun r w us hR hd => by rw [avals_den hx hd]; exact h r w hR) hK
theorem call_same (hx : avals args = some xs) (hok : fnOk P fid = true) (h : ∀ r w, Rel w0 G S r w → Calls P fid xs.toArray w fun e w' => e = .returned x ∧ w = w') (hK : K (AV.of x) S) : CallS P w0 G fid args S K :=
  call_con hx hok (fun r w hR => (h r w hR).mono fun e w' ⟨h1, h2⟩ => ⟨h1, by subst h2; exact Below.refl _ _⟩) hK
/-- The end of a function that leaves old memory alone and hands back what is known whole. -/
theorem fin_val {v : AV} {R : Ending → World → Prop} (hv : v.val = some x) (h : ∀ w, Below w0.heap.size w0 w → R (.returned x) w) : Fin w0 Gs.nil S v R := ⟨fun r w u hR hd => by rw [AV.val_den hv hd]; exact h w hR.toBelow⟩
end
end Go.Proofs.Ytmjfgnnefcimiaa
namespace Go.Proofs.Ytmjfgnnefcimiaa
open Go.RowKit

theorem run_append_src {P : Program} {w : World} (base : Nat) (t ty e : TypeId) (i : TypeInfo) (z : Value) (ht : P.underlying t = some (.slice e)) (hi : P.info? e = some i) (hz : i.zero = some z)
    (hzs : z.cells.size = i.size) (hsz : 0 < i.size) (v : Value) (n : Nat) (xs : List Value) (hown : w.ownsRow base e i.size v n xs)
    (A : Option Addr) (m c : Nat) (news : List Value) (hl : news.length = m * i.size) (hnews : ∀ j u, news[j]? = some u → ∃ b off, A = some ⟨b, off, none⟩ ∧ w.cell? ⟨b, off + j, none⟩ = some u) (h1 : ∀ u ∈ news, u.oneCell' = true)
    (h63 : n + m ≤ 1000000000) (hbytes : i.bytes ≤ 100000) (hbase : base ≤ w.heap.size) :
    ∃ v' w', (Builtin.append_ #[t, t] ty #[v, .slice A m c]).run P w = .ok v' w' ∧ w'.ownsRow base e i.size v' (n + m) (xs ++ news) ∧ w.grownBy w' v.ownBlock ∧ (v'.ownBlock = v.ownBlock ∨ v'.ownBlock = some w.heap.size) := by
  have hm : (n + m) * i.bytes ≤ 1000000000 * 100000 := Nat.mul_le_mul h63 hbytes
  cases A with
  | some ad =>
    obtain ⟨v', w', h2, h3, h4, _, h5⟩ := run_append_own_at (P := P) w base t ty e i z i.size i.bytes ht hi hz rfl rfl hzs hsz v n xs hown ad m c news hl (fun j u hj => by
      obtain ⟨b, off, hA, hc⟩ := hnews j u hj
      injection hA with hA; subst hA; rw [addr_add]; exact hc) h1 (by unfold maxLen; omega) (by omega) hbase
    exact ⟨v', w', h2, h3, h4, h5⟩
  | none =>
    have hnil : news = [] := by
      cases news with
      | nil => rfl
      | cons u l => obtain ⟨b, off, hA, _⟩ := hnews 0 u rfl; cases hA
    subst hnil
    have hm0 : m = 0 := by
      rcases Nat.eq_zero_or_pos m with h | h
      · exact h
      · have := Nat.mul_le_mul h hsz; simp at hl; omega
    subst hm0
    obtain ⟨A', c', hv, _, hc, _⟩ := own_slice hown
    refine ⟨v, w, ?_, by simpa using hown, World.grownBy.refl _ _, .inl rfl⟩
    subst hv
    have hut : ∀ w : World, (underlying t).run P w = .ok (.slice e) w := fun w => by simp [underlying, ht]
    simp [Builtin.append_, hut, run_sizeOf P e w hi, Builtin.lenOf, Builtin.firstCells, hc]
    cases A' <;> simp [storeCells]

theorem Rel.append {w0 : World} {G : Gs} {S : List Ow} {r : Env} {w w' : World} (h : Rel w0 G S r w) {i : Nat} {e : TypeId} {size n n' : Nat} {xs xs' : List Value} {v v' : Value} (hS : S[i]? = some (.row e size n xs)) (hG : G.fix.length ≤ i) (hv : r.val i = some v)
    (hown : w'.ownsRow 0 e size v' n' xs') (hg : w.grownBy w' v.ownBlock) (hb : v'.ownBlock = v.ownBlock ∨ v'.ownBlock = some w.heap.size) :
    Rel w0 G ((killS i S).set i (.row e size n' xs')) (r.set i v'.ownBlock (some v')) w' ∧ But i r (r.set i v'.ownBlock (some v')) := by
  have hbut : But i r (r.set i v'.ownBlock (some v')) := fun j hj => by simp [Env.set, hj]
  have hil : i < S.length := by
    rcases Nat.lt_or_ge i S.length with h1 | h1
    · exact h1
    · rw [List.getElem?_eq_none h1] at hS; cases hS
  obtain ⟨v2, hv2, hob, _⟩ := h.own i _ hS
  rw [hv] at hv2; injection hv2 with hv2; subst hv2
  have hnewlt : ∀ x, v'.ownBlock = some x → x < w'.heap.size := fun x hx => by
    rcases hown.2 with ⟨h1, _⟩ | ⟨g, cap, cur, h1, _, hh, _⟩
    · rw [h1] at hx; cases hx
    · rw [h1] at hx; simp [Value.ownBlock] at hx; subst hx
      rcases Nat.lt_or_ge g w'.heap.size with h2 | h2
      · exact h2
      · rw [Array.getElem?_eq_none h2] at hh; cases hh
  have hblk : ∀ j x, r.blk j = some x → j ≠ i → w'.heap[x]? = w.heap[x]? := fun j x hx hj => hg.block x (h.new j x hx).1 (fun e => hj (h.inj j i x hx (by rw [← hob]; exact e.symm)))
  refine ⟨⟨hg.os.trans h.os, hg.tape.trans h.tape, hg.output.trans h.output, Nat.le_trans h.size hg.size, fun k hk hkG => ?_, fun j o hj => ?_, fun a b x ha hb' => ?_, fun j x hj => ?_, fun j hj => ?_, fun j hj => ?_, fun j g hj => ?_⟩, hbut⟩
  · rw [hg.block k (Nat.lt_of_lt_of_le hk h.size) (fun e => hkG ((h.new i k (by rw [← hob]; exact e.symm)).2 hk))]
    exact h.old k hk hkG
  · by_cases hij : i = j
    · subst hij
      rw [List.getElem?_set_self (by rw [killS_length]; exact hil)] at hj
      injection hj with hj; subst hj
      exact ⟨v', by simp [Env.set], by simp [Env.set], hown⟩
    · rw [List.getElem?_set_ne hij, killS_get] at hj
      cases hSj : S[j]? with
      | none => rw [hSj] at hj; cases hj
      | some o' =>
        rw [hSj] at hj
        simp at hj; subst hj
        have h1 := Ow.holds_block (h.own j o' hSj) (fun x hx => hblk j x hx (Ne.symm hij)) hg.size (fun x hx hno => hg.block x hx (fun e => hno i (by rw [← hob]; exact e.symm)))
        cases o' with
        | view φ m ys =>
          obtain ⟨A, c, h2, h3, h4, h5, h6⟩ := h.own j _ hSj
          refine ⟨A, c, by rw [← (hbut j (Ne.symm hij)).2]; exact h2, h3, h4, by rw [← (hbut j (Ne.symm hij)).1]; exact h5, fun k u hk => ?_⟩
          obtain ⟨b, off, h7, h8, h9, h10⟩ := h6 k u hk
          refine ⟨b, off, h7, Nat.lt_of_lt_of_le h8 hg.size, fun q hq => ?_, (World.cell?_of_block (w := w) (a := ⟨b, off + k, none⟩) (hg.block b h8 (fun e => h9 i (by rw [← hob]; exact e.symm)))).trans h10⟩
          by_cases hqi : q = i
          · subst hqi
            simp [Env.set] at hq
            rcases hb with hb | hb
            · rw [hb, hob] at hq; exact h9 q hq
            · rw [hb] at hq; injection hq with hq; omega
          · exact h9 q (by rw [(hbut q hqi).1]; exact hq)
        | cells t l => obtain ⟨b, us, h2, h3, h4⟩ := h1; exact ⟨b, us, by rw [← (hbut j (Ne.symm hij)).1]; exact h2, h3, killL_den hbut h4⟩
        | row e s n xs => obtain ⟨v, h2, h3, h4⟩ := h1; exact ⟨v, by rw [← (hbut j (Ne.symm hij)).2]; exact h2, by rw [← (hbut j (Ne.symm hij)).1]; exact h3, h4⟩
        | ext φ => obtain ⟨b, h2, h3⟩ := h1; exact ⟨b, by rw [← (hbut j (Ne.symm hij)).1]; exact h2, h3⟩
        | gone => trivial
  · have fresh : ∀ j x, j ≠ i → r.blk j = some x → v'.ownBlock = some x → False := fun j x hj hx he => by
      rcases hb with hb | hb
      · rw [hb, hob] at he; exact hj (h.inj j i x hx he)
      · rw [hb] at he; injection he with he; have := (h.new j x hx).1; omega
    simp only [Env.set] at ha hb'
    split at ha <;> split at hb'
    · omega
    · exact (fresh b x (by assumption) hb' ha).elim
    · exact (fresh a x (by assumption) ha hb').elim
    · exact h.inj a b x ha hb'
  · simp only [Env.set] at hj
    split at hj
    · refine ⟨hnewlt x hj, fun hlt => ?_⟩
      rcases hb with hb | hb
      · rw [hb, hob] at hj; exact (h.new i x hj).2 hlt
      · rw [hb] at hj; injection hj with hj; have := h.size; omega
    · exact ⟨Nat.lt_of_lt_of_le (h.new j x hj).1 hg.size, (h.new j x hj).2⟩
  · have hj' : S.length ≤ j := by simpa [killS_length] using hj
    simp only [Env.set]; rw [if_neg (by omega)]; exact h.outB j hj'
  · have hj' : S.length ≤ j := by simpa [killS_length] using hj
    simp only [Env.set]; rw [if_neg (by omega)]; exact h.outV j hj'
  · have : j < G.fix.length := by
      rcases Nat.lt_or_ge j G.fix.length with h1 | h1
      · exact h1
      · rw [List.getElem?_eq_none h1] at hj; cases hj
    simp only [Env.set]; rw [if_neg (by omega)]; exact h.first j g hj

/-- A slice from before the call, read as a list. -/
def SlOld (w0 : World) (G : Gs) (A : Option Addr) (xs : List Value) : Prop := ∀ j u, xs[j]? = some u → ∃ b off, A = some ⟨b, off, none⟩ ∧ b < w0.heap.size ∧ b ∉ G ∧ w0.cell? ⟨b, off + j, none⟩ = some u
/-- What is appended. -/
def srcK (w0 : World) (G : Gs) (S : List Ow) (size i : Nat) (x : AV) (K : Nat → List Value → Prop) : Prop :=
  match x with
  | .p (.c (.sl j off m _)) => (match S[j]? with
    | some (.cells _ l) => (match cut l off (m * size) with
      | some cs => (match onesL S cs with
        | true => (match valsOf cs with | some us => K m us | none => False)
        | false => False)
      | none => False)
    | _ => False)
  | .p (.c (.v (.slice A m _))) => ∃ xs : List Value, SlOld w0 G A xs ∧ xs.length = m * size ∧ (∀ u ∈ xs, u.oneCell' = true) ∧ K m xs
  | .p (.c (.row j)) => (match Nat.beq i j with
    | true => False
    | false => (match S[j]? with
      | some (.row _ size' n xs) => size' = size ∧ (∀ u ∈ xs, u.oneCell' = true) ∧ K n xs
      | _ => False))
  | _ => False
/-- The frame in which nothing names own entry i, written out. -/
def fillF (i : Nat) : Fr → (Fr → Prop) → Prop
  | [], K => K []
  | (d, x) :: f, K => forceAV (x.kill i) fun x' => fillF i f fun f' => K ((d, x') :: f')
theorem fillF_iff {i : Nat} : ∀ {f : Fr} {K : Fr → Prop}, fillF i f K ↔ K (Fr.kill i f)
  | [], _ => Iff.rfl
  | (d, x) :: f, K => by unfold fillF; rw [forceAV_iff, fillF_iff]; rfl
def appK (P : Program) (w0 : World) (G : Gs) (o : Oper) (f : Fr) (S : List Ow) (s x : Operand) (t : TypeId) (K : Fr → List Ow → Prop) : Prop :=
  match P.underlying t with
  | some (.slice e) => (match P.info? e with
    | some inf => (match inf.zero with
      | some z => (match Nat.beq z.cells.size inf.size, Nat.blt 0 inf.size, Nat.ble inf.bytes 100000 with
        | true, true, true => (match f.ev s with
          | .p (.c (.row i)) => (match S[i]? with
            | some (.row e' size' n xs) => (match Nat.beq e' e, Nat.beq size' inf.size, Nat.ble G.fix.length i with
              | true, true, true => srcK w0 G S inf.size i (f.ev x) fun m news => n + m ≤ 1000000000 ∧ forceL ((killS i S).set i (.row e inf.size (n + m) (xs ++ news))) fun S' => fillF i f fun f' => f'.putK o.dst (.p (.c (.row i))) fun f' => K f' S'
              | _, _, _ => False)
            | _ => False)
          | .p (.c (.v (.slice none 0 0))) => lenK S fun i => (match Nat.ble G.fix.length i with
            | true => srcK w0 G S inf.size i (f.ev x) fun m news => m ≤ 1000000000 ∧ forceL (killS i S ++ [.row e inf.size m news]) fun S' => fillF i f fun f' => f'.putK o.dst (.p (.c (.row i))) fun f' => K f' S'
            | false => False)
          | _ => False)
        | _, _, _ => False)
      | none => False)
    | none => False)
  | _ => False
theorem oneCell_of {u : Value} (h : (∀ x, u ≠ .agg x) ∧ (∀ x, u ≠ .tuple x)) : u.oneCell' = true := by
  cases u <;> first | rfl | exact absurd rfl (h.1 _) | exact absurd rfl (h.2 _)
theorem srcK_sound {w0 : World} {G : Gs} {S : List Ow} {size i : Nat} {x : AV} {K : Nat → List Value → Prop} (h : srcK w0 G S size i x K) {r : Env} {w : World} (hR : Rel w0 G S r w) {u : Value} (hd : x.den r u) :
    ∃ A m c news, u = .slice A m c ∧ K m news ∧ news.length = m * size ∧ (∀ j x, news[j]? = some x → ∃ b off, A = some ⟨b, off, none⟩ ∧ w.cell? ⟨b, off + j, none⟩ = some x) ∧ ∀ x ∈ news, x.oneCell' = true := by
  unfold srcK at h
  split at h
  · rename_i j off m c
    have hux : ∃ b, r.blk j = some b ∧ u = .slice (some ⟨b, off, none⟩) m c := by simpa only [AV.den, Pc.den, CV.den] using hd
    obtain ⟨b, hb, rfl⟩ := hux
    split at h
    · rename_i t l hS
      split at h
      · rename_i cs hcs
        split at h
        · rename_i hones
          split at h
          · rename_i us hus
            obtain ⟨hle, rfl⟩ := cut_spec hcs
            obtain ⟨b', vs, h1, h2, h3⟩ := hR.own j _ hS
            rw [hb] at h1; injection h1 with h1; subst h1
            have hdc := denL_take (m * size) (denL_drop off h3)
            have hvs := valsOf_spec hus hdc
            have hlen := denL_length hdc
            refine ⟨_, m, c, us, rfl, h, ?_, fun k x hk => ⟨b, off, rfl, ?_⟩, fun x hx => oneCell_of (onesL_one hR hones hdc x (by rw [hvs]; exact hx))⟩
            · rw [← hvs, hlen]; simp; omega
            · rw [← hvs, List.getElem?_take] at hk
              split at hk
              · rw [List.getElem?_drop] at hk; simp [World.cell?, h2, hk]
              · cases hk
          · exact h.elim
        · exact h.elim
      · exact h.elim
    · exact h.elim
  · rename_i A m c
    have hu : u = .slice A m c := by simpa only [AV.den, Pc.den, CV.den] using hd
    subst hu
    obtain ⟨xs, h1, h2, h3, hK⟩ := h
    refine ⟨A, m, c, xs, rfl, hK, h2, fun j x hj => ?_, h3⟩
    obtain ⟨b, off, hA, hlt, hG, hc⟩ := h1 j x hj
    exact ⟨b, off, hA, by rw [hR.oldCell hlt hG]; exact hc⟩
  · rename_i j
    split at h
    · exact h.elim
    · split at h
      · rename_i e size' n xs hS
        obtain ⟨rfl, h3, hK⟩ := h
        obtain ⟨v, hv, hob, hown⟩ := hR.own j _ hS
        have hux : r.val j = some u := by simpa only [AV.den, Pc.den, CV.den] using hd
        rw [hux] at hv; injection hv with hv; subst hv
        obtain ⟨A, c, hs, hsl, _, _, hl⟩ := own_slice hown
        subst hs
        refine ⟨A, n, c, xs, rfl, hK, hl, fun k x hk => ?_, h3⟩
        obtain ⟨b, off, hA, _, hc⟩ := hsl k x hk
        exact ⟨b, off, hA, hc⟩
      · exact h.elim
  · exact h.elim
theorem appK_sound {P : Program} {w0 : World} {G : Gs} {N : Nd} {o : Oper} {f : Fr} {S : List Ow} {K : Fr → List Ow → Prop} {s x : Operand} {t : TypeId} (hop : o.op = .call ⟨.builtin .append, #[s, x], #[t, t]⟩) (h : appK P w0 G o f S s x t K) (hdst : dstOk N.n o.dst = true) : OpS P w0 G N o f S K := by
  refine ⟨fun r a w hR hf hN hd next Q hK => ?_⟩
  have hs := hf.ev s
  have hx := hf.ev x
  unfold appK at h
  split at h
  · rename_i e ht
    split at h
    · rename_i inf hi
      split at h
      · rename_i z hz
        split at h
        · rename_i hzs hpos hbytes
          have hzs := Nat.eq_of_beq_eq_true hzs
          have hpos : 0 < inf.size := by simpa [Nat.blt_eq] using hpos
          have hbytes := Nat.le_of_ble_eq_true hbytes
          split at h
          · rename_i i he
            rw [he] at hs
            split at h
            · rename_i e' size' n xs hS
              split at h
              · rename_i h1 h2 hG
                have h1 := Nat.eq_of_beq_eq_true h1
                have h2 := Nat.eq_of_beq_eq_true h2
                have hG := Nat.le_of_ble_eq_true hG
                subst h1; subst h2
                obtain ⟨A, m, c, news, hu, ⟨hle, hKK⟩, hl, hcells, hone⟩ := srcK_sound h hR hx
                rw [forceL_iff, fillF_iff, putK_iff] at hKK
                obtain ⟨v, hv, hob, hown⟩ := hR.own i _ hS
                have hux : r.val i = some (a.eval s) := by simpa only [AV.den, Pc.den, CV.den] using hs
                rw [hux] at hv; injection hv with hv
                obtain ⟨v', w', hrun, hown', hg, hb⟩ := run_append_src (P := P) 0 t o.type _ inf z ht hi hz hzs hpos v n xs hown A m c news hl hcells hone hle hbytes (Nat.zero_le _)
                obtain ⟨hR', hbut⟩ := hR.append hS hG (hux.trans (by rw [hv])) hown' hg hb
                have hex : (execOp a.eval o).run P w = .ok (.value v') w' := by
                  simp [execOp, hop, resolve, invoke, builtin, hv, hu, hrun]
                exact wp_of_value hex (hK _ _ _ _ hKK ⟨_, hR', (hf.kill hbut).put (by simp [AV.den, Pc.den, CV.den, Env.set]) (by rw [hN]; exact hdst), (put_size a _ _).trans hN, (put_defers a _ _).trans hd⟩)
              · exact h.elim
            · exact h.elim
          · rename_i he
            rw [he] at hs
            have hv := den_v hs
            rw [lenK_iff] at h
            split at h
            · rename_i hG
              have hG := Nat.le_of_ble_eq_true hG
              obtain ⟨A, m, c, news, hu, ⟨hle, hKK⟩, hl, hcells, hone⟩ := srcK_sound h hR hx
              rw [forceL_iff, fillF_iff, putK_iff] at hKK
              have hle2 := hR.le_new none (some (.slice none 0 0))
              have hown : w.ownsRow 0 e inf.size (.slice none 0 0) 0 [] := ⟨by simp, .inl ⟨rfl, rfl⟩⟩
              have hR2 := hR.snoc (Below.refl _ _) (b := none) (v := some (.slice none 0 0)) (o := .row e inf.size 0 []) nofun ⟨.slice none 0 0, by simp [Env.set], by simp [Env.set, Value.ownBlock], hown⟩
              obtain ⟨v', w', hrun, hown', hg, hb⟩ := run_append_src (P := P) 0 t o.type _ inf z ht hi hz hzs hpos (.slice none 0 0) 0 [] hown A m c news hl hcells hone (by omega) hbytes (Nat.zero_le _)
              obtain ⟨hR', hbut⟩ := hR2.append (i := S.length) (e := e) (size := inf.size) (n := 0) (xs := []) (by simp) hG (by simp [Env.set]) hown' hg hb
              have hex : (execOp a.eval o).run P w = .ok (.value v') w' := by
                simp [execOp, hop, resolve, invoke, builtin, hv, hu, hrun]
              have e1 : (killS S.length (S ++ [.row e inf.size 0 []])).set S.length (.row e inf.size (0 + m) ([] ++ news)) = killS S.length S ++ [.row e inf.size m news] := by
                have : ∀ (S : List Ow) (o : Ow) (n : Nat), killS n (S ++ [o]) = killS n S ++ [o.kill n] := fun S => by
                  induction S with
                  | nil => intro o n; rfl
                  | cons x S ih => intro o n; simp [killS, ih]
                rw [this]
                simp [List.set_append_right, killS_length]
              rw [e1] at hR'
              exact wp_of_value hex (hK _ _ _ _ hKK ⟨_, hR', ((hf.mono hle2).kill hbut).put (by simp [AV.den, Pc.den, CV.den, Env.set]) (by rw [hN]; exact hdst), (put_size a _ _).trans hN, (put_defers a _ _).trans hd⟩)
            · exact h.elim
          · exact h.elim
        · exact h.elim
      · exact h.elim
    · exact h.elim
  · exact h.elim
end Go.Proofs.Ytmjfgnnefcimiaa
