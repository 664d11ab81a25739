/- Walks: Opt. Plain: the masks of live variables, in the order in which they are found. Walks: Live. Walks: the law's own block. Walks: the reference's Same. Walks: sanity: the pieces. Walks: sanity. Functions that turn one block of cells that their caller owns, over states that are known part by part. Plain: the measure that the fixpoint loop of the optimizer makes smaller. Plain: the operations of an instruction, checked one after the other. Walks: the maker of blocks: take, word, source. -/
import Derived.Test.YtmjfgnnefcimiaaM11
namespace Go.Proofs.Ytmjfgnnefcimiaa
open Go.RowKit

theorem call_repeat {mu : Blk → Nat} (hmu : ∀ b, b.ok → (onceP b).ops ≠ b.ops → mu (onceP b) < mu b) {w0 : World} {S : List Ow} {K : AV → List Ow → Prop} (i : Nat) (b : Blk) {φ : Option Addr → Prop} {A1 A2 A3 : Option Addr} {c1 c2 c3 : Nat} {t : TypeId} (hi : S[i]? = some (.cells t [.clo (.func 17) [], .clo (.func 18) [], .clo (.func 19) []])) (hb : b.ok)
    (h1 : SlAt w0 w0.heap.size A1 (b.at_.map (.int .u32))) (h2 : SlAt w0 w0.heap.size A2 (b.pages.map (.int .i64))) (h3 : OpsAt w0 w0.heap.size A3 b.ops) (hc3 : b.ops.length ≤ c3) (hm3 : c3 ≤ maxLen) (hv : validB b = true) (hφ : ∀ A, Fresh w0.heap.size A ∨ A = A3 → φ A)
    (hK : K (.p (.agg [.v (.slice A1 b.at_.length c1), .v (.slice A2 b.pages.length c2), .row S.length])) (S ++ [.view φ (optN (mu b) b).ops.length ((optN (mu b) b).ops.flatMap opC)])) :
    CallS Try.prog w0 Gs.nil 51 [.p (.agg [.v (.slice A1 b.at_.length c1), .v (.slice A2 b.pages.length c2), .v (.slice A3 b.ops.length c3)]), .p (.c (.sl i 0 3 3))] S K := by
  refine ⟨by kernel_rfl, fun r w us hR hd => ?_⟩
  obtain ⟨u1, l1, rfl, d1, u2, l2, rfl, d2, d3⟩ := hd
  obtain rfl : l2 = [] := d3
  obtain rfl := AV.val_den (x := .agg #[.slice A1 b.at_.length c1, .slice A2 b.pages.length c2, .slice A3 b.ops.length c3]) rfl d1
  simp only [AV.den, Pc.den, CV.den] at d2
  obtain ⟨bp, hbp, rfl⟩ := d2
  obtain ⟨bp', us, e1, e2, e3⟩ := hR.own i _ hi
  rw [hbp] at e1; injection e1 with e1; subst e1
  have hus : us = passV := by
    simp only [denL, CV.den] at e3
    obtain ⟨x1, y1, rfl, ⟨z1, rfl, rfl⟩, x2, y2, rfl, ⟨z2, rfl, rfl⟩, x3, y3, rfl, ⟨z3, rfl, rfl⟩, rfl⟩ := e3
    rfl
  subst hus
  have hpv : SlAt w w.heap.size (some ⟨bp, 0, none⟩) passV := fun j u hj => ⟨bp, 0, rfl, (hR.new i bp hbp).1, by simp [World.cell?, e2, hj]⟩
  refine (repeat_walk mu hmu b A1 A2 A3 c1 c2 c3 bp w hb (sl_later h1 hR.toBelow) (sl_later h2 hR.toBelow) (sl_later h3 hR.toBelow) hc3 hm3 hpv).mono fun e w' ⟨A', c', he, ho, k1, k2, k3, hB⟩ => ?_
  refine ⟨.p (.agg [.v (.slice A1 b.at_.length c1), .v (.slice A2 b.pages.length c2), .row S.length]), _, _, r.set S.length none (some (.slice A' (optN (mu b) b).ops.length c')), he, ⟨[.slice A1 b.at_.length c1, .slice A2 b.pages.length c2, .slice A' (optN (mu b) b).ops.length c'], rfl, ?_⟩,
    hR.snoc (o := .view φ (optN (mu b) b).ops.length ((optN (mu b) b).ops.flatMap opC)) hB (b := none) nofun ⟨A', c', by simp [Env.set], k1, ⟨k2, hφ _ ?_⟩, by simp [Env.set], fun j u hj => ?_⟩, hR.le_new _ _, hK⟩
  · simp only [denL, CV.den]
    exact ⟨_, _, rfl, rfl, _, _, rfl, rfl, _, _, rfl, by simp [Env.set], rfl⟩
  · rcases k3 with k3 | k3
    · exact .inl fun b off sp hA => Nat.le_trans hR.size (k3 b off sp hA)
    · exact .inr k3
  · obtain ⟨b', off, e4, e5, e6⟩ := ho j u hj
    refine ⟨b', off, e4, e5, fun q hq => ?_, e6⟩
    simp only [Env.set] at hq
    split at hq
    · cases hq
    · rcases k3 with k3 | rfl
      · have := k3 b' off none e4
        have := (hR.new q b' hq).1
        omega
      · have h5 := ops_lt (e4 ▸ h3) (valid_pos hv).1
        exact absurd ((hR.new q b' hq).2 h5) (by simp)
def optAll (mu : Blk → Nat) (b : Blk) : List BOp := if validB b then (optN (mu b) b).ops else b.ops
set_option maxRecDepth 100000 in
theorem opt_pass {mu : Blk → Nat} (hmu : ∀ b, b.ok → (onceP b).ops ≠ b.ops → mu (onceP b) < mu b) : Pass Try.prog 20 (optAll mu) := by
  intro b A1 A2 A3 c1 c2 c3 w hb h1 h2 h3 hc3 hm3
  refine calls_val [.agg #[.slice A1 b.at_.length c1, .slice A2 b.pages.length c2, .slice A3 b.ops.length c3]] Try.func20 Try.ntmps20 rfl (by simp) ?_
  conv => whnf
  refine call_con rfl (by kernel_rfl) (fun r w' hR => valid_ir A1 A2 A3 c1 c2 c3 b w' hb (sl_later h2 hR.toBelow) (sl_later h3 hR.toBelow)) ?_
  conv => whnf
  refine ⟨fun hn => ?_, fun hn => ?_⟩
  · have hv : validB b = false := by simpa using hn
    have hF : optAll mu b = b.ops := by unfold optAll; rw [hv]; rfl
    conv => whnf
    refine fin_val rfl fun w' hB => ⟨A3, c3, by rw [hF], by rw [hF]; exact sl_later h3 hB, by rw [hF]; exact hc3, hm3, .inr rfl, hB⟩
  have hv : validB b = true := by simpa using hn
  have hF : optAll mu b = (optN (mu b) b).ops := by unfold optAll; rw [hv]; rfl
  conv => whnf
  refine call_repeat hmu (φ := fun A => Fresh w.heap.size A ∨ A = A3) 2 b rfl hb h1 h2 h3 hc3 hm3 hv (fun A h => h) ?_
  conv => whnf
  refine fin_view (i := 3) (l := (optN (mu b) b).ops) rfl rfl rfl fun w' A c e1 e2 e3 e4 e5 => ?_
  rw [hF]
  exact ⟨A, c, rfl, e1, e2, e3, e4, e5⟩
end Go.Proofs.Ytmjfgnnefcimiaa
namespace Go.Proofs.Ytmjfgnnefcimiaa
open Go.RowKit

/-- The variables that are live before each operation. -/
def liveL : List BOp → List Nat
  | [] => []
  | o :: l => beforeM o ((liveL l).headD 0) :: liveL l
def liveAll (b : Blk) : List Nat := if validB b then liveL b.ops else []
theorem liveL_length : ∀ l : List BOp, (liveL l).length = l.length
  | [] => rfl
  | o :: l => by simp [liveL, liveL_length l]
/-- The state of the loop: what is live, and what has been written. -/
structure LiveS where
  live : Nat
  row : List Nat
def liveStep (s : LiveS) (x : Nat × BOp) : LiveS := ⟨beforeM x.2 s.live, s.row.set x.1 (beforeM x.2 s.live)⟩
def liveRun (n : Nat) (l : List (Nat × BOp)) : LiveS := l.foldl liveStep ⟨0, List.replicate n 0⟩
theorem liveRun_snoc (n : Nat) (l : List (Nat × BOp)) (x : Nat × BOp) : liveRun n (l ++ [x]) = liveStep (liveRun n l) x := by unfold liveRun; rw [List.foldl_append]; rfl
theorem liveFold_length : ∀ (l : List (Nat × BOp)) (s : LiveS), (l.foldl liveStep s).row.length = s.row.length
  | [], s => rfl
  | x :: l, s => by have := liveFold_length l (liveStep s x); simpa [liveStep] using this
theorem liveRun_length (n : Nat) (l : List (Nat × BOp)) : (liveRun n l).row.length = n := by have := liveFold_length l ⟨0, List.replicate n 0⟩; simpa [liveRun] using this
theorem liveFold_lt : ∀ {l : List (Nat × BOp)} {s : LiveS}, s.live < 4294967296 → (∀ x ∈ l, formedB x.2 = true) → (l.foldl liveStep s).live < 4294967296
  | [], s, h, _ => h
  | x :: l, s, h, hf => liveFold_lt (l := l) (beforeM_lt h (hf x (by simp))) fun y hy => hf y (by simp [hy])
theorem liveRun_lt (n : Nat) {l : List (Nat × BOp)} (hf : ∀ x ∈ l, formedB x.2 = true) : (liveRun n l).live < 4294967296 := liveFold_lt (by show (0 : Nat) < 4294967296; omega) hf
/-- All places, the last first. -/
theorem liveRun_all (l : List BOp) : ∀ {xs : List (Nat × BOp)}, (∀ x ∈ xs, l[x.1]? = some x.2) → xs.map (·.1) = (List.range l.length).reverse → (liveRun l.length xs).row = liveL l := by
  have key : ∀ (k : Nat) {xs : List (Nat × BOp)}, k ≤ l.length → (∀ x ∈ xs, l[x.1]? = some x.2) → xs.map (·.1) = ((List.range l.length).drop (l.length - k)).reverse → liveRun l.length xs = ⟨((liveL (l.drop (l.length - k))).headD 0), List.replicate (l.length - k) 0 ++ liveL (l.drop (l.length - k))⟩ := by
    intro k
    induction k with
    | zero =>
      intro xs _ _ hxs
      rw [Nat.sub_zero, List.drop_eq_nil_of_le (by simp)] at hxs
      have : xs = [] := by simpa using hxs
      subst this
      rw [Nat.sub_zero, List.drop_eq_nil_of_le (Nat.le_refl _)]
      simp [liveRun, liveL]
    | succ k ih =>
      intro xs hk hx hxs
      have hlt : l.length - (k + 1) < l.length := by omega
      rw [List.drop_eq_getElem_cons (by simpa using hlt), show l.length - (k + 1) + 1 = l.length - k by omega] at hxs
      simp only [List.getElem_range, List.reverse_cons] at hxs
      obtain ⟨ys, y, rfl⟩ : ∃ ys y, xs = ys ++ [y] := by
        rcases List.eq_nil_or_concat xs with h | ⟨ys, y, h⟩
        · subst h; have := congrArg List.length hxs; simp at this
        · exact ⟨ys, y, by simpa using h⟩
      rw [List.map_append, List.map_singleton] at hxs
      have h2 := List.append_inj' hxs rfl
      have hy : y.1 = l.length - (k + 1) := by simpa using h2.2
      have hyl := hx y (by simp)
      rw [hy] at hyl
      rw [liveRun_snoc, ih (by omega) (fun x hx' => hx x (by simp [hx'])) h2.1]
      rw [List.drop_eq_getElem_cons hlt, show l.length - (k + 1) + 1 = l.length - k by omega]
      have e : l[l.length - (k + 1)] = y.2 := by rw [List.getElem?_eq_getElem hlt] at hyl; injection hyl
      rw [e]
      simp only [liveL, liveStep, hy, List.headD_cons]
      congr 1
      rw [show l.length - k = l.length - (k + 1) + 1 by omega, List.replicate_succ', List.append_assoc, List.set_append_right _ _ (by simp)]
      simp
  intro xs hx hxs
  have := key l.length (xs := xs) (Nat.le_refl _) hx (by rw [Nat.sub_self]; exact hxs)
  rw [this]; simp
def natV (x : Nat) : Value := .int .u32 (x : Int)
theorem setAll_ints {l : List Nat} {k : Nat} (v : Nat) : setAll (l.map natV) k [.int .u32 (v : Int)] = (l.set k v).map natV := by
  simp only [setAll, List.map_set]; rfl
theorem zero_row (n : Nat) : (madeCells (Value.int .u32 0).cells (n * 1)).toList = (List.replicate n 0).map natV := by
  refine List.ext_getElem? fun i => ?_
  simp only [madeCells, Value.cells, Array.getElem?_toList, Array.getElem?_map, List.getElem?_map, List.getElem?_replicate, Nat.mul_one]
  by_cases h : i < n <;> simp [h, natV, Nat.mod_one]
end Go.Proofs.Ytmjfgnnefcimiaa
namespace Go.Proofs.Ytmjfgnnefcimiaa
open Go.RowKit

def ndsOf {l : List BOp} (pre : List (Elt l)) : List (Nat × BOp) := pre.map fun x => x.1
theorem ndsOf_formed {l : List BOp} (h : ∀ o ∈ l, formedB o = true) (pre : List (Elt l)) : ∀ x ∈ ndsOf pre, formedB x.2 = true := fun o ho => by
  obtain ⟨x, _, rfl⟩ := List.mem_map.1 ho
  exact h _ (List.mem_of_getElem? x.2)
theorem ndsOf_snoc {l : List BOp} (pre : List (Elt l)) (x : Elt l) : ndsOf (pre ++ [x]) = ndsOf pre ++ [x.1] := by simp [ndsOf]
theorem ndsOf_all {l : List BOp} {xs : List (Elt l)} (h : AllDown xs) : (liveRun l.length (ndsOf xs)).row = liveL l := by
  refine liveRun_all l (fun x hx => ?_) ?_
  · obtain ⟨y, _, rfl⟩ := List.mem_map.1 hx; exact y.2
  · unfold AllDown at h
    rw [show (ndsOf xs).map (·.1) = xs.map fun x => x.1.1 by simp [ndsOf], h]
    simp [downTo]
set_option maxRecDepth 100000 in
theorem live_opt (b : Blk) (A1 A2 A3 : Option Addr) (c1 c2 c3 : Nat) (w : World) (hb : b.ok) (h2 : SlAt w w.heap.size A2 (b.pages.map (.int .i64))) (h3 : OpsAt w w.heap.size A3 b.ops) :
    Calls Try.prog 27 #[.agg #[.slice A1 b.at_.length c1, .slice A2 b.pages.length c2, .slice A3 b.ops.length c3]] w fun e w' =>
      ∃ A c, e = .returned (.slice A (liveAll b).length c) ∧ SlAt w' w'.heap.size A ((liveAll b).map natV) ∧ (liveAll b).length ≤ c ∧ c ≤ maxLen ∧ Fresh w.heap.size A ∧ Below w.heap.size w w' := by
  refine calls_satq [.agg #[.slice A1 b.at_.length c1, .slice A2 b.pages.length c2, .slice A3 b.ops.length c3]] Try.func27 Try.ntmps27 rfl (by simp) ?_
  refine satq_seq ?_
  conv => whnf
  refine satq_seq ?_
  conv => whnf
  refine call_con rfl (by kernel_rfl) (fun r w' hR => valid_ir A1 A2 A3 c1 c2 c3 b w' hb (sl_later h2 hR.toBelow) (sl_later h3 hR.toBelow)) ?_
  conv => whnf
  refine ⟨fun hn => ?_, fun hn => ?_⟩
  · have hv : validB b = false := by simpa using hn
    have hF : liveAll b = [] := by unfold liveAll; rw [hv]; rfl
    conv => whnf
    refine atq_ret ?_
    conv => whnf
    refine fin_val rfl fun w' hB => ⟨none, 0, by rw [hF]; rfl, by rw [hF]; intro j u hj; simp at hj, by rw [hF]; exact Nat.le_refl _, by decide, nofun, hB⟩
  have hv : validB b = true := by simpa using hn
  have hF : liveAll b = liveL b.ops := by unfold liveAll; rw [hv]; rfl
  obtain ⟨hpos, hmax⟩ := valid_pos hv
  obtain ⟨bb, off, rfl⟩ := ops_addr h3 hpos
  have hform := valid_formed hv
  conv => whnf
  refine satq_seq ?_
  conv => whnf
  refine op_makeSlice (e := 24) (z := .int .u32 0) 1 b.ops.length rfl rfl rfl rfl rfl rfl rfl (by omega) (by show 4 * _ ≤ _; omega) (by simp [maxLen]; omega) rfl (zero_row _) ?_
  conv => whnf
  refine satq_seq ?_
  conv => whnf
  refine satq_in ?_
  refine satq_seq ?_
  conv => whnf
  refine call_backward ?_
  conv => whnf
  refine satq_block ?_
  refine satq_back (N := 27) (m := 3) (V := [.cells 32 [.v (.slice A1 b.at_.length c1), .v (.slice A2 b.pages.length c2), .v (.slice (some ⟨bb, off, none⟩) b.ops.length c3)], .row 24 1 b.ops.length ((List.replicate b.ops.length 0).map natV), .cells 29 [.row 1], .cells 24 [.v (.int .u32 0)]])
    (A := [.cells 32 [.v (.slice A1 b.at_.length c1), .v (.slice A2 b.pages.length c2), .v (.slice (some ⟨bb, off, none⟩) b.ops.length c3)], .cells 29 [.row 3], .cells 24 [.v (.int .u32 0)]]) (T := [.row 24 1 b.ops.length ((List.replicate b.ops.length 0).map natV)])
    (f0 := [(1, .p (.c (.ref 0 0))), (3, .p (.c (.ref 2 0))), (4, .p (.c (.ref 3 0)))]) (fa := [(1, .p (.c (.ref 0 0))), (3, .p (.c (.ref 1 0))), (4, .p (.c (.ref 2 0)))])
    h3 (ops_lt h3 hpos) (by omega) rfl ⟨rfl, rfl⟩ (And.intro (rfl) (And.intro (rfl) (And.intro (rfl) trivial))) rfl rfl
    (fun pre => [.cells 32 [.v (.slice A1 b.at_.length c1), .v (.slice A2 b.pages.length c2), .v (.slice (some ⟨bb, off, none⟩) b.ops.length c3)], .cells 29 [.row 3], .cells 24 [.v (.int .u32 ((liveRun b.ops.length (ndsOf pre)).live : Int))], .row 24 1 b.ops.length ((liveRun b.ops.length (ndsOf pre)).row.map natV)])
    rfl rfl rfl (fun _ => rfl) (fun _ => rfl) (fun _ => rfl) (entB_ren [0, 2, 3, 1] (And.intro (rfl) (And.intro (rfl) (And.intro (rfl) trivial))) (And.intro ((Exists.intro _ (And.intro rfl (And.intro rfl (Or.inl rfl))))) (And.intro ((Exists.intro _ (And.intro rfl (And.intro rfl (Or.inl rfl))))) (And.intro ((Exists.intro _ (And.intro rfl (And.intro rfl (Or.inl rfl))))) (And.intro ((Exists.intro _ (And.intro rfl (And.intro rfl (And.intro rfl (And.intro (rfl) (rfl))))))) trivial)))) rfl rfl rfl) rfl 1 (by omega) (fun pre => ⟨_, _, _, _, _, rfl, rfl⟩)
    (fun x => [(1, .p (.c (.ref 0 0))), (3, .p (.c (.ref 1 0))), (4, .p (.c (.ref 2 0))), (5, one (.int .i64 (x.1.1 : Int))), (6, .p (.c (.ref 4 0)))]) (fun _ => rfl) ?_ ?_ ?_
  · rintro W gs ext lp pre x hgs
    match gs, hgs with
    | [g0, g1, g2], _ =>
    conv => whnf
    exact ⟨rfl, ent_same rfl (And.intro (rfl) (And.intro (rfl) (And.intro (rfl) (And.intro (rfl) (And.intro (rfl) trivial))))) (And.intro ((And.intro rfl (Or.inl rfl))) (And.intro ((And.intro rfl (Or.inl rfl))) (And.intro ((And.intro rfl (Or.inl rfl))) (And.intro ((And.intro rfl (And.intro rfl (And.intro (rfl) (rfl))))) (And.intro ((And.intro rfl (Or.inl rfl))) trivial)))))⟩
  · rintro W gs ext lp pre x hgs hpl
    match gs, hgs with
    | [g0, g1, g2], _ =>
    obtain ⟨o, ho⟩ : ∃ o, o = x.1.2 := ⟨_, rfl⟩
    obtain ⟨j, hj⟩ : ∃ j, j = x.1.1 := ⟨_, rfl⟩
    have hof : formedB o = true := by rw [ho]; exact hform _ (List.mem_of_getElem? x.2)
    have hjl : j < b.ops.length := by
      rw [hj]
      rcases Nat.lt_or_ge x.1.1 b.ops.length with h1 | h1
      · exact h1
      · have := x.2; rw [List.getElem?_eq_none h1] at this; cases this
    have hlive := liveRun_lt b.ops.length (ndsOf_formed hform pre)
    have hlen := liveRun_length b.ops.length (ndsOf pre)
    have hsnoc : liveRun b.ops.length (ndsOf (pre ++ [x])) = liveStep (liveRun b.ops.length (ndsOf pre)) (j, o) := by rw [ndsOf_snoc, liveRun_snoc, hj, ho]
    rw [hsnoc, ← ho, ← hj]
    generalize liveRun b.ops.length (ndsOf pre) = s at hlive hlen ⊢
    conv => whnf
    refine call_con rfl (by kernel_rfl) (fun r w' hR => before_opt o s.live hlive hof w') ?_
    conv => whnf
    refine ⟨⟨by omega, by omega⟩, ?_⟩
    conv => whnf
    have ht : (j : Int).toNat * tsz Try.prog 24 = j := by rw [Int.toNat_natCast]; exact Nat.mul_one j
    rw [ht]
    refine ⟨by simp [hlen]; omega, ?_⟩
    rw [setAll_ints]
    conv => whnf
    exact ⟨rfl, ent_drop trivial (And.intro ((And.intro rfl (Or.inl rfl))) (And.intro ((And.intro rfl (Or.inl rfl))) (And.intro ((And.intro rfl (Or.inl rfl))) (And.intro ((And.intro rfl (And.intro rfl (And.intro (rfl) (rfl))))) trivial)))) rfl rfl⟩
  · intro D xs hxs
    refine atq_then ?_
    refine satq_seq ?_
    conv => whnf
    refine satq_vc ?_
    conv => whnf
    refine atq_ret_mark 4 rfl ?_
    conv => whnf
    rw [ndsOf_all hxs]
    refine fin_row (i := 3) rfl fun w' A c e1 e2 e3 e4 e5 => ?_
    rw [hF, liveL_length]
    exact ⟨A, c, rfl, e1, e2, e3, e4, e5⟩
end Go.Proofs.Ytmjfgnnefcimiaa
namespace Go.Proofs.Ytmjfgnnefcimiaa
open Go.RowKit

def blockOps (l : List BOp) : List BOp := ⟨20, 0, 0, 0, 0⟩ :: l ++ [⟨24, 0, 0, 0, 4⟩]
set_option maxRecDepth 100000 in
theorem block_law (l : List BOp) (A : Option Addr) (c : Nat) (w : World) (hl : OpsAt w w.heap.size A l) (hn : l.length ≤ 1000) :
    Calls Try.prog 34 #[.slice A l.length c] w fun e w' => ∃ A1 A3 c3, e = .returned (.agg #[.slice A1 1 1, .slice none 0 0, .slice A3 (blockOps l).length c3]) ∧ SlAt w' w'.heap.size A1 [.int .u32 0] ∧ OpsAt w' w'.heap.size A3 (blockOps l) ∧ (blockOps l).length ≤ c3 ∧ c3 ≤ maxLen ∧ Fresh w.heap.size A1 ∧ Fresh w.heap.size A3 ∧ Below w.heap.size w w' := by
  refine calls_val [.slice A l.length c] Try.func34 Try.ntmps34 rfl (by simp) ?_
  conv => whnf
  refine opS_ent (ent_slrow (xs := opC ⟨20, 0, 0, 0, 0⟩) (f' := [(6, one (.slice A l.length c)), (2, .p (.c (.ref 0 0)))]) 1 5 5 1 rfl rfl rfl (by decide) (And.intro (rfl) (And.intro (rfl) trivial)) rfl rfl) ?_
  refine appK_sound rfl ?_ rfl
  conv => whnf
  refine ⟨l.flatMap opC, fun j u hj => by
    obtain ⟨b, off, e1, e2, e3⟩ := hl j u hj
    exact ⟨b, off, e1, e2, by simp, e3⟩, ops_length l, fun u hu => by
    obtain ⟨o, _, ho⟩ := List.mem_flatMap.1 hu
    exact opC_one u ho, by omega, ?_⟩
  conv => whnf
  refine appK_sound rfl ?_ rfl
  conv => whnf
  refine ⟨by omega, ?_⟩
  conv => whnf
  refine ⟨fun r w' u hR hd => ?_⟩
  obtain ⟨us, rfl, hl'⟩ := den_agg hd
  simp only [denL] at hl'
  obtain ⟨u1, l1, rfl, d1, u2, l2, rfl, d2, u3, l3, rfl, d3, rfl⟩ := hl'
  have d1 : CV.den r (.sl 2 0 1 1) u1 := d1
  simp only [CV.den] at d1 d2 d3
  obtain ⟨b1, hb1, rfl⟩ := d1
  subst d2
  obtain ⟨A3, c3, rfl, hs, hc, hm⟩ := hR.rowAt (i := 1) rfl d3
  obtain ⟨b1', us, e1, e2, e3⟩ := hR.own 2 (.cells 24 [.v (.int .u32 0)]) rfl
  rw [hb1] at e1; injection e1 with e1; subst e1
  obtain rfl := denL_vals_inv (us := [.int .u32 0]) e3
  have hlen : (blockOps l).length = 1 + l.length + 1 := by simp [blockOps]; omega
  rw [hlen]
  refine ⟨some ⟨b1, 0, none⟩, A3, c3, rfl, fun j u hj => ⟨b1, 0, rfl, (hR.new 2 b1 hb1).1, by simp [World.cell?, e2, hj]⟩, ?_, hc, hm, fun b off sp hA => ?_, fun b off sp hA => ?_, hR.toBelow⟩
  case refine_2 =>
    injection hA with hA; injection hA with hA; subst hA
    rcases Nat.lt_or_ge b1 w.heap.size with h1 | h1
    · have := (hR.new 2 b1 hb1).2 h1; simp at this
    · exact h1
  case refine_3 =>
    subst hA
    obtain ⟨v, hv, hob, _⟩ := hR.own 1 _ rfl
    rw [d3] at hv; injection hv with hv; subst hv
    have hb : r.blk 1 = some b := by rw [← hob]; rfl
    rcases Nat.lt_or_ge b w.heap.size with h1 | h1
    · have := (hR.new 1 b hb).2 h1; simp at this
    · exact h1
  have e : (blockOps l).flatMap opC = opC ⟨20, 0, 0, 0, 0⟩ ++ l.flatMap opC ++ opC ⟨24, 0, 0, 0, 4⟩ := by simp [blockOps]
  unfold OpsAt
  rw [e]
  exact hs
theorem view_holds {r : Env} {w w' : World} {i n : Nat} {A : Option Addr} {c : Nat} {xs : List Value} {φ : Option Addr → Prop} (hv : r.val i = some (.slice A n c)) (hb : r.blk i = none) (hs : SlAt w' w'.heap.size A xs) (hn : n ≤ c) (hc : c ≤ maxLen) (hφ : φ A) (hf : Fresh w.heap.size A) (hr : ∀ k b, r.blk k = some b → b < w.heap.size) : (Ow.view φ n xs).holds r w' i :=
  ⟨A, c, hv, hn, ⟨hc, hφ⟩, hb, fun j u hj => by
    obtain ⟨b, off, e1, e2, e3⟩ := hs j u hj
    exact ⟨b, off, e1, e2, fun k hk => by have := hr k b hk; have := hf b off none e1; omega, e3⟩⟩
def viewT (_ : Option Addr) : Prop := True
theorem call_block {w0 : World} {G : Gs} {S : List Ow} {K : AV → List Ow → Prop} (i n : Nat) (l : List BOp) (hi : S[i]? = some (.cells 53 ((l.flatMap opC).map .v))) (hl : l.length = n) (hn : n ≤ 1000)
    (hK : K (.p (.agg [.row S.length, .v (.slice none 0 0), .row (S.length + 1)])) (S ++ [.view viewT 1 [.int .u32 0]] ++ [.view viewT (blockOps l).length ((blockOps l).flatMap opC)])) : CallS Try.prog w0 G 34 [.p (.c (.sl i 0 n n))] S K := by
  refine ⟨by kernel_rfl, fun r w us hR hd => ?_⟩
  obtain ⟨u1, l1, rfl, d1, d2⟩ := hd
  obtain rfl : l1 = [] := d2
  obtain ⟨b, hb, rfl⟩ := den_sl d1
  obtain ⟨b', us, e1, e2, e3⟩ := hR.own i _ hi
  rw [hb] at e1; injection e1 with e1; subst e1
  obtain rfl := denL_vals_inv e3
  subst hl
  refine (block_law l (some ⟨b, 0, none⟩) l.length w (fun j u hj => ⟨b, 0, rfl, (hR.new i b hb).1, by simp [World.cell?, e2, hj]⟩) hn).mono fun e w' ⟨A1, A3, c3, he, h1, h3, hc, hm, f1, f3, hB⟩ => ?_
  have hr1 : ∀ k x, (r.set S.length none (some (.slice A1 1 1))).blk k = some x → x < w.heap.size := fun k x hk => by
    simp only [Env.set] at hk
    split at hk
    · cases hk
    · exact (hR.new k x hk).1
  have hR1 := hR.snoc (o := .view viewT 1 [.int .u32 0]) hB (b := none) (v := some (.slice A1 1 1)) nofun (view_holds (w := w) (by simp [Env.set]) (by simp [Env.set]) h1 (Nat.le_refl _) (by decide) trivial f1 hr1)
  have hle1 := hR.le_new none (some (.slice A1 1 1))
  have hR2 := hR1.snoc (o := .view viewT (blockOps l).length ((blockOps l).flatMap opC)) (Below.refl _ _) (b := none) (v := some (.slice A3 (blockOps l).length c3)) nofun (view_holds (w := w) (by simp [Env.set]) (by simp [Env.set]) h3 hc hm trivial f3 (fun k x hk => by
    simp only [Env.set] at hk
    split at hk
    · cases hk
    · exact hr1 k x (by simpa only [Env.set] using hk)))
  have hle2 := hR1.le_new none (some (.slice A3 (blockOps l).length c3))
  refine ⟨.p (.agg [.row S.length, .v (.slice none 0 0), .row (S.length + 1)]), _, _, _, he, ⟨[.slice A1 1 1, .slice none 0 0, .slice A3 (blockOps l).length c3], rfl, ?_⟩, hR2, hle1.trans hle2, hK⟩
  simp only [denL, CV.den]
  exact ⟨_, _, rfl, by simp [Env.set], _, _, rfl, rfl, _, _, rfl, by simp [Env.set], rfl⟩
end Go.Proofs.Ytmjfgnnefcimiaa
namespace Go.Proofs.Ytmjfgnnefcimiaa
open Go.RowKit
attribute [local irreducible] wpStill wpQuiet

def sameB (x y : Blk) : Bool := x.at_ == y.at_ && (x.pages == y.pages && x.ops == y.ops)

theorem drop_beq {α : Type} [BEq α] {l m : List α} {k : Nat} {x y : α} (h : l[k]? = some x) (g : m[k]? = some y) : (l.drop k == m.drop k) = (x == y && l.drop (k + 1) == m.drop (k + 1)) := by
  have h1 : k < l.length := by
    rcases Nat.lt_or_ge k l.length with h1 | h1
    · exact h1
    · rw [List.getElem?_eq_none h1] at h; cases h
  have h2 : k < m.length := by
    rcases Nat.lt_or_ge k m.length with h1 | h1
    · exact h1
    · rw [List.getElem?_eq_none h1] at g; cases g
  rw [List.drop_eq_getElem_cons h1, List.drop_eq_getElem_cons h2]
  rw [List.getElem?_eq_getElem h1] at h
  rw [List.getElem?_eq_getElem h2] at g
  injection h with h; injection g with g
  subst h; subst g
  rfl
theorem drop_done {α : Type} [BEq α] {l m : List α} {n : Nat} (h : l.length = n) (g : m.length = n) : (l.drop n == m.drop n) = true := by
  rw [List.drop_eq_nil_of_le (by omega), List.drop_eq_nil_of_le (by omega)]
  rfl
theorem len_beq {α : Type} [BEq α] [LawfulBEq α] {l m : List α} (h : l.length ≠ m.length) : (l == m) = false := by
  rw [beq_eq_false_iff_ne]
  rintro rfl
  exact h rfl

theorem op_neq_same {p q : BOp} (h : p = q) : ∀ w : World, (binOp .neq 53 (.agg #[.int .i64 p.code, .int .i64 p.d, .int .i64 p.a, .int .i64 p.b, .int .u32 p.n]) (.agg #[.int .i64 q.code, .int .i64 q.d, .int .i64 q.a, .int .i64 q.b, .int .u32 q.n])).run Try.prog w = .ok (.bool false) w := fun w => by
  have := op_neq p q w
  rw [show (p == q) = true from by simp [h]] at this
  exact this
theorem op_neq_other {p q : BOp} (h : p ≠ q) : ∀ w : World, (binOp .neq 53 (.agg #[.int .i64 p.code, .int .i64 p.d, .int .i64 p.a, .int .i64 p.b, .int .u32 p.n]) (.agg #[.int .i64 q.code, .int .i64 q.d, .int .i64 q.a, .int .i64 q.b, .int .u32 q.n])).run Try.prog w = .ok (.bool true) w := fun w => by
  have := op_neq p q w
  rw [show (p == q) = false from by simp [h]] at this
  exact this

section
variable (A1 A2 A3 D1 D2 D3 : Option Addr) (c1 c2 c3 d1 d2 d3 : Nat) (x y : Blk) (w : World)

set_option maxRecDepth 100000 in
set_option maxHeartbeats 1600000 in
theorem same_ref (m1 : x.at_.length ≤ 1000000) (m2 : x.pages.length ≤ 1000000) (m3 : x.ops.length ≤ 1000000)
    (h1 : SlAt w w.heap.size A1 (x.at_.map (.int .u32))) (h2 : SlAt w w.heap.size A2 (x.pages.map (.int .i64))) (h3 : OpsAt w w.heap.size A3 x.ops)
    (g1 : SlAt w w.heap.size D1 (y.at_.map (.int .u32))) (g2 : SlAt w w.heap.size D2 (y.pages.map (.int .i64))) (g3 : OpsAt w w.heap.size D3 y.ops) :
    Calls Try.prog 23 #[.agg #[.slice A1 x.at_.length c1, .slice A2 x.pages.length c2, .slice A3 x.ops.length c3], .agg #[.slice D1 y.at_.length d1, .slice D2 y.pages.length d2, .slice D3 y.ops.length d3]] w fun e w' => e = .returned (.bool (sameB x y)) ∧ Below w.heap.size w w' := by
  obtain ⟨n1, hn1⟩ : ∃ n, x.at_.length = n := ⟨_, rfl⟩
  obtain ⟨n2, hn2⟩ : ∃ n, x.pages.length = n := ⟨_, rfl⟩
  obtain ⟨n3, hn3⟩ : ∃ n, x.ops.length = n := ⟨_, rfl⟩
  obtain ⟨k1, hk1⟩ : ∃ n, y.at_.length = n := ⟨_, rfl⟩
  obtain ⟨k2, hk2⟩ : ∃ n, y.pages.length = n := ⟨_, rfl⟩
  obtain ⟨k3, hk3⟩ : ∃ n, y.ops.length = n := ⟨_, rfl⟩
  rw [hn1] at m1 ⊢
  rw [hn2] at m2 ⊢
  rw [hn3] at m3 ⊢
  rw [hk1, hk2, hk3]
  have H1 := Lib.hid h1
  have H2 := Lib.hid h2
  have H3 := Lib.hid h3
  have G1 := Lib.hid g1
  have G2 := Lib.hid g2
  have G3 := Lib.hid g3
  have N1 := Lib.hid hn1
  have N2 := Lib.hid hn2
  have N3 := Lib.hid hn3
  have K1 := Lib.hid hk1
  have K2 := Lib.hid hk2
  have K3 := Lib.hid hk3
  clear h1 h2 h3 g1 g2 g3 hn1 hn2 hn3 hk1 hk2 hk3
  by_cases i1 : n1 = k1
  · subst i1
    have t1 : ((n1 : Int) != (n1 : Int)) = false := by simp
    by_cases i2 : n2 = k2
    · subst i2
      have t2 : ((n2 : Int) != (n2 : Int)) = false := by simp
      by_cases i3 : n3 = k3
      · subst i3
        have t3 : ((n3 : Int) != (n3 : Int)) = false := by simp
        go_enter Try.func23, Try.ntmps23
        go_wp2
        refine wp_world fun W0 hc0 hf0 hs0 hb0 => ?_
        have hB0 : Below w.heap.size w W0 := hb0 _ _ (by repeat (first | exact Below.refl _ _ | assumption | (with_reducible refine Below.drew ?_) | (with_reducible refine below_drewN ?_ _) | (with_reducible refine Below.alloc ?_ (by first | exact Nat.le_refl _ | assumption | (simp; done) | (simp; omega) | omega) _) | (with_reducible refine Below.setCell ?_ (by first | exact Nat.le_refl _ | assumption | (simp; done) | (simp; omega) | omega) _) | (with_reducible refine below_call ?_ (by assumption) (by first | exact Nat.le_refl _ | assumption | (simp; done) | (simp; omega) | omega)) | (with_reducible refine below_only ?_ (by assumption) (by first | exact Nat.le_refl _ | assumption | (simp; done) | (simp; omega) | omega) (by first | exact Nat.le_refl _ | assumption | (simp; done) | (simp; omega) | omega))))
        have hsz : w.heap.size < W0.heap.size := by rw [hs0]; simp; omega
        have hsy : w.heap.size + 1 < W0.heap.size := by rw [hs0]; simp
        have x1 : W0.cell? ⟨w.heap.size, 0, none⟩ = some (.slice A1 n1 c1) := by go_simp
        have x2 : W0.cell? ⟨w.heap.size, 1, none⟩ = some (.slice A2 n2 c2) := by go_simp
        have x3 : W0.cell? ⟨w.heap.size, 2, none⟩ = some (.slice A3 n3 c3) := by go_simp
        have y1 : W0.cell? ⟨w.heap.size + 1, 0, none⟩ = some (.slice D1 n1 d1) := by go_simp
        have y2 : W0.cell? ⟨w.heap.size + 1, 1, none⟩ = some (.slice D2 n2 d2) := by go_simp
        have y3 : W0.cell? ⟨w.heap.size + 1, 2, none⟩ = some (.slice D3 n3 d3) := by go_simp
        have P1 := Lib.hid (SlAt.more (SlAt.below H1.out hB0 (Nat.le_refl _)) (by omega) : SlAt W0 W0.heap.size A1 (x.at_.map (.int .u32)))
        have P2 := Lib.hid (SlAt.more (SlAt.below H2.out hB0 (Nat.le_refl _)) (by omega) : SlAt W0 W0.heap.size A2 (x.pages.map (.int .i64)))
        have P3 := Lib.hid (SlAt.more (SlAt.below H3.out hB0 (Nat.le_refl _)) (by omega) : OpsAt W0 W0.heap.size A3 x.ops)
        have Q1 := Lib.hid (SlAt.more (SlAt.below G1.out hB0 (Nat.le_refl _)) (by omega) : SlAt W0 W0.heap.size D1 (y.at_.map (.int .u32)))
        have Q2 := Lib.hid (SlAt.more (SlAt.below G2.out hB0 (Nat.le_refl _)) (by omega) : SlAt W0 W0.heap.size D2 (y.pages.map (.int .i64)))
        have Q3 := Lib.hid (SlAt.more (SlAt.below G3.out hB0 (Nat.le_refl _)) (by omega) : OpsAt W0 W0.heap.size D3 y.ops)
        clear hc0 hf0 hs0 hb0 H1 H2 H3 G1 G2 G3
        go_loopw [5] (fun t W => ∃ k : Nat, k ≤ n1 ∧ t = .int .i64 k ∧ Hid ((x.at_ == y.at_) = (x.at_.drop k == y.at_.drop k)) ∧ Below W0.heap.size W0 W) (fun t _ => n1 - (intOf t).toNat)
        case atStart => exact ⟨0, Nat.zero_le _, rfl, by unfold Hid; simp, Below.refl _ _⟩
        case round =>
          obtain ⟨k, hk, rfl, hq, hB⟩ := hrel
          have hw1 := hB.size
          have z1 := (hB.cell (p := ⟨w.heap.size, 0, none⟩) hsz).trans x1
          have z2 := (hB.cell (p := ⟨w.heap.size, 1, none⟩) hsz).trans x2
          have z3 := (hB.cell (p := ⟨w.heap.size, 2, none⟩) hsz).trans x3
          have v1 := (hB.cell (p := ⟨w.heap.size + 1, 0, none⟩) hsy).trans y1
          have v2 := (hB.cell (p := ⟨w.heap.size + 1, 1, none⟩) hsy).trans y2
          have v3 := (hB.cell (p := ⟨w.heap.size + 1, 2, none⟩) hsy).trans y3
          by_cases hlt : k < n1
          · obtain ⟨bp, ofp, p, rfl, hbp, hx, hc⟩ := ints_at P1.out (by rw [N1.out]; exact hlt)
            obtain ⟨bq, ofq, q, rfl, hbq, hy, hd⟩ := ints_at Q1.out (by rw [K1.out]; exact hlt)
            have e0 := (hB.cell (p := ⟨bp, ofp + k, none⟩) hbp).trans hc
            have e1 := (hB.cell (p := ⟨bq, ofq + k, none⟩) hbq).trans hd
            have HS := Lib.hid (drop_beq hx hy)
            have r1 : (0 : Int) ≤ (k : Int) := by omega
            have r2 : (k : Int) < (n1 : Int) := by omega
            clear hx hy hc hd x1 x2 x3 y1 y2 y3
            by_cases hpq : p = q
            · have t4 : (p != q) = false := by simp [hpq]
              have HPQ := Lib.hid hpq
              clear hpq
              go_wp2
              go_quiet (fail)
              go_wp2
              go_roundw
              case rel =>
                refine ⟨k + 1, by omega, by go_num, ?_, (by repeat (first | exact Below.refl _ _ | assumption | (with_reducible refine Below.drew ?_) | (with_reducible refine below_drewN ?_ _) | (with_reducible refine Below.alloc ?_ (by first | exact Nat.le_refl _ | assumption | (simp; done) | (simp; omega) | omega) _) | (with_reducible refine Below.setCell ?_ (by first | exact Nat.le_refl _ | assumption | (simp; done) | (simp; omega) | omega) _) | (with_reducible refine below_call ?_ (by assumption) (by first | exact Nat.le_refl _ | assumption | (simp; done) | (simp; omega) | omega)) | (with_reducible refine below_only ?_ (by assumption) (by first | exact Nat.le_refl _ | assumption | (simp; done) | (simp; omega) | omega) (by first | exact Nat.le_refl _ | assumption | (simp; done) | (simp; omega) | omega))))⟩
                unfold Hid
                rw [hq.out, HS.out, beq_of HPQ.out]
                rfl
              case measure => simp [intOf]; omega
            · have t4 : (p != q) = true := by simp [hpq]
              have HPQ := Lib.hid hpq
              clear hpq
              go_wp2
              go_quiet (fail)
              go_wp2
              go_ret
              refine ⟨ret_bool ?_, (by repeat (first | exact Below.refl _ _ | assumption | (with_reducible refine Below.drew ?_) | (with_reducible refine below_drewN ?_ _) | (with_reducible refine Below.alloc ?_ (by first | exact Nat.le_refl _ | assumption | (simp; done) | (simp; omega) | omega) _) | (with_reducible refine Below.setCell ?_ (by first | exact Nat.le_refl _ | assumption | (simp; done) | (simp; omega) | omega) _) | (with_reducible refine below_call ?_ (by assumption) (by first | exact Nat.le_refl _ | assumption | (simp; done) | (simp; omega) | omega)) | (with_reducible refine below_only ?_ (by assumption) (by first | exact Nat.le_refl _ | assumption | (simp; done) | (simp; omega) | omega) (by first | exact Nat.le_refl _ | assumption | (simp; done) | (simp; omega) | omega))))⟩
              unfold sameB
              rw [hq.out, HS.out, beq_ne HPQ.out]
              rfl
          · have hkn : k = n1 := by omega
            have HA : Hid ((x.at_ == y.at_) = true) := by
              unfold Hid
              rw [hq.out, hkn, drop_done N1.out K1.out]
            clear hq hkn
            go_wp2
            obtain ⟨wo, rfl⟩ : ∃ wo : World, wo = wr := ⟨_, rfl⟩
            clear z1 z2 z3 v1 v2 v3 hw1
            go_loopw [6] (fun t W => ∃ k : Nat, k ≤ n2 ∧ t = .int .i64 k ∧ Hid ((x.pages == y.pages) = (x.pages.drop k == y.pages.drop k)) ∧ Below W0.heap.size W0 W) (fun t _ => n2 - (intOf t).toNat)
            case atStart => exact ⟨0, Nat.zero_le _, rfl, by unfold Hid; simp, hB⟩
            case round =>
              obtain ⟨k, hk, rfl, hq, hB⟩ := hrel
              have hw1 := hB.size
              have z1 := (hB.cell (p := ⟨w.heap.size, 0, none⟩) hsz).trans x1
              have z2 := (hB.cell (p := ⟨w.heap.size, 1, none⟩) hsz).trans x2
              have z3 := (hB.cell (p := ⟨w.heap.size, 2, none⟩) hsz).trans x3
              have v1 := (hB.cell (p := ⟨w.heap.size + 1, 0, none⟩) hsy).trans y1
              have v2 := (hB.cell (p := ⟨w.heap.size + 1, 1, none⟩) hsy).trans y2
              have v3 := (hB.cell (p := ⟨w.heap.size + 1, 2, none⟩) hsy).trans y3
              by_cases hlt : k < n2
              · obtain ⟨bp, ofp, p, rfl, hbp, hx, hc⟩ := ints_at P2.out (by rw [N2.out]; exact hlt)
                obtain ⟨bq, ofq, q, rfl, hbq, hy, hd⟩ := ints_at Q2.out (by rw [K2.out]; exact hlt)
                have e0 := (hB.cell (p := ⟨bp, ofp + k, none⟩) hbp).trans hc
                have e1 := (hB.cell (p := ⟨bq, ofq + k, none⟩) hbq).trans hd
                have HS := Lib.hid (drop_beq hx hy)
                have r1 : (0 : Int) ≤ (k : Int) := by omega
                have r2 : (k : Int) < (n2 : Int) := by omega
                clear hx hy hc hd x1 x2 x3 y1 y2 y3
                by_cases hpq : p = q
                · have t4 : (p != q) = false := by simp [hpq]
                  have HPQ := Lib.hid hpq
                  clear hpq
                  go_wp2
                  go_quiet (fail)
                  go_wp2
                  go_roundw
                  case rel =>
                    refine ⟨k + 1, by omega, by go_num, ?_, (by repeat (first | exact Below.refl _ _ | assumption | (with_reducible refine Below.drew ?_) | (with_reducible refine below_drewN ?_ _) | (with_reducible refine Below.alloc ?_ (by first | exact Nat.le_refl _ | assumption | (simp; done) | (simp; omega) | omega) _) | (with_reducible refine Below.setCell ?_ (by first | exact Nat.le_refl _ | assumption | (simp; done) | (simp; omega) | omega) _) | (with_reducible refine below_call ?_ (by assumption) (by first | exact Nat.le_refl _ | assumption | (simp; done) | (simp; omega) | omega)) | (with_reducible refine below_only ?_ (by assumption) (by first | exact Nat.le_refl _ | assumption | (simp; done) | (simp; omega) | omega) (by first | exact Nat.le_refl _ | assumption | (simp; done) | (simp; omega) | omega))))⟩
                    unfold Hid
                    rw [hq.out, HS.out, beq_of HPQ.out]
                    rfl
                  case measure => simp [intOf]; omega
                · have t4 : (p != q) = true := by simp [hpq]
                  have HPQ := Lib.hid hpq
                  clear hpq
                  go_wp2
                  go_quiet (fail)
                  go_wp2
                  go_ret
                  refine ⟨ret_bool ?_, (by repeat (first | exact Below.refl _ _ | assumption | (with_reducible refine Below.drew ?_) | (with_reducible refine below_drewN ?_ _) | (with_reducible refine Below.alloc ?_ (by first | exact Nat.le_refl _ | assumption | (simp; done) | (simp; omega) | omega) _) | (with_reducible refine Below.setCell ?_ (by first | exact Nat.le_refl _ | assumption | (simp; done) | (simp; omega) | omega) _) | (with_reducible refine below_call ?_ (by assumption) (by first | exact Nat.le_refl _ | assumption | (simp; done) | (simp; omega) | omega)) | (with_reducible refine below_only ?_ (by assumption) (by first | exact Nat.le_refl _ | assumption | (simp; done) | (simp; omega) | omega) (by first | exact Nat.le_refl _ | assumption | (simp; done) | (simp; omega) | omega))))⟩
                  unfold sameB
                  rw [HA.out, hq.out, HS.out, beq_ne HPQ.out]
                  rfl
              · have hkn : k = n2 := by omega
                have HC : Hid ((x.pages == y.pages) = true) := by
                  unfold Hid
                  rw [hq.out, hkn, drop_done N2.out K2.out]
                clear hq hkn
                go_wp2
                obtain ⟨wp, rfl⟩ : ∃ wp : World, wp = wr := ⟨_, rfl⟩
                clear z1 z2 z3 v1 v2 v3 hw1
                go_loopw [7] (fun t W => ∃ k : Nat, k ≤ n3 ∧ t = .int .i64 k ∧ Hid ((x.ops == y.ops) = (x.ops.drop k == y.ops.drop k)) ∧ Below W0.heap.size W0 W) (fun t _ => n3 - (intOf t).toNat)
                case atStart => exact ⟨0, Nat.zero_le _, rfl, by unfold Hid; simp, hB⟩
                case round =>
                  obtain ⟨k, hk, rfl, hq, hB⟩ := hrel
                  have hw1 := hB.size
                  have z1 := (hB.cell (p := ⟨w.heap.size, 0, none⟩) hsz).trans x1
                  have z2 := (hB.cell (p := ⟨w.heap.size, 1, none⟩) hsz).trans x2
                  have z3 := (hB.cell (p := ⟨w.heap.size, 2, none⟩) hsz).trans x3
                  have v1 := (hB.cell (p := ⟨w.heap.size + 1, 0, none⟩) hsy).trans y1
                  have v2 := (hB.cell (p := ⟨w.heap.size + 1, 1, none⟩) hsy).trans y2
                  have v3 := (hB.cell (p := ⟨w.heap.size + 1, 2, none⟩) hsy).trans y3
                  by_cases hlt : k < n3
                  · obtain ⟨bp, ofp, p, rfl, hbp, hx, a0, a1, a2, a3, a4⟩ := ops_at P3.out (by rw [N3.out]; exact hlt)
                    obtain ⟨bq, ofq, q, rfl, hbq, hy, b0, b1, b2, b3, b4⟩ := ops_at Q3.out (by rw [K3.out]; exact hlt)
                    have e0 := (hB.cell (p := ⟨bp, ofp + k * 5, none⟩) hbp).trans a0
                    have f0 := (hB.cell (p := ⟨bq, ofq + k * 5, none⟩) hbq).trans b0
                    have e1 := (hB.cell (p := ⟨bp, ofp + k * 5 + 1, none⟩) hbp).trans a1
                    have f1 := (hB.cell (p := ⟨bq, ofq + k * 5 + 1, none⟩) hbq).trans b1
                    have e2 := (hB.cell (p := ⟨bp, ofp + k * 5 + 2, none⟩) hbp).trans a2
                    have f2 := (hB.cell (p := ⟨bq, ofq + k * 5 + 2, none⟩) hbq).trans b2
                    have e3 := (hB.cell (p := ⟨bp, ofp + k * 5 + 3, none⟩) hbp).trans a3
                    have f3 := (hB.cell (p := ⟨bq, ofq + k * 5 + 3, none⟩) hbq).trans b3
                    have e4 := (hB.cell (p := ⟨bp, ofp + k * 5 + 4, none⟩) hbp).trans a4
                    have f4 := (hB.cell (p := ⟨bq, ofq + k * 5 + 4, none⟩) hbq).trans b4
                    have HS := Lib.hid (drop_beq hx hy)
                    have r1 : (0 : Int) ≤ (k : Int) := by omega
                    have r2 : (k : Int) < (n3 : Int) := by omega
                    clear hx hy a0 a1 a2 a3 a4 b0 b1 b2 b3 b4 x1 x2 x3 y1 y2 y3
                    by_cases hpq : p = q
                    · have t4 := op_neq_same hpq
                      have HPQ := Lib.hid hpq
                      clear hpq
                      go_wp2
                      go_quiet (fail)
                      go_wp2
                      go_roundw
                      case rel =>
                        refine ⟨k + 1, by omega, by go_num, ?_, (by repeat (first | exact Below.refl _ _ | assumption | (with_reducible refine Below.drew ?_) | (with_reducible refine below_drewN ?_ _) | (with_reducible refine Below.alloc ?_ (by first | exact Nat.le_refl _ | assumption | (simp; done) | (simp; omega) | omega) _) | (with_reducible refine Below.setCell ?_ (by first | exact Nat.le_refl _ | assumption | (simp; done) | (simp; omega) | omega) _) | (with_reducible refine below_call ?_ (by assumption) (by first | exact Nat.le_refl _ | assumption | (simp; done) | (simp; omega) | omega)) | (with_reducible refine below_only ?_ (by assumption) (by first | exact Nat.le_refl _ | assumption | (simp; done) | (simp; omega) | omega) (by first | exact Nat.le_refl _ | assumption | (simp; done) | (simp; omega) | omega))))⟩
                        unfold Hid
                        rw [hq.out, HS.out, show (p == q) = true from by simp [HPQ.out]]
                        rfl
                      case measure => simp [intOf]; omega
                    · have t4 := op_neq_other hpq
                      have HPQ := Lib.hid hpq
                      clear hpq
                      go_wp2
                      go_quiet (fail)
                      go_wp2
                      go_ret
                      refine ⟨ret_bool ?_, (by repeat (first | exact Below.refl _ _ | assumption | (with_reducible refine Below.drew ?_) | (with_reducible refine below_drewN ?_ _) | (with_reducible refine Below.alloc ?_ (by first | exact Nat.le_refl _ | assumption | (simp; done) | (simp; omega) | omega) _) | (with_reducible refine Below.setCell ?_ (by first | exact Nat.le_refl _ | assumption | (simp; done) | (simp; omega) | omega) _) | (with_reducible refine below_call ?_ (by assumption) (by first | exact Nat.le_refl _ | assumption | (simp; done) | (simp; omega) | omega)) | (with_reducible refine below_only ?_ (by assumption) (by first | exact Nat.le_refl _ | assumption | (simp; done) | (simp; omega) | omega) (by first | exact Nat.le_refl _ | assumption | (simp; done) | (simp; omega) | omega))))⟩
                      unfold sameB
                      rw [HA.out, HC.out, hq.out, HS.out, show (p == q) = false from by simp [HPQ.out]]
                      rfl
                  · have hkn : k = n3 := by omega
                    have HE : Hid ((x.ops == y.ops) = true) := by
                      unfold Hid
                      rw [hq.out, hkn, drop_done N3.out K3.out]
                    clear hq hkn
                    go_wp2
                    go_ret
                    refine ⟨ret_bool ?_, (by repeat (first | exact Below.refl _ _ | assumption | (with_reducible refine Below.drew ?_) | (with_reducible refine below_drewN ?_ _) | (with_reducible refine Below.alloc ?_ (by first | exact Nat.le_refl _ | assumption | (simp; done) | (simp; omega) | omega) _) | (with_reducible refine Below.setCell ?_ (by first | exact Nat.le_refl _ | assumption | (simp; done) | (simp; omega) | omega) _) | (with_reducible refine below_call ?_ (by assumption) (by first | exact Nat.le_refl _ | assumption | (simp; done) | (simp; omega) | omega)) | (with_reducible refine below_only ?_ (by assumption) (by first | exact Nat.le_refl _ | assumption | (simp; done) | (simp; omega) | omega) (by first | exact Nat.le_refl _ | assumption | (simp; done) | (simp; omega) | omega))))⟩
                    unfold sameB
                    rw [HA.out, HC.out, HE.out]; rfl
      · have t3 : ((n3 : Int) != (k3 : Int)) = true := by simp; omega
        go_enter Try.func23, Try.ntmps23
        go_wp2
        go_ret
        refine ⟨ret_bool ?_, (by repeat (first | exact Below.refl _ _ | assumption | (with_reducible refine Below.drew ?_) | (with_reducible refine below_drewN ?_ _) | (with_reducible refine Below.alloc ?_ (by first | exact Nat.le_refl _ | assumption | (simp; done) | (simp; omega) | omega) _) | (with_reducible refine Below.setCell ?_ (by first | exact Nat.le_refl _ | assumption | (simp; done) | (simp; omega) | omega) _) | (with_reducible refine below_call ?_ (by assumption) (by first | exact Nat.le_refl _ | assumption | (simp; done) | (simp; omega) | omega)) | (with_reducible refine below_only ?_ (by assumption) (by first | exact Nat.le_refl _ | assumption | (simp; done) | (simp; omega) | omega) (by first | exact Nat.le_refl _ | assumption | (simp; done) | (simp; omega) | omega))))⟩
        unfold sameB
        rw [len_beq (l := x.ops) (m := y.ops) (by rw [N3.out, K3.out]; exact i3)]
        simp
    · have t2 : ((n2 : Int) != (k2 : Int)) = true := by simp; omega
      go_enter Try.func23, Try.ntmps23
      go_wp2
      go_ret
      refine ⟨ret_bool ?_, (by repeat (first | exact Below.refl _ _ | assumption | (with_reducible refine Below.drew ?_) | (with_reducible refine below_drewN ?_ _) | (with_reducible refine Below.alloc ?_ (by first | exact Nat.le_refl _ | assumption | (simp; done) | (simp; omega) | omega) _) | (with_reducible refine Below.setCell ?_ (by first | exact Nat.le_refl _ | assumption | (simp; done) | (simp; omega) | omega) _) | (with_reducible refine below_call ?_ (by assumption) (by first | exact Nat.le_refl _ | assumption | (simp; done) | (simp; omega) | omega)) | (with_reducible refine below_only ?_ (by assumption) (by first | exact Nat.le_refl _ | assumption | (simp; done) | (simp; omega) | omega) (by first | exact Nat.le_refl _ | assumption | (simp; done) | (simp; omega) | omega))))⟩
      unfold sameB
      rw [len_beq (l := x.pages) (m := y.pages) (by rw [N2.out, K2.out]; exact i2)]
      simp
  · have t1 : ((n1 : Int) != (k1 : Int)) = true := by simp; omega
    go_enter Try.func23, Try.ntmps23
    go_wp2
    go_ret
    refine ⟨ret_bool ?_, (by repeat (first | exact Below.refl _ _ | assumption | (with_reducible refine Below.drew ?_) | (with_reducible refine below_drewN ?_ _) | (with_reducible refine Below.alloc ?_ (by first | exact Nat.le_refl _ | assumption | (simp; done) | (simp; omega) | omega) _) | (with_reducible refine Below.setCell ?_ (by first | exact Nat.le_refl _ | assumption | (simp; done) | (simp; omega) | omega) _) | (with_reducible refine below_call ?_ (by assumption) (by first | exact Nat.le_refl _ | assumption | (simp; done) | (simp; omega) | omega)) | (with_reducible refine below_only ?_ (by assumption) (by first | exact Nat.le_refl _ | assumption | (simp; done) | (simp; omega) | omega) (by first | exact Nat.le_refl _ | assumption | (simp; done) | (simp; omega) | omega))))⟩
    unfold sameB
    rw [len_beq (l := x.at_) (m := y.at_) (by rw [N1.out, K1.out]; exact i1)]
    simp
end
end Go.Proofs.Ytmjfgnnefcimiaa
namespace Go.Proofs.Ytmjfgnnefcimiaa
open Go.RowKit

theorem call_passV {P : Program} {w0 : World} {S : List Ow} {K : AV → List Ow → Prop} {fid : FuncId} {F : Blk → List BOp} (hp : Pass P fid F) (hok : fnOk P fid = true) (ia i : Nat) (b : Blk) (hia : S[ia]? = some (.view viewT b.at_.length (b.at_.map (.int .u32)))) (hi : S[i]? = some (.view viewT b.ops.length (b.ops.flatMap opC))) (hb : b.ok) (hpg : b.pages = []) (h0 : b.ops = [] → F b = [])
    (hK : K (.p (.agg [.row ia, .v (.slice none 0 0), .row S.length])) (S ++ [.view viewT (F b).length ((F b).flatMap opC)])) :
    CallS P w0 Gs.nil fid [.p (.agg [.row ia, .v (.slice none 0 0), .row i])] S K := by
  refine ⟨hok, fun r w us hR hd => ?_⟩
  obtain ⟨u1, l1, rfl, d1, d2⟩ := hd
  obtain rfl : l1 = [] := d2
  obtain ⟨us, rfl, hl⟩ := den_agg d1
  simp only [denL] at hl
  obtain ⟨u1, l1, rfl, e1, u2, l2, rfl, e2, u3, l3, rfl, e3, rfl⟩ := hl
  simp only [CV.den] at e1 e2 e3
  subst e2
  obtain ⟨A1, c1, rfl, hs1, hc11, hc12, _, hfar1⟩ := viewAt hR hia e1
  obtain ⟨A, c, rfl, hs, hc1, hc2, hA, hfar⟩ := viewAt hR hi e3
  have hp' := hp b A1 none A c1 0 c w hb hs1 (by rw [hpg]; intro j u hj; simp at hj) hs hc1 hc2
  rw [hpg] at hp'
  refine hp'.mono fun e w' ⟨A', c', he, ho, k1, k2, k3, hB⟩ => ?_
  refine ⟨.p (.agg [.row ia, .v (.slice none 0 0), .row S.length]), _, _, r.set S.length none (some (.slice A' (F b).length c')), he, ⟨[.slice A1 b.at_.length c1, .slice none 0 0, .slice A' (F b).length c'], rfl, ?_⟩, hR.snoc (o := .view viewT (F b).length ((F b).flatMap opC)) hB (b := none) nofun ⟨A', c', by simp [Env.set], k1, ⟨k2, trivial⟩, by simp [Env.set], fun j u hj => ?_⟩, hR.le_new _ _, hK⟩
  · have hlt : ia < S.length := by
      rcases Nat.lt_or_ge ia S.length with h | h
      · exact h
      · rw [List.getElem?_eq_none h] at hia; cases hia
    simp only [denL, CV.den]
    exact ⟨_, _, rfl, by simp only [Env.set]; rw [if_neg (by omega)]; exact e1, _, _, rfl, rfl, _, _, rfl, by simp [Env.set], rfl⟩
  · obtain ⟨b', off, e4, e5, e6⟩ := ho j u hj
    refine ⟨b', off, e4, e5, fun q hq => ?_, e6⟩
    simp only [Env.set] at hq
    split at hq
    · cases hq
    · rcases k3 with k3 | rfl
      · have := k3 b' off none e4
        have := (hR.new q b' hq).1
        omega
      · cases hl : b.ops with
        | nil => rw [h0 hl] at hj; simp at hj
        | cons o l => exact hfar 0 (.int .i64 o.code) (by rw [hl]; rfl) b' off e4 q hq
def opTwo : BOp := ⟨1, 1, 0, 0, 2⟩
def opThree : BOp := ⟨1, 2, 0, 0, 3⟩
def blk1 : Blk := ⟨[0], [], blockOps [opTwo, opThree, ⟨3, 3, 1, 2, 0⟩]⟩
def blk2 : Blk := ⟨[0], [], blockOps [⟨2, 20, 1, 0, 0⟩, ⟨3, 2, 20, 20, 0⟩, ⟨2, 3, 20, 0, 0⟩]⟩
def blkW : List BOp := blockOps [⟨3, 2, 1, 1, 0⟩, ⟨2, 3, 1, 0, 0⟩]
theorem blkops1 : blockOps [opTwo, opThree, ⟨3, 3, 1, 2, 0⟩] = [⟨20, 0, 0, 0, 0⟩, ⟨1, 1, 0, 0, 2⟩, ⟨1, 2, 0, 0, 3⟩, ⟨3, 3, 1, 2, 0⟩, ⟨24, 0, 0, 0, 4⟩] := rfl
theorem blkops2 : blockOps [⟨2, 20, 1, 0, 0⟩, ⟨3, 2, 20, 20, 0⟩, ⟨2, 3, 20, 0, 0⟩] = [⟨20, 0, 0, 0, 0⟩, ⟨2, 20, 1, 0, 0⟩, ⟨3, 2, 20, 20, 0⟩, ⟨2, 3, 20, 0, 0⟩, ⟨24, 0, 0, 0, 4⟩] := rfl
theorem blkopsW : blkW = [⟨20, 0, 0, 0, 0⟩, ⟨3, 2, 1, 1, 0⟩, ⟨2, 3, 1, 0, 0⟩, ⟨24, 0, 0, 0, 4⟩] := rfl
theorem blk1_fold : foldAll blk1 = blockOps [opTwo, opThree, ⟨1, 3, 0, 0, 5⟩] := by decide +kernel
theorem blk2_once : (onceP blk2).ops = blkW := by decide +kernel
theorem blk2_twice : (onceP ⟨[0], [], blkW⟩).ops = blkW := by decide +kernel
theorem blk2_valid : validB blk2 = true := by decide +kernel
theorem blkW_live : (liveAll ⟨[0], [], blkW⟩).length = 4 := by decide +kernel
theorem blk_ok {l : List BOp} (h : ∀ o ∈ l, o.ok) (hl : l.length ≤ 100) : (⟨[0], [], l⟩ : Blk).ok := ⟨by intro x hx; simp at hx; subst hx; exact word0, nofun, h, by show (1 : Nat) ≤ _; omega, by show (0 : Nat) ≤ _; omega, by show l.length ≤ _; omega⟩
theorem satq_ent {P : Program} {w0 : World} {G : Gs} {N : Nd} {d : Code} {f f' : Fr} {S S' : List Ow} {Q : Exit → Act → World → Prop} (h : Ent w0 G N f S f' S') (k : SatQ P w0 G N d f' S' Q) : SatQ P w0 G N d f S Q := ⟨fun a w hg => k.out a w (h.out a w hg)⟩
theorem own_cellsAt {w0 : World} {G : Gs} {S : List Ow} {r : Env} {w : World} (hR : Rel w0 G S r w) (i : Nat) {t : TypeId} {l : List CV} (hi : S[i]? = some (.cells t l)) : ∃ g us, r.blk i = some g ∧ denL r l us ∧ CellsAt w Gs.nil g 0 us := by
  obtain ⟨g, us, h1, h2, h3⟩ := hR.own i _ hi
  exact ⟨g, us, h1, h3, (hR.new i g h1).1, by simp, fun j u hj => by simp [World.cell?, h2, hj]⟩
theorem own_blkAt {w0 : World} {G : Gs} {S : List Ow} {r : Env} {w : World} (hR : Rel w0 G S r w) (i ia io : Nat) {t : TypeId} {l : List BOp} (hi : S[i]? = some (.cells t [.row ia, .v (.slice none 0 0), .row io])) (ha : S[ia]? = some (.view viewT 1 [.int .u32 0])) (ho : S[io]? = some (.view viewT l.length (l.flatMap opC))) :
    ∃ g A1 c1 A3 c3, r.blk i = some g ∧ CellsAt w Gs.nil g 0 [.slice A1 1 c1, .slice none 0 0, .slice A3 l.length c3] ∧ SlAt w w.heap.size A1 [.int .u32 0] ∧ OpsAt w w.heap.size A3 l ∧ l.length ≤ c3 ∧ c3 ≤ maxLen := by
  obtain ⟨g, us, h1, h2, h3⟩ := own_cellsAt hR i hi
  simp only [denL, CV.den] at h2
  obtain ⟨u1, l1, rfl, e1, u2, l2, rfl, rfl, u3, l3, rfl, e3, rfl⟩ := h2
  obtain ⟨A1, c1, rfl, s1, _⟩ := viewAt hR ha e1
  obtain ⟨A3, c3, rfl, s3, k1, k2, _⟩ := viewAt hR ho e3
  exact ⟨g, A1, c1, A3, c3, h1, h3, s1, s3, k1, k2⟩
theorem slot_ref {r : Env} {f : Fr} {a : Act} (hf : FDen r f a) (d : Nat) {i g : Nat} (h : f.get d = .p (.c (.ref i 0))) (hb : r.blk i = some g) : a.tmps.getD d undef = .pointer (some ⟨g, 0, none⟩) := by
  have := hf d
  rw [h] at this
  obtain ⟨b, h1, h2⟩ := den_ref this
  rw [hb] at h1; injection h1 with h1; subst h1
  exact h2
theorem call_sameV {w0 : World} {S : List Ow} {K : AV → List Ow → Prop} {l m : List BOp} {A1 A3 : Option Addr} {c1 c3 : Nat} (ia io : Nat) (h1 : SlAt w0 w0.heap.size A1 [.int .u32 0]) (h3 : OpsAt w0 w0.heap.size A3 l) (hl : l.length ≤ 1000) (ha : S[ia]? = some (.view viewT 1 [.int .u32 0])) (ho : S[io]? = some (.view viewT m.length (m.flatMap opC))) (he : l = m) (hK : K (one (.bool true)) S) :
    CallS Try.prog w0 Gs.nil 23 [.p (.agg [.v (.slice A1 1 c1), .v (.slice none 0 0), .v (.slice A3 l.length c3)]), .p (.agg [.row ia, .v (.slice none 0 0), .row io])] S K := by
  subst he
  refine callS_val (.bool true) (by kernel_rfl) (fun r w us hR hd => ?_) hK
  obtain ⟨u1, l1, rfl, d1, u2, l2, rfl, d2, d3⟩ := hd
  obtain rfl : l2 = [] := d3
  obtain rfl := AV.val_den (x := .agg #[.slice A1 1 c1, .slice none 0 0, .slice A3 l.length c3]) rfl d1
  obtain ⟨us, rfl, hl'⟩ := den_agg d2
  simp only [denL, CV.den] at hl'
  obtain ⟨u1, l1, rfl, e1, u2, l2, rfl, rfl, u3, l3, rfl, e3, rfl⟩ := hl'
  obtain ⟨D1, d1', rfl, s1, _⟩ := viewAt hR ha e1
  obtain ⟨D3, d3', rfl, s3, _⟩ := viewAt hR ho e3
  have := same_ref (x := ⟨[0], [], l⟩) (y := ⟨[0], [], l⟩) (A1 := A1) (A2 := none) (A3 := A3) (D1 := D1) (D2 := none) (D3 := D3) (c1 := c1) (c2 := 0) (c3 := c3) (d1 := d1') (d2 := 0) (d3 := d3') (w := w) (by show 1 ≤ _; omega) (by show 0 ≤ _; omega) (by show l.length ≤ _; omega)
    (sl_later h1 hR.toBelow) (by intro j u hj; simp at hj) (sl_later h3 hR.toBelow) s1 (by intro j u hj; simp at hj) s3
  refine this.mono fun e w' ⟨h, hB⟩ => ⟨?_, hB⟩
  rw [h]
  simp [sameB]
theorem blk2_ok : blk2.ok := blk_ok (by
  intro o ho
  simp only [blkops2, List.mem_cons, List.not_mem_nil, or_false] at ho
  rcases ho with rfl | rfl | rfl | rfl | rfl <;> exact ⟨by unfold mid; dsimp only; omega, by unfold mid; dsimp only; omega, by unfold mid; dsimp only; omega, by unfold mid; dsimp only; omega, by unfold word; dsimp only; omega⟩) (by decide)
theorem blk1_ok : blk1.ok := blk_ok (by
  intro o ho
  simp only [blkops1, List.mem_cons, List.not_mem_nil, or_false] at ho
  rcases ho with rfl | rfl | rfl | rfl | rfl <;> exact ⟨by unfold mid; dsimp only; omega, by unfold mid; dsimp only; omega, by unfold mid; dsimp only; omega, by unfold mid; dsimp only; omega, by unfold word; dsimp only; omega⟩) (by decide)
theorem blkW_ok : (⟨[0], [], blkW⟩ : Blk).ok := blk_ok (by
  intro o ho
  simp only [blkopsW, List.mem_cons, List.not_mem_nil, or_false] at ho
  rcases ho with rfl | rfl | rfl | rfl <;> exact ⟨by unfold mid; dsimp only; omega, by unfold mid; dsimp only; omega, by unfold mid; dsimp only; omega, by unfold mid; dsimp only; omega, by unfold word; dsimp only; omega⟩) (by decide)
theorem opt_blk2 {mu : Blk → Nat} (hmu : ∀ b, b.ok → (onceP b).ops ≠ b.ops → mu (onceP b) < mu b) : optAll mu blk2 = blkW := by
  unfold optAll
  rw [if_pos blk2_valid]
  have e : onceP blk2 = ⟨[0], [], blkW⟩ := by
    have := blk2_once
    show (⟨[0], [], (onceP blk2).ops⟩ : Blk) = _
    rw [this]
  rw [optN_step hmu blk2_ok (by rw [blk2_once]; decide), e, optN_same blk2_twice]
theorem call_same_plain {w0 : World} {S : List Ow} {K : AV → List Ow → Prop} {l m : List BOp} {A1 A3 D1 D3 : Option Addr} {c1 c3 d1 d3 : Nat} (h1 : SlAt w0 w0.heap.size A1 [.int .u32 0]) (h3 : OpsAt w0 w0.heap.size A3 l) (g1 : SlAt w0 w0.heap.size D1 [.int .u32 0]) (g3 : OpsAt w0 w0.heap.size D3 m) (hl : l.length ≤ 1000) (he : l = m) (hK : K (one (.bool true)) S) :
    CallS Try.prog w0 Gs.nil 23 [.p (.agg [.v (.slice A1 1 c1), .v (.slice none 0 0), .v (.slice A3 l.length c3)]), .p (.agg [.v (.slice D1 1 d1), .v (.slice none 0 0), .v (.slice D3 m.length d3)])] S K := by
  subst he
  refine call_con (x := .bool true) rfl (by kernel_rfl) (fun r w hR => ?_) hK
  have := same_ref (x := ⟨[0], [], l⟩) (y := ⟨[0], [], l⟩) (A1 := A1) (A2 := none) (A3 := A3) (D1 := D1) (D2 := none) (D3 := D3) (c1 := c1) (c2 := 0) (c3 := c3) (d1 := d1) (d2 := 0) (d3 := d3) (w := w) (by show 1 ≤ _; omega) (by show 0 ≤ _; omega) (by show l.length ≤ _; omega)
    (sl_later h1 hR.toBelow) (by intro j u hj; simp at hj) (sl_later h3 hR.toBelow) (sl_later g1 hR.toBelow) (by intro j u hj; simp at hj) (sl_later g3 hR.toBelow)
  refine this.mono fun e w' ⟨h, hB⟩ => ⟨?_, hB⟩
  rw [h]
  simp [sameB]
theorem call_live {w0 : World} {S : List Ow} {K : AV → List Ow → Prop} (b : Blk) {A1 A2 A3 : Option Addr} {n1 n2 n3 c1 c2 c3 : Nat} (hn1 : b.at_.length = n1) (hn2 : b.pages.length = n2) (hn3 : b.ops.length = n3) (hb : b.ok) (h2 : SlAt w0 w0.heap.size A2 (b.pages.map (.int .i64))) (h3 : OpsAt w0 w0.heap.size A3 b.ops)
    (hK : K (.p (.c (.row S.length))) (S ++ [.view viewT (liveAll b).length ((liveAll b).map natV)])) :
    CallS Try.prog w0 Gs.nil 27 [.p (.agg [.v (.slice A1 n1 c1), .v (.slice A2 n2 c2), .v (.slice A3 n3 c3)])] S K := by
  subst hn1; subst hn2; subst hn3
  refine ⟨by kernel_rfl, fun r w us hR hd => ?_⟩
  obtain ⟨u1, l1, rfl, d1, d2⟩ := hd
  obtain rfl : l1 = [] := d2
  obtain rfl := AV.val_den (x := .agg #[.slice A1 b.at_.length c1, .slice A2 b.pages.length c2, .slice A3 b.ops.length c3]) rfl d1
  refine (live_opt b A1 A2 A3 c1 c2 c3 w hb (sl_later h2 hR.toBelow) (sl_later h3 hR.toBelow)).mono fun e w' ⟨A, c, he, hs, k1, k2, hf, hB⟩ => ?_
  refine ⟨.p (.c (.row S.length)), _, _, r.set S.length none (some (.slice A (liveAll b).length c)), he, by simp [AV.den, Pc.den, CV.den, Env.set], hR.snoc (o := .view viewT (liveAll b).length ((liveAll b).map natV)) hB (b := none) nofun (view_holds (w := w) (by simp [Env.set]) (by simp [Env.set]) hs k1 k2 trivial hf (fun k x hk => ?_)), hR.le_new _ _, hK⟩
  simp only [Env.set] at hk
  split at hk
  · cases hk
  · exact (hR.new k x hk).1
end Go.Proofs.Ytmjfgnnefcimiaa
namespace Go.Proofs.Ytmjfgnnefcimiaa
open Go.RowKit

set_option maxRecDepth 100000 in
theorem sanity_true {mu : Blk → Nat} (hmu : ∀ b, b.ok → (onceP b).ops ≠ b.ops → mu (onceP b) < mu b) (w : World) : Calls Try.prog 14 #[] w fun e w' => e = .returned (.bool true) ∧ Below w.heap.size w w' := by
  refine calls_satq [] Try.func14 Try.ntmps14 rfl (by simp) ?_
  refine satq_seq ?_
  conv => whnf
  refine satq_seq ?_
  conv => whnf
  refine satq_seq ?_
  conv => whnf
  refine satq_seq ?_
  conv => whnf
  refine call_block 2 3 [opTwo, opThree, ⟨3, 3, 1, 2, 0⟩] rfl rfl (by decide) ?_
  conv => whnf
  refine call_passV fold_pass (by kernel_rfl) 3 4 blk1 rfl rfl blk1_ok rfl fold_nil ?_
  conv => whnf
  refine satq_seq ?_
  conv => whnf
  refine satq_seq ?_
  conv => whnf
  refine satq_seq ?_
  conv => whnf
  refine call_block 9 3 [⟨2, 20, 1, 0, 0⟩, ⟨3, 2, 20, 20, 0⟩, ⟨2, 3, 20, 0, 0⟩] rfl rfl (by decide) ?_
  conv => whnf
  refine call_passV (opt_pass hmu) (by kernel_rfl) 10 11 blk2 rfl rfl blk2_ok rfl (fun h => by cases h) ?_
  conv => whnf
  refine satq_seq ?_
  conv => whnf
  refine call_block 14 2 [⟨3, 2, 1, 1, 0⟩, ⟨2, 3, 1, 0, 0⟩] rfl rfl (by decide) ?_
  conv => whnf
  refine satq_ent (f' := [(1, .p (.c (.ref 0 0))), (2, .p (.c (.ref 1 0))), (3, .p (.c (.ref 2 0))), (6, .p (.c (.ref 5 0))), (7, .p (.c (.ref 8 0)))])
    (S' := [.cells 53 ((opC opTwo).map .v), .cells 53 ((opC opThree).map .v), .cells 32 [.row 3, .v (.slice none 0 0), .row 4], .view viewT 1 [.int .u32 0], .view viewT (foldAll blk1).length ((foldAll blk1).flatMap opC),
      .cells 32 [.row 6, .v (.slice none 0 0), .row 7], .view viewT 1 [.int .u32 0], .view viewT (optAll mu blk2).length ((optAll mu blk2).flatMap opC), .cells 32 [.row 9, .v (.slice none 0 0), .row 10], .view viewT 1 [.int .u32 0], .view viewT blkW.length (blkW.flatMap opC)])
    (ent_ren [0, 1, 6, 3, 5, 13, 10, 12, 17, 15, 16] (And.intro (rfl) (And.intro (rfl) (And.intro (rfl) (And.intro (rfl) (And.intro (rfl) trivial))))) (And.intro ((Exists.intro _ (And.intro rfl (And.intro rfl (Or.inl rfl))))) (And.intro ((Exists.intro _ (And.intro rfl (And.intro rfl (Or.inl rfl))))) (And.intro ((Exists.intro _ (And.intro rfl (And.intro rfl (Or.inl rfl))))) (And.intro ((Exists.intro _ (And.intro rfl (And.intro rfl (And.intro rfl rfl))))) (And.intro ((Exists.intro _ (And.intro rfl (And.intro rfl (And.intro rfl rfl))))) (And.intro ((Exists.intro _ (And.intro rfl (And.intro rfl (Or.inl rfl))))) (And.intro ((Exists.intro _ (And.intro rfl (And.intro rfl (And.intro rfl rfl))))) (And.intro ((Exists.intro _ (And.intro rfl (And.intro rfl (And.intro rfl rfl))))) (And.intro ((Exists.intro _ (And.intro rfl (And.intro rfl (Or.inl rfl))))) (And.intro ((Exists.intro _ (And.intro rfl (And.intro rfl (And.intro rfl rfl))))) (And.intro ((Exists.intro _ (And.intro rfl (And.intro rfl (And.intro rfl rfl))))) trivial))))))))))) rfl rfl rfl rfl rfl) ?_
  refine satq_restart fun r w1 hR => ?_
  obtain ⟨g1, us1, b1, d1, k1⟩ := own_cellsAt hR 0 rfl
  obtain rfl := denL_vals_inv d1
  obtain ⟨g2, us2, b2, d2, k2⟩ := own_cellsAt hR 1 rfl
  obtain rfl := denL_vals_inv d2
  obtain ⟨g3, A1, c1, A3, c3, b3, k3, s1, s3, m1, m2⟩ := own_blkAt hR 2 3 4 (l := foldAll blk1) rfl rfl rfl
  obtain ⟨g6, B1, e1, B3, e3, b6, k6, t1, t3, n1, n2⟩ := own_blkAt hR 5 6 7 (l := optAll mu blk2) rfl rfl rfl
  obtain ⟨g7, C1, f1, C3, f3, b7, k7, v1, v3, o1, o2⟩ := own_blkAt hR 8 9 10 (l := blkW) rfl rfl rfl
  have hB0 := hR.toBelow
  refine ⟨slotFr [(1, .pointer (some ⟨g1, 0, none⟩)), (2, .pointer (some ⟨g2, 0, none⟩)), (3, .pointer (some ⟨g3, 0, none⟩)), (6, .pointer (some ⟨g6, 0, none⟩)), (7, .pointer (some ⟨g7, 0, none⟩))], fun a hf => slots_den ⟨slot_ref hf 1 rfl b1, slot_ref hf 2 rfl b2, slot_ref hf 3 rfl b3, slot_ref hf 6 rfl b6, slot_ref hf 7 rfl b7, trivial⟩, ?_⟩
  clear hR b1 b2 b3 b6 b7
  refine satq_vc ?_
  conv => whnf
  refine sat_mix [true, true, true, true, false, false, false, true, true, true, false, true, true, true, false, false, true, true, true] mixed (by kernel_rfl) (by kernel_rfl) ?_
  conv => whnf
  refine ⟨_, k3, rfl, ?_⟩
  conv => whnf
  refine ⟨_, k1, rfl, ?_⟩
  conv => whnf
  refine ⟨_, k2, rfl, ?_⟩
  conv => whnf
  refine call_block 0 3 [opTwo, opThree, ⟨1, 3, 0, 0, 5⟩] rfl rfl (by decide) ?_
  conv => whnf
  refine call_sameV 1 2 s1 s3 (by rw [blk1_fold]; decide) rfl rfl blk1_fold ?_
  conv => whnf
  refine ⟨_, k6, rfl, ?_⟩
  conv => whnf
  refine ⟨_, k7, rfl, ?_⟩
  conv => whnf
  refine call_same_plain t1 t3 v1 v3 (by rw [opt_blk2 hmu]; decide) (opt_blk2 hmu) ?_
  conv => whnf
  refine ⟨_, k7, rfl, ?_⟩
  conv => whnf
  refine call_live ⟨[0], [], blkW⟩ rfl rfl rfl blkW_ok (by intro j u hj; simp at hj) v3 ?_
  conv => whnf
  rw [blkW_live]
  conv => whnf
  refine atq_ret ?_
  conv => whnf
  exact fin_val rfl fun w' hB => ⟨rfl, hB0.trans (hB.mono hB0.size)⟩
end Go.Proofs.Ytmjfgnnefcimiaa
namespace Go.Proofs.Ytmjfgnnefcimiaa
open Go.RowKit
def envOne (g : Nat) : Env := ⟨fun i => if i = 0 then some g else Option.none, fun _ => Option.none⟩
theorem envOne_blk {g i b : Nat} (h : (envOne g).blk i = some b) : i = 0 ∧ b = g := by
  simp only [envOne] at h
  split at h
  · rename_i hi; injection h with h; exact ⟨hi, h.symm⟩
  · cases h
theorem rel_own1 (w : World) {g : Nat} {t : TypeId} {us : List Value} (h : w.heap[g]? = some (.cells us.toArray t (0, 0))) : Rel w ⟨[g], []⟩ [.cells t (us.map .v)] (envOne g) w := by
  have hlt : g < w.heap.size := by
    rcases Nat.lt_or_ge g w.heap.size with h1 | h1
    · exact h1
    · rw [Array.getElem?_eq_none h1] at h; cases h
  refine ⟨rfl, rfl, rfl, Nat.le_refl _, fun k _ _ => rfl, fun i o ho => ?_, fun i j b hi hj => ?_, fun i b hb => ?_, fun i hi => ?_, fun i _ => rfl, fun i x hx => ?_⟩
  · cases i with
    | zero => simp at ho; subst ho; exact ⟨g, us, rfl, h, denL_vals us⟩
    | succ i => simp at ho
  · rw [(envOne_blk hi).1, (envOne_blk hj).1]
  · rw [(envOne_blk hb).2]; exact ⟨hlt, fun _ => .inl (by simp)⟩
  · show (if i = 0 then some g else Option.none) = Option.none
    have : ¬ i = 0 := by intro e; subst e; simp at hi
    rw [if_neg this]
  · cases i with
    | zero => simp at hx; subst hx; rfl
    | succ i => simp at hx
/-- A function whose first argument is the address of a block that it may turn. -/
theorem calls_own {P : Program} {fid : FuncId} {fn : Func} {c : Code} {N : Nat} {w : World} {g : Nat} {t : TypeId} {us : List Value} (xs : List Value) (hf : P.funcs[fid]? = some fn) (hN : fn.ntmps = N) (hb : fn.body = some c) (hle : xs.length + 1 ≤ N) (hg : w.heap[g]? = some (.cells us.toArray t (0, 0))) {R : Ending → World → Prop}
    (h : vc none P w ⟨[g], []⟩ ⟨N, []⟩ c (argFr (.p (.c (.ref 0 0)) :: xs.map fun x => AV.of x) 0) [.cells t (us.map .v)] (RetK P w ⟨[g], []⟩ fn.results.toList R)) : Calls P fid (.pointer (some ⟨g, 0, none⟩) :: xs).toArray w R :=
  calls_vc hf hN hb (rel_own1 w hg) (avs := .p (.c (.ref 0 0)) :: xs.map fun x => AV.of x) (args := .pointer (some ⟨g, 0, none⟩) :: xs) ⟨_, _, rfl, den_mk_ref (by simp [envOne]), avdenL_of xs⟩ (by simpa using hle) h
theorem Rel.grown {w0 : World} {g : Nat} {S : List Ow} {r : Env} {w : World} (h : Rel w0 ⟨[g], []⟩ S r w) : w0.grownBy w (some g) :=
  ⟨h.os, h.tape, h.output, h.size, fun k hk hn => h.old k hk (by
    rintro (h1 | h1)
    · simp at h1; exact hn (by rw [h1])
    · cases h1)⟩
/-- The end of such a function. -/
theorem fin_own {w0 : World} {g : Nat} {S : List Ow} {t : TypeId} {us : List Value} {v : AV} {x : Value} {R : Ending → World → Prop} (hv : v.val = some x) (h0 : S[0]? = some (.cells t (us.map .v))) (h : ∀ w, w.heap[g]? = some (.cells us.toArray t (0, 0)) → w0.grownBy w (some g) → R (.returned x) w) : Fin w0 ⟨[g], []⟩ S v R := by
  refine ⟨fun r w u hR hd => ?_⟩
  obtain rfl := AV.val_den hv hd
  obtain ⟨b, us', e1, e2, e3⟩ := hR.own 0 _ h0
  have := hR.first 0 g rfl
  rw [this] at e1; injection e1 with e1; subst e1
  obtain rfl := denL_vals_inv e3
  exact h w e2 hR.grown
/-- What the caller knows of old slices, seen by the callee. -/
def OldKeep (w0 : World) (G : Gs) (w : World) (g : Nat) : Prop := ∀ A ys, SlOld w0 G A ys → SlOld w ⟨[g], []⟩ A ys
theorem Rel.oldKeep {w0 : World} {G : Gs} {S : List Ow} {r : Env} {w : World} (hR : Rel w0 G S r w) {i g : Nat} (hg : r.blk i = some g) : OldKeep w0 G w g := by
  intro A ys h j u hj
  obtain ⟨b, off, e1, e2, e3, e4⟩ := h j u hj
  have hne : b ≠ g := by
    intro e; subst e
    exact e3 ((hR.new i b hg).2 e2)
  refine ⟨b, off, e1, Nat.lt_of_lt_of_le e2 hR.size, ?_, by rw [hR.oldCell e2 e3]; exact e4⟩
  rintro (h1 | h1)
  · simp at h1; exact hne h1
  · cases h1
theorem call_own {P : Program} {w0 : World} {G : Gs} {fid : FuncId} {S : List Ow} {K : AV → List Ow → Prop} {t : TypeId} {us : List Value} {args : List AV} {xs : List Value} (post : Value → List Value → Prop) (i : Nat) (hi : S[i]? = some (.cells t (us.map .v))) (hx : avals args = some xs) (hok : fnOk P fid = true)
    (h : ∀ w g, OldKeep w0 G w g → w.heap[g]? = some (.cells us.toArray t (0, 0)) → Calls P fid (.pointer (some ⟨g, 0, none⟩) :: xs).toArray w fun e w' => ∃ x us', post x us' ∧ e = .returned x ∧ w'.heap[g]? = some (.cells us'.toArray t (0, 0)) ∧ w.grownBy w' (some g))
    (hK : ∀ x us', post x us' → K (AV.of x) (S.set i (.cells t (us'.map .v)))) : CallS P w0 G fid (.p (.c (.ref i 0)) :: args) S K := by
  refine ⟨hok, fun r w vs hR hd => ?_⟩
  obtain ⟨u1, l1, rfl, d1, d2⟩ := hd
  obtain rfl := avals_den hx d2
  obtain ⟨g, hb, rfl⟩ := den_ref d1
  obtain ⟨b', us1, e1, e2, e3⟩ := hR.own i _ hi
  rw [hb] at e1; injection e1 with e1; subst e1
  obtain rfl := denL_vals_inv e3
  refine (h w g (hR.oldKeep hb) e2).mono fun e w' ⟨x, us', hp, he, hg, hgr⟩ => ?_
  exact ⟨AV.of x, x, _, r, he, AV.of_den r x, hR.setBlock (o := .cells t (us'.map .v)) hb hgr ⟨g, us', hb, hg, denL_vals us'⟩ (hR.lt_of_blk hb), Env.le.refl r, hK x us' hp⟩
end Go.Proofs.Ytmjfgnnefcimiaa
namespace Go.Proofs.Ytmjfgnnefcimiaa
open Go.RowKit

def rankW (o : BOp) : Nat := if isBin o.code then 3 else if o.code == 2 || o.code == 23 || o.code == 25 then 2 else 1
theorem rankW_pos (o : BOp) : 0 < rankW o := by unfold rankW; split; omega; split <;> omega
def wL : List BOp → Nat
  | [] => 0
  | o :: l => rankW o + wL l
theorem wL_append : ∀ l m : List BOp, wL (l ++ m) = wL l + wL m
  | [], m => by simp [wL]
  | o :: l, m => by simp [wL, wL_append l m]; omega
theorem wL_reverse : ∀ l : List BOp, wL l.reverse = wL l
  | [] => rfl
  | o :: l => by rw [List.reverse_cons, wL_append, wL_reverse l]; simp [wL]; omega
theorem rank_const (d n : Int) : rankW ⟨1, d, 0, 0, n⟩ = 1 := rfl
theorem foldB_w {f : Int → Option Int} {o : BOp} (h : (foldB f o).2 = true) : (foldB f o).1 = o ∨ rankW (foldB f o).1 < rankW o := by
  unfold foldB at h ⊢
  have hbin : isBin o.code = true → rankW o = 3 := fun hb => by unfold rankW; rw [if_pos hb]
  have htwo : o.code = 2 → rankW o = 2 := fun hc => by unfold rankW; rw [hc]; rfl
  have h23 : o.code = 23 → rankW o = 2 := fun hc => by unfold rankW; rw [hc]; rfl
  have h25 : o.code = 25 → rankW o = 2 := fun hc => by unfold rankW; rw [hc]; rfl
  by_cases c1 : (o.code == 2 && (f o.a).isSome) = true
  · rw [if_pos c1]; right
    simp only [Bool.and_eq_true, beq_iff_eq] at c1
    rw [htwo c1.1, rank_const]; omega
  rw [if_neg c1] at h ⊢
  by_cases c2 : (isBin o.code && (f o.a).isSome && (f o.b).isSome) = true
  · rw [if_pos c2]; right
    simp only [Bool.and_eq_true] at c2
    rw [hbin c2.1.1, rank_const]; omega
  rw [if_neg c2] at h ⊢
  by_cases c3 : ((f o.b).isSome && (f o.b).getD 0 == 0 && memI o.code [3, 4, 6, 7, 8, 9, 10]) = true
  · rw [if_pos c3]; right
    simp only [Bool.and_eq_true] at c3
    have hm := c3.2
    simp only [memI, List.any_cons, List.any_nil, Bool.or_false, Bool.or_eq_true, beq_iff_eq] at hm
    rw [hbin (by unfold isBin; rw [decide_eq_true_eq]; omega)]
    show (2 : Nat) < 3
    omega
  rw [if_neg c3] at h ⊢
  by_cases c4 : (o.code == 21 && (f o.a).isSome && (f o.a).getD 0 != 0) = true
  · rw [if_pos c4] at h; cases h
  rw [if_neg c4] at h ⊢
  by_cases c5 : (o.code == 23 && (f o.a).isSome) = true
  · rw [if_pos c5]; right
    simp only [Bool.and_eq_true, beq_iff_eq] at c5
    rw [h23 c5.1]; show (1 : Nat) < 2; omega
  rw [if_neg c5] at h ⊢
  by_cases c6 : (o.code == 25 && (f o.a).isSome) = true
  · rw [if_pos c6]; right
    simp only [Bool.and_eq_true, beq_iff_eq] at c6
    rw [h25 c6.1]; show (1 : Nat) < 2; omega
  rw [if_neg c6]; left; rfl
theorem foldRun_w : ∀ (l : List BOp) (f : Int → Option Int), foldRun f l = l ∨ wL (foldRun f l) < wL l
  | [], f => .inl rfl
  | o :: l, f => by
    have hpos := rankW_pos o
    unfold foldRun
    by_cases hk : (foldB (foldMark f o) o).2 = true
    · rw [if_pos hk]
      have h1 := foldB_w hk
      generalize (foldB (foldMark f o) o).1 = p at h1 ⊢
      by_cases hx : (p.code == 24) = true
      · rw [if_pos hx]
        cases l with
        | nil =>
          rcases h1 with rfl | h1
          · exact .inl rfl
          · right; simp only [wL]; omega
        | cons q l =>
          right
          have := rankW_pos q
          rcases h1 with rfl | h1
          · simp only [wL]; omega
          · simp only [wL]; omega
      · rw [if_neg hx]
        rcases foldRun_w l (foldUpd (foldMark f o) p) with h2 | h2
        · rcases h1 with rfl | h1
          · left; rw [h2]
          · right; rw [h2]; simp only [wL]; omega
        · right
          rcases h1 with rfl | h1
          · simp only [wL]; omega
          · simp only [wL]; omega
    · rw [if_neg hk]
      right
      rcases foldRun_w l (foldMark f o) with h2 | h2
      · rw [h2]; simp only [wL]; omega
      · simp only [wL]; omega
theorem deadFold_w : ∀ (l : List BOp) (s : DeadS), ∃ m, (l.foldl deadStep s).out = s.out ++ m ∧ (m = l ∨ wL m < wL l)
  | [], s => ⟨[], by simp, .inl rfl⟩
  | o :: l, s => by
    have hpos := rankW_pos o
    simp only [List.foldl_cons]
    obtain ⟨m, h1, h2⟩ := deadFold_w l (deadStep s o)
    by_cases hd : deadB o s.live = true
    · have he : deadStep s o = s := if_pos hd
      rw [he] at h1 ⊢
      refine ⟨m, h1, .inr ?_⟩
      rcases h2 with rfl | h2
      · simp only [wL]; omega
      · simp only [wL]; omega
    · have he : deadStep s o = ⟨beforeM o s.live, s.out ++ [o]⟩ := if_neg hd
      rw [he] at h1 ⊢
      refine ⟨o :: m, by rw [h1]; simp, ?_⟩
      rcases h2 with rfl | h2
      · exact .inl rfl
      · right; simp only [wL]; omega
theorem dead_w (l : List BOp) : (deadRun l.reverse).out.reverse = l ∨ wL (deadRun l.reverse).out.reverse < wL l := by
  obtain ⟨m, h1, h2⟩ := deadFold_w l.reverse ⟨0, []⟩
  have h3 : (deadRun l.reverse).out = m := by unfold deadRun; rw [h1]; rfl
  rw [h3]
  rcases h2 with rfl | h2
  · left; simp
  · right; rw [wL_reverse]; rwa [wL_reverse] at h2

/-! Copies: where an operand's value was written. -/
def reach : List Int → Int → Nat
  | [], _ => 0
  | d :: pre, v => if d = v ∧ 0 ≤ v then pre.length + 1 else reach pre v
theorem reach_le : ∀ (pre : List Int) (v : Int), reach pre v ≤ pre.length
  | [], v => Nat.le_refl _
  | d :: pre, v => by
    unfold reach
    have := reach_le pre v
    split <;> simp <;> omega
theorem reach_neg {d : Int} (h : d < 0) (pre : List Int) (v : Int) : reach (d :: pre) v = reach pre v := by
  show (if _ then _ else _) = _
  rw [if_neg (by omega)]
theorem reach_ne {d v : Int} (h : v ≠ d) (pre : List Int) : reach (d :: pre) v = reach pre v := by
  show (if _ then _ else _) = _
  rw [if_neg (fun e => h e.1.symm)]
theorem reach_self {d : Int} (h : 0 ≤ d) (pre : List Int) : reach (d :: pre) d = pre.length + 1 := by
  show (if _ then _ else _) = _
  rw [if_pos ⟨rfl, h⟩]
def pL : List Int → List BOp → Nat
  | _, [] => 0
  | pre, o :: l => reach pre o.a + reach pre o.b + pL (writes o :: pre) l
theorem pL_le : ∀ (l : List BOp) (pre : List Int) (n : Nat), pre.length + l.length ≤ n → pL pre l ≤ l.length * (2 * n)
  | [], pre, n, _ => by simp [pL]
  | o :: l, pre, n, h => by
    have h1 := reach_le pre o.a
    have h2 := reach_le pre o.b
    have h3 := pL_le l (writes o :: pre) n (by simp at h ⊢; omega)
    simp only [List.length_cons] at h ⊢
    simp only [pL]
    rw [Nat.add_mul, Nat.one_mul]
    omega
def InvS (pre : List Int) (s : Int → Option Int) : Prop := ∀ v w, s v = some w → reach pre w < reach pre v
theorem InvS_mark {pre : List Int} {s : Int → Option Int} (h : InvS pre s) (o : BOp) : InvS pre (copyMark s o) := by
  intro v w hv
  unfold copyMark at hv
  split at hv
  · obtain ⟨h1, _⟩ := Option.filter_eq_some_iff.1 hv
    unfold fdel at h1
    split at h1
    · cases h1
    · exact h v w h1
  · exact h v w hv
theorem InvS_upd {pre : List Int} {s : Int → Option Int} (h : InvS pre s) {p : BOp} (hp : copySkip p = false) : InvS (writes p :: pre) (copyUpd s p) := by
  intro v w hv
  unfold copyUpd at hv
  split at hv
  · rename_i hd
    rw [reach_neg hd, reach_neg hd]; exact h v w hv
  rename_i hd
  have hkill : ∀ v w, copyKill s (writes p) v = some w → reach (writes p :: pre) w < reach (writes p :: pre) v := by
    intro v w hv
    obtain ⟨h1, h2⟩ := Option.filter_eq_some_iff.1 hv
    unfold mdel at h1
    split at h1
    · cases h1
    · rename_i hne
      rw [reach_ne (by simpa using h2), reach_ne hne]; exact h v w h1
  split at hv
  · rename_i hc
    unfold mput at hv
    split at hv
    · rename_i hvd
      injection hv with hv; subst hv
      have hwd : writes p = p.d := by unfold writes; rw [show p.code = 2 by simpa using hc]; rfl
      have hne : p.a ≠ writes p := by
        intro e
        unfold copySkip at hp
        rw [hc, e, hwd] at hp
        simp at hp
      rw [hvd, reach_ne hne, reach_self (by omega)]
      have := reach_le pre p.a
      omega
    · exact hkill v w hv
  · exact hkill v w hv
theorem origS_lt {pre : List Int} {s : Int → Option Int} (h : InvS pre s) (has : Bool) (v : Int) : origS s has v = v ∨ reach pre (origS s has v) < reach pre v := by
  unfold origS
  split
  · rename_i hc
    simp only [Bool.and_eq_true] at hc
    obtain ⟨w, hw⟩ := Option.isSome_iff_exists.1 hc.2
    right; rw [hw]; exact h v w hw
  · exact .inl rfl
theorem origS_le {pre : List Int} {s : Int → Option Int} (h : InvS pre s) (has : Bool) (v : Int) : reach pre (origS s has v) ≤ reach pre v := by
  rcases origS_lt h has v with h | h
  · rw [h]; exact Nat.le_refl _
  · omega
theorem copyRun_w : ∀ (l : List BOp) (s : Int → Option Int) (pre : List Int), InvS pre s → wL (copyRun s l) < wL l ∨ (wL (copyRun s l) = wL l ∧ (pL pre (copyRun s l) < pL pre l ∨ copyRun s l = l))
  | [], s, pre, h => .inr ⟨rfl, .inr rfl⟩
  | o :: l, s, pre, h => by
    have hpos := rankW_pos o
    have hm := InvS_mark h o
    unfold copyRun
    by_cases hs : copySkip (copyOp (copyMark s o) o) = true
    · rw [if_pos hs]
      left
      rcases copyRun_w l (copyMark s o) pre hm with h1 | ⟨h1, _⟩
      · simp only [wL]; omega
      · simp only [wL]; omega
    · rw [if_neg hs]
      have hs' : copySkip (copyOp (copyMark s o) o) = false := by simpa using hs
      have hi := InvS_upd hm hs'
      have hr : rankW (copyOp (copyMark s o) o) = rankW o := rfl
      have hw : writes (copyOp (copyMark s o) o) = writes o := rfl
      have ha := origS_lt hm (memI o.a (reads o) && o.code != 20) o.a
      have hb := origS_lt hm (twoB o.code) o.b
      rcases copyRun_w l (copyUpd (copyMark s o) (copyOp (copyMark s o) o)) _ hi with h1 | ⟨h1, h2⟩
      · left; simp only [wL, hr]; omega
      · right
        refine ⟨by simp only [wL, hr, h1], ?_⟩
        simp only [pL, hw] at h2 ⊢
        show reach pre (origS (copyMark s o) (memI o.a (reads o) && o.code != 20) o.a) + reach pre (origS (copyMark s o) (twoB o.code) o.b) + _ < _ ∨ _
        have hle : pL (writes o :: pre) (copyRun (copyUpd (copyMark s o) (copyOp (copyMark s o) o)) l) ≤ pL (writes o :: pre) l := by
          rcases h2 with h2 | h2
          · omega
          · rw [h2]; exact Nat.le_refl _
        rcases ha with ha | ha
        · rcases hb with hb | hb
          · rcases h2 with h2 | h2
            · left; rw [ha, hb]; omega
            · right
              rw [h2]
              have : copyOp (copyMark s o) o = o := by
                show BOp.mk _ _ _ _ _ = o
                rw [ha, hb]
              rw [this]
          · left; rw [ha]; omega
        · left
          have := origS_le hm (twoB o.code) o.b
          omega
def muO (l : List BOp) : Nat := wL l * 2000000000001 + pL [] l
theorem mu_of_w {l m : List BOp} (hm : m.length ≤ 1000000) (h : wL m < wL l) : muO m < muO l := by
  have h1 := pL_le m [] 1000000 (by simpa using hm)
  have h2 : m.length * (2 * 1000000) ≤ 1000000 * (2 * 1000000) := Nat.mul_le_mul_right _ hm
  unfold muO
  omega
theorem fold_mu {b : Blk} (hb : b.ok) : foldAll b = b.ops ∨ muO (foldAll b) < muO b.ops := by
  have hlen := Nat.le_trans (foldAll_length b) hb.lops
  unfold foldAll at hlen ⊢
  split
  · rename_i hv
    rw [if_pos hv] at hlen
    rcases foldRun_w b.ops noneF with h | h
    · exact .inl h
    · exact .inr (mu_of_w hlen h)
  · exact .inl rfl
theorem copy_mu {b : Blk} (hb : b.ok) : copyAll b = b.ops ∨ muO (copyAll b) < muO b.ops := by
  have hlen := Nat.le_trans (copyAll_length b) hb.lops
  unfold copyAll at hlen ⊢
  split
  · rename_i hv
    rw [if_pos hv] at hlen
    rcases copyRun_w b.ops noneF [] (by intro v w h; cases h) with h | ⟨h1, h2⟩
    · exact .inr (mu_of_w hlen h)
    · rcases h2 with h2 | h2
      · right; unfold muO; rw [h1]; omega
      · exact .inl h2
  · exact .inl rfl
theorem dead_mu {b : Blk} (hb : b.ok) : deadAll b = b.ops ∨ muO (deadAll b) < muO b.ops := by
  have hlen := Nat.le_trans (deadAll_length b) hb.lops
  unfold deadAll at hlen ⊢
  split
  · rename_i hv
    rw [if_pos hv] at hlen
    rcases dead_w b.ops with h | h
    · exact .inl h
    · exact .inr (mu_of_w hlen h)
  · exact .inl rfl
def muB (b : Blk) : Nat := muO b.ops
/-- Each round of the fixpoint loop that changes the block makes the measure smaller. -/
theorem once_mu (b : Blk) (hb : b.ok) (h : (onceP b).ops ≠ b.ops) : muB (onceP b) < muB b := by
  have h1 := fold_mu hb
  have h2 := copy_mu (foldP_ok hb)
  have h3 := dead_mu (copyP_ok (foldP_ok hb))
  have e2 : (foldP b).ops = foldAll b := rfl
  have e3 : (copyP (foldP b)).ops = copyAll (foldP b) := rfl
  have e4 : (onceP b).ops = deadAll (copyP (foldP b)) := rfl
  unfold muB
  rw [e4] at h ⊢
  rw [e2] at h2
  rw [e3] at h3
  rcases h1 with h1 | h1
  · rcases h2 with h2 | h2
    · rcases h3 with h3 | h3
      · exact absurd (h3.trans (h2.trans h1)) h
      · rw [h2, h1] at h3; exact h3
    · rcases h3 with h3 | h3
      · rw [h3]; rw [h1] at h2; exact h2
      · rw [h1] at h2; omega
  · rcases h2 with h2 | h2
    · rcases h3 with h3 | h3
      · rw [h3, h2]; exact h1
      · rw [h2] at h3; omega
    · rcases h3 with h3 | h3
      · rw [h3]; omega
      · omega
end Go.Proofs.Ytmjfgnnefcimiaa
namespace Go.Proofs.Ytmjfgnnefcimiaa
open Go.RowKit

def ckL : Ck → List BOp → Option Ck
  | s, [] => some s
  | s, o :: l => match ckNext s o false false with | some s' => ckL s' l | none => none
theorem ckL_append : ∀ (l m : List BOp) (s : Ck), ckL s (l ++ m) = (ckL s l).bind fun s' => ckL s' m
  | [], m, s => rfl
  | o :: l, m, s => by
    simp only [List.cons_append, ckL]
    split
    · rename_i s' _; exact ckL_append l m s'
    · rfl
def bodyC (c : Int) : Bool := decide ((1 ≤ c ∧ c ≤ 19) ∨ c = 21)
/-- The operations of an instruction, behind its mark: what has been written; whether a guest variable or the memory has. -/
structure BodyOk (l : List BOp) (W : Nat) (ch : Bool) : Prop where
  run : ∀ m, ckL ⟨m, 0, false⟩ l = some ⟨m, W, ch⟩
  all : ∀ o ∈ l, o.ok ∧ bodyC o.code = true
theorem BodyOk.nil : BodyOk [] 0 false := ⟨fun _ => rfl, nofun⟩
def nextW (W : Nat) (o : BOp) : Nat := if 20 ≤ writes o then W ||| 2 ^ (writes o).toNat else W
def nextCh (ch : Bool) (o : BOp) : Bool := ch || (stores o.code || decide (0 ≤ writes o ∧ writes o < 20))
def srcI (W : Nat) (v : Int) : Prop := 0 ≤ v ∧ v < 28 ∧ v ≠ 19 ∧ (v < 20 ∨ W.testBit v.toNat = true)
theorem BodyOk.snoc {l : List BOp} {W : Nat} {ch : Bool} {o : BOp} (h : BodyOk l W ch) (ho : o.ok) (hc : bodyC o.code = true) (hf : formedB o = true) (hlv : leaves o.code = true → ch = false) (hr : ∀ v ∈ reads o, srcI W v) : BodyOk (l ++ [o]) (nextW W o) (nextCh ch o) := by
  refine ⟨fun m => ?_, fun p hp => ?_⟩
  · rw [ckL_append, h.run m]
    show (match ckNext ⟨m, W, ch⟩ o false false with | some s' => ckL s' [] | none => none) = _
    have hc' : (1 ≤ o.code ∧ o.code ≤ 19) ∨ o.code = 21 := by simpa [bodyC] using hc
    have hpl : placedB ⟨m, W, ch⟩ o false false = true := by
      unfold placedB
      have h1 : endsB o.code = false := by unfold endsB; rw [decide_eq_false_iff_not]; omega
      have h2 : (o.code == 23) = false := by rw [beq_eq_false_iff_ne]; omega
      rw [h1, h2]
      cases hl : leaves o.code
      · rfl
      · rw [hlv hl]; rfl
    have hrd : (reads o).all (readB ⟨m, W, ch⟩) = true := by
      rw [List.all_eq_true]
      intro v hv
      unfold readB
      rcases (hr v hv).2.2.2 with h1 | h1
      · simp [h1]
      · simp [h1]
    unfold ckNext
    rw [hf, hpl, hrd]
    have h20 : (o.code == 20) = false := by rw [beq_eq_false_iff_ne]; omega
    rw [h20]
    rfl
  · rcases List.mem_append.1 hp with hp | hp
    · exact h.all p hp
    · simp at hp; subst hp; exact ⟨ho, hc⟩
theorem mid_small {x : Int} (h : -1000 ≤ x ∧ x ≤ 1000) : mid x := by unfold mid; omega
theorem BodyOk.is {l : List BOp} {W W' : Nat} {ch ch' : Bool} (h : BodyOk l W ch) (hW : W = W') (hc : ch = ch') : BodyOk l W' ch' := by subst hW; subst hc; exact h
/-- The kinds of operations that the maker writes. -/
theorem BodyOk.const {l : List BOp} {W : Nat} {ch : Bool} (h : BodyOk l W ch) {d n : Int} (hd : 0 ≤ d ∧ d < 28 ∧ d ≠ 19) (hn : word n) : BodyOk (l ++ [⟨1, d, 0, 0, n⟩]) (if 20 ≤ d then W ||| 2 ^ d.toNat else W) (ch || decide (d < 20)) := by
  refine (h.snoc (o := ⟨1, d, 0, 0, n⟩) ⟨mid_small (by dsimp only; omega), mid_small (by dsimp only; omega), mid0, mid0, hn⟩ rfl ?_ (fun h => by cases h) (fun v hv => by cases hv)).is rfl ?_
  · show (isOp 1 && fieldB true d && fieldB false 0 && fieldB false 0 && (true || _)) = true
    have : fieldB true d = true := by unfold fieldB; rw [if_pos rfl, decide_eq_true_eq]; omega
    rw [this]; rfl
  · unfold nextCh
    show (ch || (false || decide (0 ≤ d ∧ d < 20))) = _
    rw [Bool.false_or]; congr 1; rw [decide_eq_decide]; omega
theorem src_field {W : Nat} {v : Int} (h : srcI W v) : fieldB true v = true := by unfold fieldB; rw [if_pos rfl, decide_eq_true_eq]; exact ⟨h.1, h.2.1, h.2.2.1⟩
theorem BodyOk.move {l : List BOp} {W : Nat} {ch : Bool} (h : BodyOk l W ch) {d a : Int} (hd : 0 ≤ d ∧ d < 28 ∧ d ≠ 19) (ha : srcI W a) : BodyOk (l ++ [⟨2, d, a, 0, 0⟩]) (if 20 ≤ d then W ||| 2 ^ d.toNat else W) (ch || decide (d < 20)) := by
  have ha' := ha
  obtain ⟨a1, a2, a3, a4⟩ := ha
  refine (h.snoc (o := ⟨2, d, a, 0, 0⟩) ⟨mid_small (by dsimp only; omega), mid_small (by dsimp only; omega), mid_small (by dsimp only; omega), mid0, word0⟩ rfl ?_ (fun h => by cases h) (fun v hv => ?_)).is rfl ?_
  · show (isOp 2 && fieldB true d && fieldB true a && fieldB false 0 && (false || true)) = true
    have : fieldB true d = true := by unfold fieldB; rw [if_pos rfl, decide_eq_true_eq]; omega
    rw [this, src_field ha']; rfl
  · have : v ∈ [a] := hv
    simp at this; subst this; exact ha'
  · unfold nextCh
    show (ch || (false || decide (0 ≤ d ∧ d < 20))) = _
    rw [Bool.false_or]; congr 1; rw [decide_eq_decide]; omega
theorem reads_two {c a b d n : Int} {v : Int} (h : v ∈ reads ⟨c, d, a, b, n⟩) : v = a ∨ v = b := by
  unfold reads at h
  rcases List.mem_append.1 h with h | h
  · split at h
    · left; simpa using h
    · cases h
  · split at h
    · right; simpa using h
    · cases h
theorem BodyOk.bin {l : List BOp} {W : Nat} {ch : Bool} (h : BodyOk l W ch) {c d a b : Int} (hc : 3 ≤ c ∧ c ≤ 15) (hd : 0 ≤ d ∧ d < 28 ∧ d ≠ 19) (ha : srcI W a) (hb : srcI W b) : BodyOk (l ++ [⟨c, d, a, b, 0⟩]) (if 20 ≤ d then W ||| 2 ^ d.toNat else W) (ch || decide (d < 20)) := by
  have ha' := ha
  have hb' := hb
  obtain ⟨a1, a2, a3, a4⟩ := ha
  obtain ⟨b1, b2, b3, b4⟩ := hb
  have hD : hasD c = true := by unfold hasD; rw [decide_eq_true_eq]; omega
  have hA : hasA c = true := by unfold hasA; rw [decide_eq_true_eq]; omega
  have hB : hasB c = true := by unfold hasB; rw [decide_eq_true_eq]; omega
  have hI : isOp c = true := by unfold isOp; rw [decide_eq_true_eq]; omega
  have hL : leaves c = false := by unfold leaves; rw [decide_eq_false_iff_not]; omega
  have hS : stores c = false := by unfold stores; rw [decide_eq_false_iff_not]; omega
  have hw : writes ⟨c, d, a, b, 0⟩ = d := by unfold writes; rw [if_pos hD]
  refine (h.snoc (o := ⟨c, d, a, b, 0⟩) ⟨mid_small (by dsimp only; omega), mid_small (by dsimp only; omega), mid_small (by dsimp only; omega), mid_small (by dsimp only; omega), word0⟩ (by unfold bodyC; rw [decide_eq_true_eq]; dsimp only; omega) ?_ (fun h => by rw [hL] at h; cases h) (fun v hv => ?_)).is ?_ ?_
  · unfold formedB
    dsimp only
    rw [hI, hD, hA, hB, src_field ha', src_field hb']
    have : fieldB true d = true := by unfold fieldB; rw [if_pos rfl, decide_eq_true_eq]; omega
    rw [this]; simp
  · rcases reads_two hv with rfl | rfl
    · exact ha'
    · exact hb'
  · unfold nextW; rw [hw]
  · unfold nextCh
    rw [hw]
    dsimp only
    rw [hS, Bool.false_or]; congr 1; rw [decide_eq_decide]; omega
theorem BodyOk.load {l : List BOp} {W : Nat} {ch : Bool} (h : BodyOk l W ch) {c d a n : Int} (hc : 16 ≤ c ∧ c ≤ 17) (hd : 20 ≤ d ∧ d < 28) (ha : srcI W a) (hn : word n) (hch : ch = false) : BodyOk (l ++ [⟨c, d, a, 0, n⟩]) (W ||| 2 ^ d.toNat) ch := by
  have ha' := ha
  obtain ⟨a1, a2, a3, a4⟩ := ha
  have hD : hasD c = true := by unfold hasD; rw [decide_eq_true_eq]; omega
  have hA : hasA c = true := by unfold hasA; rw [decide_eq_true_eq]; omega
  have hB : hasB c = false := by unfold hasB; rw [decide_eq_false_iff_not]; omega
  have hNn : hasN c = true := by unfold hasN; rw [decide_eq_true_eq]; omega
  have hI : isOp c = true := by unfold isOp; rw [decide_eq_true_eq]; omega
  have hS : stores c = false := by unfold stores; rw [decide_eq_false_iff_not]; omega
  have hw : writes ⟨c, d, a, 0, n⟩ = d := by unfold writes; rw [if_pos hD]
  refine (h.snoc (o := ⟨c, d, a, 0, n⟩) ⟨mid_small (by dsimp only; omega), mid_small (by dsimp only; omega), mid_small (by dsimp only; omega), mid0, hn⟩ (by unfold bodyC; rw [decide_eq_true_eq]; dsimp only; omega) ?_ (fun _ => hch) (fun v hv => ?_)).is ?_ ?_
  · unfold formedB
    dsimp only
    rw [hI, hD, hA, hB, src_field ha', hNn]
    have : fieldB true d = true := by unfold fieldB; rw [if_pos rfl, decide_eq_true_eq]; omega
    rw [this]; rfl
  · unfold reads at hv
    dsimp only at hv
    rw [hA, hB] at hv
    simp at hv; subst hv; exact ha'
  · unfold nextW; rw [hw, if_pos hd.1]
  · unfold nextCh
    rw [hw]
    dsimp only
    rw [hS, Bool.false_or]
    have : decide (0 ≤ d ∧ d < 20) = false := by rw [decide_eq_false_iff_not]; omega
    rw [this, Bool.or_false]
theorem BodyOk.guard {l : List BOp} {W : Nat} {ch : Bool} (h : BodyOk l W ch) {a : Int} (ha : srcI W a) (hch : ch = false) : BodyOk (l ++ [⟨21, 0, a, 0, 0⟩]) W ch := by
  have ha' := ha
  obtain ⟨a1, a2, a3, a4⟩ := ha
  refine (h.snoc (o := ⟨21, 0, a, 0, 0⟩) ⟨mid_small (by dsimp only; omega), mid0, mid_small (by dsimp only; omega), mid0, word0⟩ rfl ?_ (fun _ => hch) (fun v hv => ?_)).is rfl ?_
  · show (isOp 21 && fieldB false 0 && fieldB true a && fieldB false 0 && (false || true)) = true
    rw [src_field ha']; rfl
  · have : v ∈ [a] := hv
    simp at this; subst this; exact ha'
  · unfold nextCh
    show (ch || (false || false)) = _
    simp
theorem BodyOk.store {l : List BOp} {W : Nat} {ch : Bool} (h : BodyOk l W ch) {c a b n : Int} (hc : 18 ≤ c ∧ c ≤ 19) (ha : srcI W a) (hb : srcI W b) (hn : word n) (hch : ch = false) : BodyOk (l ++ [⟨c, 0, a, b, n⟩]) W true := by
  have ha' := ha
  have hb' := hb
  obtain ⟨a1, a2, a3, a4⟩ := ha
  obtain ⟨b1, b2, b3, b4⟩ := hb
  have hD : hasD c = false := by unfold hasD; rw [decide_eq_false_iff_not]; omega
  have hA : hasA c = true := by unfold hasA; rw [decide_eq_true_eq]; omega
  have hB : hasB c = true := by unfold hasB; rw [decide_eq_true_eq]; omega
  have hNn : hasN c = true := by unfold hasN; rw [decide_eq_true_eq]; omega
  have hI : isOp c = true := by unfold isOp; rw [decide_eq_true_eq]; omega
  have hS : stores c = true := by unfold stores; rw [decide_eq_true_eq]; omega
  have hw : writes ⟨c, 0, a, b, n⟩ = -1 := by unfold writes; rw [if_neg (by rw [hD]; decide)]
  refine (h.snoc (o := ⟨c, 0, a, b, n⟩) ⟨mid_small (by dsimp only; omega), mid0, mid_small (by dsimp only; omega), mid_small (by dsimp only; omega), hn⟩ (by unfold bodyC; rw [decide_eq_true_eq]; dsimp only; omega) ?_ (fun _ => hch) (fun v hv => ?_)).is ?_ ?_
  · unfold formedB
    dsimp only
    rw [hI, hD, hA, hB, src_field ha', src_field hb', hNn]; rfl
  · rcases reads_two hv with rfl | rfl
    · exact ha'
    · exact hb'
  · unfold nextW; rw [hw]; rfl
  · unfold nextCh
    dsimp only
    rw [hS]; simp
end Go.Proofs.Ytmjfgnnefcimiaa
namespace Go.Proofs.Ytmjfgnnefcimiaa
open Go.RowKit

theorem take_range {x n : Int} (h0 : 0 < n) : 0 ≤ (x.tmod n + n).tmod n ∧ (x.tmod n + n).tmod n < n := by
  have h1 : -n < x.tmod n := by
    have := Int.lt_tmod_of_pos x h0
    omega
  have h3 : 0 ≤ x.tmod n + n := by omega
  exact ⟨Int.tmod_nonneg _ h3, Int.tmod_lt_of_pos _ h0⟩
/-- The maker's cells: the numbers, and how many have been taken. -/
abbrev mkC (A : Option Addr) (m c : Nat) (k : Int) : List Value := [.slice A m c, .int .i64 k]
set_option maxRecDepth 100000 in
theorem take_walk (A : Option Addr) (m c : Nat) (xs : List Int) (k n : Int) (g : Nat) (w : World) (hs : SlOld w ⟨[g], []⟩ A (xs.map (.int .i64))) (hl : xs.length = m) (_hm : m ≤ 1000000) (hk : 0 ≤ k ∧ k < 1000000) (hn : 0 < n ∧ n ≤ 65536)
    (hg : w.heap[g]? = some (.cells (mkC A m c k).toArray 124 (0, 0))) :
    Calls Try.prog 92 #[.pointer (some ⟨g, 0, none⟩), .int .i64 n] w fun e w' => ∃ x us', ((∃ z, x = .int .i64 z ∧ 0 ≤ z ∧ z < n) ∧ us' = mkC A m c (k + 1)) ∧ e = .returned x ∧ w'.heap[g]? = some (.cells us'.toArray 124 (0, 0)) ∧ w.grownBy w' (some g) := by
  have key : ∀ (x : Int) (w' : World), w'.heap[g]? = some (.cells (mkC A m c (k + 1)).toArray 124 (0, 0)) → w.grownBy w' (some g) → ∃ y us', ((∃ z, y = .int .i64 z ∧ 0 ≤ z ∧ z < n) ∧ us' = mkC A m c (k + 1)) ∧ Ending.returned (.int .i64 ((x.tmod n + n).tmod n)) = .returned y ∧ w'.heap[g]? = some (.cells us'.toArray 124 (0, 0)) ∧ w.grownBy w' (some g) :=
    fun x w' h1 h2 => ⟨_, _, ⟨⟨_, rfl, take_range hn.1⟩, rfl⟩, rfl, h1, h2⟩
  have hmod : ∀ x : Int, -9223372036854775808 ≤ x.tmod n + n ∧ x.tmod n + n < 9223372036854775808 := fun x => by
    have h1 : -n < x.tmod n := by have := Int.lt_tmod_of_pos x hn.1; omega
    have h2 := Int.tmod_lt_of_pos x hn.1
    omega
  refine calls_own [.int .i64 n] Try.func92 Try.ntmps92 rfl (by simp) hg ?_
  conv => whnf
  refine sat_quiet mixed (by kernel_rfl) ?_
  conv => whnf
  refine ⟨fun ht => ?_, fun ht => ?_⟩
  · have hlt : k < (m : Int) := by simpa using ht
    obtain ⟨x, hx⟩ : ∃ x, xs[k.toNat]? = some x := ⟨_, List.getElem?_eq_getElem (by omega)⟩
    obtain ⟨b, off, rfl, hb, hG, hc⟩ := hs k.toNat (.int .i64 x) (by rw [List.getElem?_map, hx]; rfl)
    conv => whnf
    refine sat_quiet mixed (by kernel_rfl) ?_
    conv => whnf
    refine ⟨⟨by omega, by omega⟩, ?_⟩
    conv => whnf
    refine ⟨.int .i64 x, cells_one hb hG (by rw [show off + k.toNat * tsz Try.prog 3 = off + k.toNat from congrArg (off + ·) (Nat.mul_one _)]; exact hc), ?_⟩
    conv => whnf
    refine ⟨k + 1, wr64 (by omega), ?_⟩
    conv => whnf
    refine ⟨by omega, _, rfl, ?_⟩
    conv => whnf
    refine ⟨_, wr64 (hmod x), ?_⟩
    conv => whnf
    refine ⟨by omega, _, rfl, ?_⟩
    conv => whnf
    exact fin_own (us := mkC (some ⟨b, off, none⟩) m c (k + 1)) rfl rfl (key x)
  · conv => whnf
    refine ⟨k + 1, wr64 (by omega), ?_⟩
    conv => whnf
    refine ⟨by omega, _, rfl, ?_⟩
    conv => whnf
    refine ⟨_, wr64 (hmod 0), ?_⟩
    conv => whnf
    refine ⟨by omega, _, rfl, ?_⟩
    conv => whnf
    exact fin_own (us := mkC A m c (k + 1)) rfl rfl (key 0)
/-- A call of take by one that owns the maker. -/
theorem call_take {w0 : World} {G : Gs} {S : List Ow} {K : AV → List Ow → Prop} (i : Nat) {A : Option Addr} {m c : Nat} {xs : List Int} {k n : Int} (hi : S[i]? = some (.cells 124 ((mkC A m c k).map .v))) (hs : SlOld w0 G A (xs.map (.int .i64))) (hl : xs.length = m) (hm : m ≤ 1000000) (hk : 0 ≤ k ∧ k < 1000000) (hn : 0 < n ∧ n ≤ 65536)
    (hK : ∀ z, 0 ≤ z → z < n → K (one (.int .i64 z)) (S.set i (.cells 124 ((mkC A m c (k + 1)).map .v)))) : CallS Try.prog w0 G 92 [.p (.c (.ref i 0)), one (.int .i64 n)] S K := by
  refine call_own (fun x us' => (∃ z, x = .int .i64 z ∧ 0 ≤ z ∧ z < n) ∧ us' = mkC A m c (k + 1)) i hi (xs := [.int .i64 n]) rfl (by kernel_rfl) (fun w g ho hg => take_walk A m c xs k n g w (ho A _ hs) hl hm hk hn hg) ?_
  rintro x us' ⟨⟨z, rfl, h0, h1⟩, rfl⟩
  exact hK z h0 h1
set_option maxRecDepth 100000 in
theorem word_walk (A : Option Addr) (m c : Nat) (xs : List Int) (k : Int) (g : Nat) (w : World) (hs : SlOld w ⟨[g], []⟩ A (xs.map (.int .i64))) (hl : xs.length = m) (hm : m ≤ 1000000) (hk : 0 ≤ k ∧ k < 999990)
    (hg : w.heap[g]? = some (.cells (mkC A m c k).toArray 124 (0, 0))) :
    Calls Try.prog 101 #[.pointer (some ⟨g, 0, none⟩)] w fun e w' => ∃ x us', ((∃ z, x = .int .u32 z ∧ word z) ∧ us' = mkC A m c (k + 2)) ∧ e = .returned x ∧ w'.heap[g]? = some (.cells us'.toArray 124 (0, 0)) ∧ w.grownBy w' (some g) := by
  have key : ∀ (x : Int) (w' : World), word x → w'.heap[g]? = some (.cells (mkC A m c (k + 1 + 1)).toArray 124 (0, 0)) → w.grownBy w' (some g) → ∃ y us', ((∃ z, y = .int .u32 z ∧ word z) ∧ us' = mkC A m c (k + 2)) ∧ Ending.returned (.int .u32 x) = .returned y ∧ w'.heap[g]? = some (.cells us'.toArray 124 (0, 0)) ∧ w.grownBy w' (some g) :=
    fun x w' h0 h1 h2 => ⟨_, _, ⟨⟨_, rfl, h0⟩, rfl⟩, rfl, by rw [show k + 2 = k + 1 + 1 by omega]; exact h1, h2⟩
  refine calls_own [] Try.func101 Try.ntmps101 rfl (by simp) hg ?_
  conv => whnf
  refine call_take 0 rfl hs hl hm (by omega) (by omega) fun z z0 z1 => ?_
  conv => whnf
  refine ⟨z, by rw [wr32]; omega, ?_⟩
  conv => whnf
  refine call_take 0 rfl hs hl hm (by omega) (by omega) fun y y0 y1 => ?_
  conv => whnf
  refine ⟨fun _ => ?_, fun _ => ?_⟩
  · conv => whnf
    refine ⟨by omega, _, rfl, ?_⟩
    conv => whnf
    exact fin_own (us := mkC A m c (k + 1 + 1)) rfl rfl fun w' h1 h2 => key _ w' (by rw [Int.tmod_eq_emod_of_nonneg z0]; unfold word; omega) h1 h2
  conv => whnf
  refine ⟨fun _ => ?_, fun _ => ?_⟩
  · conv => whnf
    refine ⟨by omega, _, rfl, ?_⟩
    conv => whnf
    refine ⟨_, wr32 _, ?_⟩
    conv => whnf
    exact fin_own (us := mkC A m c (k + 1 + 1)) rfl rfl fun w' h1 h2 => key _ w' (word_mod _) h1 h2
  conv => whnf
  refine ⟨fun _ => ?_, fun _ => ?_⟩
  · conv => whnf
    refine ⟨_, wr32 _, ?_⟩
    conv => whnf
    exact fin_own (us := mkC A m c (k + 1 + 1)) rfl rfl fun w' h1 h2 => key _ w' (word_mod _) h1 h2
  conv => whnf
  refine ⟨by omega, _, rfl, ?_⟩
  conv => whnf
  exact fin_own (us := mkC A m c (k + 1 + 1)) rfl rfl fun w' h1 h2 => key _ w' (by rw [Int.tmod_eq_emod_of_nonneg z0]; unfold word; omega) h1 h2
theorem call_word {w0 : World} {G : Gs} {S : List Ow} {K : AV → List Ow → Prop} (i : Nat) {A : Option Addr} {m c : Nat} {xs : List Int} {k : Int} (hi : S[i]? = some (.cells 124 ((mkC A m c k).map .v))) (hs : SlOld w0 G A (xs.map (.int .i64))) (hl : xs.length = m) (hm : m ≤ 1000000) (hk : 0 ≤ k ∧ k < 999990)
    (hK : ∀ z, word z → K (one (.int .u32 z)) (S.set i (.cells 124 ((mkC A m c (k + 2)).map .v)))) : CallS Try.prog w0 G 101 [.p (.c (.ref i 0))] S K := by
  refine call_own (fun x us' => (∃ z, x = .int .u32 z ∧ word z) ∧ us' = mkC A m c (k + 2)) i hi (xs := []) rfl (by kernel_rfl) (fun w g ho hg => word_walk A m c xs k g w (ho A _ hs) hl hm hk hg) ?_
  rintro x us' ⟨⟨z, rfl, h0⟩, rfl⟩
  exact hK z h0
/-- The temporaries that have been written, as bits from 20 on, as the maker keeps them. -/
abbrev wrC (W : Nat) : List Value := [.bool (W.testBit 20), .bool (W.testBit 21), .bool (W.testBit 22), .bool (W.testBit 23), .bool (W.testBit 24), .bool (W.testBit 25), .bool (W.testBit 26), .bool (W.testBit 27)]
theorem wrC_at (W : Nat) {t : Nat} (h : t < 8) : (wrC W)[t]? = some (.bool (W.testBit (20 + t))) := by
  rcases t with _ | _ | _ | _ | _ | _ | _ | _ | t <;> first | rfl | omega

set_option maxRecDepth 100000 in
theorem source_walk (A : Option Addr) (m c : Nat) (xs : List Int) (k : Int) (W : Nat) (g : Nat) (w : World) (hs : SlOld w ⟨[g], []⟩ A (xs.map (.int .i64))) (hl : xs.length = m) (hm : m ≤ 1000000) (hk : 0 ≤ k ∧ k < 999990)
    (hg : w.heap[g]? = some (.cells (mkC A m c k).toArray 124 (0, 0))) :
    Calls Try.prog 100 #[.pointer (some ⟨g, 0, none⟩), .agg (wrC W).toArray] w fun e w' => ∃ x us', ((∃ z, x = .int .i64 z ∧ srcI W z) ∧ us' = mkC A m c (k + 1)) ∧ e = .returned x ∧ w'.heap[g]? = some (.cells us'.toArray 124 (0, 0)) ∧ w.grownBy w' (some g) := by
  refine calls_own [.agg (wrC W).toArray] Try.func100 Try.ntmps100 rfl (by simp) hg ?_
  conv => whnf
  refine call_take 0 rfl hs hl hm (by omega) (by omega) fun z z0 z1 => ?_
  conv => whnf
  refine ⟨fun hz => ?_, fun hz => ?_⟩
  · have hz : z < 19 := by simpa using hz
    conv => whnf
    exact fin_own (us := mkC A m c (k + 1)) rfl rfl fun w' h1 h2 => ⟨_, _, ⟨⟨_, rfl, ⟨by omega, by omega, by omega, .inl (by omega)⟩⟩, rfl⟩, rfl, h1, h2⟩
  have hz : ¬ z < 19 := by simpa using hz
  conv => whnf
  refine ⟨z - 19, wr64 (by omega), ?_⟩
  conv => whnf
  refine ⟨⟨by omega, by omega⟩, ?_⟩
  conv => whnf
  rw [show (List.map CV.v (wrC W).toArray.toList)[0 + (z - 19).toNat * tsz Try.prog 4]? = some (.v (.bool (W.testBit (20 + (z - 19).toNat)))) by
    rw [show 0 + (z - 19).toNat * tsz Try.prog 4 = (z - 19).toNat from (Nat.zero_add _).trans (Nat.mul_one _), List.getElem?_map]
    show ((wrC W)[(z - 19).toNat]?).map CV.v = _
    rw [wrC_at W (by omega)]; rfl]
  conv => whnf
  refine ⟨fun ht => ?_, fun ht => ?_⟩
  · conv => whnf
    refine ⟨z + 1, wr64 (by omega), ?_⟩
    conv => whnf
    exact fin_own (us := mkC A m c (k + 1)) rfl rfl fun w' h1 h2 => ⟨_, _, ⟨⟨_, rfl, ⟨by omega, by omega, by omega, .inr (by rw [show (z + 1).toNat = 20 + (z - 19).toNat by omega]; exact ht)⟩⟩, rfl⟩, rfl, h1, h2⟩
  · conv => whnf
    refine ⟨z - 19, wr64 (by omega), ?_⟩
    conv => whnf
    exact fin_own (us := mkC A m c (k + 1)) rfl rfl fun w' h1 h2 => ⟨_, _, ⟨⟨_, rfl, ⟨by omega, by omega, by omega, .inl (by omega)⟩⟩, rfl⟩, rfl, h1, h2⟩
theorem call_source {w0 : World} {G : Gs} {S : List Ow} {K : AV → List Ow → Prop} (i : Nat) {A : Option Addr} {m c : Nat} {xs : List Int} {k : Int} (W : Nat) {l : List CV} (hl8 : l = (wrC W).map .v) (hi : S[i]? = some (.cells 124 ((mkC A m c k).map .v))) (hs : SlOld w0 G A (xs.map (.int .i64))) (hl : xs.length = m) (hm : m ≤ 1000000) (hk : 0 ≤ k ∧ k < 999990)
    (hK : ∀ z, srcI W z → K (one (.int .i64 z)) (S.set i (.cells 124 ((mkC A m c (k + 1)).map .v)))) : CallS Try.prog w0 G 100 [.p (.c (.ref i 0)), .p (.agg l)] S K := by
  subst hl8
  refine call_own (fun x us' => (∃ z, x = .int .i64 z ∧ srcI W z) ∧ us' = mkC A m c (k + 1)) i hi (xs := [.agg (wrC W).toArray]) rfl (by kernel_rfl) (fun w g ho hg => source_walk A m c xs k W g w (ho A _ hs) hl hm hk hg) ?_
  rintro x us' ⟨⟨z, rfl, h0⟩, rfl⟩
  exact hK z h0
end Go.Proofs.Ytmjfgnnefcimiaa
