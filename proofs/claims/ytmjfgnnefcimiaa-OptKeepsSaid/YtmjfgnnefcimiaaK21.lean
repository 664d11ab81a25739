/- A built slice as a row that may be appended to. slices.Reverse on a row of operations: the shelf's contract. Walks: slices.Equal on operations. Functions that turn one block of cells that their caller owns, over states that are known part by part. The arguments of a law, opened: a slice of integers and an array of three. Walks: what is a copy, whether a block is without copies, of the reference. Objects of several blocks that a function is handed and may turn. A range over slices.Backward, in a function of the walk. Blocks whose operations are seen through views: the passes called on them. -/
import Derived.Shelf.SlicesQ.Reverse
import Derived.Ground.SlgnProg
import Derived.ProofKit
import Derived.OpenShut
import Derived.ShutString
import Derived.ChangeOld
import Derived.Below
import Derived.Lib.SmallJoins
import Derived.Test.YtmjfgnnefcimiaaK1
import Derived.Test.YtmjfgnnefcimiaaK10
import Derived.Test.YtmjfgnnefcimiaaK11
import Derived.Test.YtmjfgnnefcimiaaK12
import Derived.Test.YtmjfgnnefcimiaaK14
import Derived.Test.YtmjfgnnefcimiaaK15
import Derived.Test.YtmjfgnnefcimiaaK16
import Derived.Test.YtmjfgnnefcimiaaK17
import Derived.Test.YtmjfgnnefcimiaaK18
import Derived.Test.YtmjfgnnefcimiaaK19
import Derived.Test.YtmjfgnnefcimiaaK20
import Derived.Test.YtmjfgnnefcimiaaK3
import Derived.Test.YtmjfgnnefcimiaaK4
import Derived.Test.YtmjfgnnefcimiaaK5
namespace Go.Proofs.Ytmjfgnnefcimiaa
open Go.RowKit

theorem opS_ent {P : Program} {w0 : World} {G : Gs} {N : Nd} {o : Oper} {f f1 : Fr} {S S1 : List Ow} {K : Fr → List Ow → Prop} (h : Ent w0 G N f S f1 S1) (k : OpS P w0 G N o f1 S1 K) : OpS P w0 G N o f S K :=
  ⟨fun r a w hR hf hN hd next Q hK => by
    obtain ⟨r1, hR1, hf1, hN1, hd1⟩ := h.out a w ⟨r, hR, hf, hN, hd⟩
    exact k.out r1 a w hR1 hf1 hN1 hd1 next Q hK⟩
def othersFx (i : Nat) : List Ow → Nat → Bool
  | [], _ => true
  | .cells _ l :: S, k => (match Nat.beq k i with | true => othersFx i S (k + 1) | false => (match fxL (fun _ => true) l with | true => othersFx i S (k + 1) | false => false))
  | _ :: S, k => othersFx i S (k + 1)
theorem othersFx_get {i : Nat} : ∀ {S : List Ow} {k j : Nat} {t : TypeId} {l : List CV}, othersFx i S k = true → S[j]? = some (.cells t l) → k + j ≠ i → fxL (fun _ => true) l = true
  | [], k, j, t, l, _, h, _ => by simp at h
  | o :: S, k, 0, t, l, hb, h, hne => by
    simp at h; subst h
    simp only [othersFx] at hb
    have : Nat.beq k i = false := by
      cases hk : Nat.beq k i
      · rfl
      · exact absurd (Nat.eq_of_beq_eq_true hk) (by omega)
    rw [this] at hb
    simp only at hb
    split at hb
    · assumption
    · cases hb
  | o :: S, k, j + 1, t, l, hb, h, hne => by
    have hb2 : othersFx i S (k + 1) = true := by
      cases o <;> simp only [othersFx] at hb <;> try exact hb
      split at hb
      · exact hb
      · split at hb
        · exact hb
        · cases hb
    exact othersFx_get (k := k + 1) (j := j) hb2 (by simpa using h) (by omega)
theorem ent_slrow {w0 : World} {G : Gs} {N : Nd} {f f' : Fr} {S : List Ow} (i d size n : Nat) {e : TypeId} {xs : List Value} (hs : f.get d = .p (.c (.sl i 0 n n))) (hi : S[i]? = some (.cells e (xs.map .v))) (hlen : xs.length = n * size) (hn : n ≤ maxLen) (hf : FLe f f') (hfx : f'.fx (fun _ => true) = true) (hS : othersFx i S 0 = true) : Ent w0 G N f S ((d, .p (.c (.row i))) :: f') (S.set i (.row e size n xs)) := by
  refine ⟨fun a w ⟨r, hR, hd, hN, hdf⟩ => ?_⟩
  obtain ⟨b, us, h1, h2, h3⟩ := hR.own i _ hi
  obtain rfl := denL_vals_inv h3
  have hil := hR.lt_of_blk h1
  obtain ⟨r1, hr1⟩ : ∃ r1 : Env, r1 = ⟨r.blk, fun j => if j = i then some (.slice (some ⟨b, 0, none⟩) n n) else r.val j⟩ := ⟨_, rfl⟩
  have hb1 : r1.blk = r.blk := by rw [hr1]
  have hv1 : ∀ j, j ≠ i → r1.val j = r.val j := fun j hj => by rw [hr1]; exact if_neg hj
  have hvi : r1.val i = some (.slice (some ⟨b, 0, none⟩) n n) := by rw [hr1]; exact if_pos rfl
  have hag : ∀ j x, (true = true) → r.blk j = some x → r1.blk j = some x := fun j x _ h => by rw [hb1]; exact h
  refine ⟨r1, ⟨hR.os, hR.tape, hR.output, hR.size, hR.old, fun j o hj => ?_, fun j k x h k' => hR.inj j k x (hb1 ▸ h) (hb1 ▸ k'), fun j x h => hR.new j x (hb1 ▸ h), fun j hj => by rw [hb1]; exact hR.outB j (by simpa using hj), fun j hj => ?_, fun j g h => by rw [hb1]; exact hR.first j g h⟩, fun k => ?_, hN, hdf⟩
  · rw [List.getElem?_set] at hj
    split at hj
    · rename_i hij; subst hij
      injection hj with hj; subst hj
      exact ⟨_, hvi, by rw [hb1, h1]; rfl, hlen, .inr ⟨b, n, us.toArray, rfl, Nat.zero_le _, h2, Nat.le_refl _, hn, by simpa using hlen, by rw [← hlen]; simp⟩⟩
    · rename_i hij
      have hh := hR.own j o hj
      have hv := hv1 j (Ne.symm hij)
      cases o with
      | cells t l =>
        obtain ⟨b', us', j1, j2, j3⟩ := hh
        exact ⟨b', us', by rw [hb1]; exact j1, j2, denL_fx (ok := fun _ => true) (fun k x hk hx => hag k x rfl hx) (othersFx_get hS hj (by omega)) j3⟩
      | row e' size' m ys => obtain ⟨v, j1, j2, j3⟩ := hh; exact ⟨v, hv.trans j1, by rw [hb1]; exact j2, j3⟩
      | ext φ => obtain ⟨b', j1, j2⟩ := hh; exact ⟨b', by rw [hb1]; exact j1, j2⟩
      | view φ m ys => obtain ⟨A, c, j1, j2, j3, j4, j5⟩ := hh; exact ⟨A, c, hv.trans j1, j2, j3, by rw [hb1]; exact j4, by rw [hb1]; exact j5⟩
      | gone => trivial
  · have : j ≠ i := fun e => by subst e; simp at hj; omega
    rw [hv1 j this]; exact hR.outV j (by simpa using hj)
  · simp only [Fr.get]
    split
    · rename_i hk
      have := Nat.eq_of_beq_eq_true hk; subst this
      have hsl := hd d
      rw [hs] at hsl
      obtain ⟨b', h4, h5⟩ := den_sl hsl
      rw [h1] at h4; injection h4 with h4; subst h4
      simp only [AV.den, Pc.den, CV.den]
      rw [h5, hvi]
    · exact ((hf.den hd).fx (ok := fun _ => true) (fun k x hk hx => hag k x rfl hx) hfx) k
end Go.Proofs.Ytmjfgnnefcimiaa
namespace Go.Proofs
open Go.Shelf Go.Lib
shelf_lay_g SlLaysE0.n35 Slgn 35 at Try 50 as Try.reverseOp
end Go.Proofs
namespace Go.Proofs.Ytmjfgnnefcimiaa
open Go.RowKit

theorem ops_get : ∀ {l : List BOp} {t : Nat}, t < l.length * 5 → (l.flatMap opC)[t]? = some ((opC l[t / 5]!)[t % 5]!)
  | [], t, h => by simp at h
  | x :: l, t, h => by
    rw [List.flatMap_cons]
    rcases Nat.lt_or_ge t 5 with h1 | h1
    · rw [List.getElem?_append_left (by simpa [opC] using h1), Nat.div_eq_of_lt h1, Nat.mod_eq_of_lt h1]
      have : t < (opC x).length := by simpa [opC] using h1
      rw [List.getElem?_eq_getElem this]
      simp [this]
    · obtain ⟨s, rfl⟩ : ∃ s, t = s + 5 := ⟨t - 5, by omega⟩
      rw [List.getElem?_append_right (by simp [opC])]
      have := ops_get (l := l) (t := s) (by simp at h; omega)
      rw [show s + 5 - (opC x).length = s by simp [opC], this, show (s + 5) / 5 = s / 5 + 1 by omega, show (s + 5) % 5 = s % 5 by omega]
      simp
theorem flatK_ops (l : List BOp) : Sort.flatK opC 5 l.toArray = (l.flatMap opC).toArray := by
  refine Array.ext (by simp only [Sort.size_flatK, List.size_toArray, ops_length]) fun t h1 h2 => ?_
  have h1 : t < l.length * 5 := by simpa using h1
  have e := ops_get h1
  rw [← getElem!_pos, Sort.get_flatK _ _ _ _ (by simpa using h1)]
  have h2' : t < (l.flatMap opC).length := by rw [ops_length]; exact h1
  rw [List.getElem?_eq_getElem h2'] at e
  injection e with e
  simp only [List.getElem_toArray]
  rw [e]
  simp
theorem opC_one {x : BOp} : ∀ v ∈ opC x, v.oneCell' = true := by
  intro v hv
  simp only [opC, List.mem_cons, List.not_mem_nil, or_false] at hv
  rcases hv with rfl | rfl | rfl | rfl | rfl <;> rfl
theorem putRow_block {w : World} {g : Nat} {cur : Array Value} {e : TypeId} {F : Array Value} (h : w.heap[g]? = some (.cells cur e (0, 0))) (hF : F.size ≤ cur.size) : ∃ cur' : Array Value, (Sort.putRow id w g 0 F).heap[g]? = some (.cells cur' e (0, 0)) ∧ cur'.size = cur.size ∧ cur'.toList.take F.size = F.toList := by
  refine ⟨Sort.putCells id 0 F cur, by simp [Sort.putRow, Sort.mapBlock, Array.getElem?_modify, h, Sort.onCells], by simp [Sort.putCells], ?_⟩
  refine List.ext_getElem? fun i => ?_
  rw [List.getElem?_take]
  split
  · rename_i hi
    simp only [Sort.putCells, Array.getElem?_toList, Array.getElem?_mapIdx]
    rw [Array.getElem?_eq_getElem (by omega), Array.getElem?_eq_getElem hi]
    simp [hi]
  · rename_i hi
    rw [List.getElem?_eq_none (by simp; omega)]
theorem reverse_row (l : List BOp) (hl : l.length ≤ 1000000) (base : Nat) (v : Value) (w : World) (h : w.ownsRow base 53 5 v l.length (l.flatMap opC)) :
    Calls Try.prog 50 #[v] w fun e w' => e = .returned (.tuple #[]) ∧ w'.ownsRow base 53 5 v l.length (l.reverse.flatMap opC) ∧ w.grownBy w' v.ownBlock := by
  obtain ⟨h1, h2⟩ := h
  rcases h2 with ⟨rfl, h0⟩ | ⟨g, cap, cur, rfl, hg, hh, hn, hcap, hsz, htake⟩
  · have hl0 : l = [] := List.eq_nil_of_length_eq_zero h0
    subst hl0
    refine (AnyQ.slices_Reverse_empty Try.reverseOp none 0 w).mono fun e w' ⟨h3, h4⟩ => ⟨h3, ?_, ?_⟩
    · exact ⟨rfl, .inl ⟨rfl, rfl⟩⟩
    · rw [h4]; exact World.grownBy.refl _ _
  · have hH : Sort.HoldsK opC 5 w g 0 l.toArray := by
      unfold Sort.HoldsK
      rw [flatK_ops]
      intro j hj
      have hj : j < (l.flatMap opC).length := by simpa using hj
      refine ⟨?_, by simp [World.frozen?, hh]⟩
      have hjc : (l.flatMap opC)[j]? = cur[j]? := by
        rw [← htake, List.getElem?_take, if_pos (by rw [h1] at hj; exact hj)]; simp
      simp only [World.cell?, Nat.zero_add, hh]
      rw [← hjc]
      simp [List.getElem?_eq_getElem hj]
    refine (AnyQ.slices_Reverse Try.reverseOp 5 (fun w => by kernel_rfl) (fun w => by kernel_rfl) opC (fun x => rfl) (fun x => opC_one) g 0 cap l.toArray w hH (by simp; omega)).mono fun e w' ⟨h3, q, h4⟩ => ⟨h3, ?_, ?_⟩
    · obtain ⟨cur', k1, k2, k3⟩ := putRow_block (w := Sort.ahead w q) (F := (l.reverse.flatMap opC).toArray) hh (by
        have : (l.reverse.flatMap opC).toArray.size = l.length * 5 := by simp only [List.size_toArray, ops_length, List.length_reverse]
        rw [this, hsz]; exact Nat.mul_le_mul_right 5 hn)
      have e : w' = Sort.putRow id (Sort.ahead w q) g 0 (l.reverse.flatMap opC).toArray := by
        rw [h4]; unfold Sort.putRowK; rw [← flatK_ops]; simp
      refine ⟨by rw [ops_length, List.length_reverse], .inr ⟨g, cap, cur', rfl, hg, by rw [e]; exact k1, hn, hcap, k2.trans hsz, ?_⟩⟩
      have : (l.reverse.flatMap opC).toArray.size = l.length * 5 := by simp only [List.size_toArray, ops_length, List.length_reverse]
      rw [← this]; simpa using k3
    · rw [h4]
      refine ⟨rfl, rfl, rfl, by simp [Sort.putRowK, Sort.ahead], fun k hk hne => ?_⟩
      have hne : g ≠ k := fun e => hne (by rw [e]; rfl)
      simp [Sort.putRowK, Sort.putRow, Sort.mapBlock, Array.getElem?_modify, hne, Sort.ahead]
theorem call_reverse {w0 : World} {G : Gs} {S : List Ow} {K : AV → List Ow → Prop} {l : List BOp} (i : Nat) (hi : S[i]? = some (.row 53 5 l.length (l.flatMap opC))) (hl : l.length ≤ 1000000)
    (hK : K (.tup []) (S.set i (.row 53 5 l.length (l.reverse.flatMap opC)))) : CallS Try.prog w0 G 50 [.p (.c (.row i))] S K := by
  refine ⟨by kernel_rfl, fun r w us hR hd => ?_⟩
  obtain ⟨u1, l1, rfl, d1, d2⟩ := hd
  obtain rfl : l1 = [] := d2
  obtain ⟨v, e1, e2, e3⟩ := hR.own i _ hi
  have d1 := den_row d1
  rw [e1] at d1; injection d1 with d1; subst d1
  refine (reverse_row l hl 0 v w e3).mono fun e w' ⟨he, ho, hg⟩ => ?_
  rw [e2] at hg
  cases hb : r.blk i with
  | none =>
    rw [hb] at hg
    have hB : Below w.heap.size w w' := ⟨hg.os, hg.tape, hg.output, hg.size, fun k hk => hg.block k hk (by simp)⟩
    have hR2 := hR.below hB
    refine ⟨.tup [], _, _, r, he, ⟨_, rfl, rfl⟩, rel_setSame (o := .row 53 5 l.length (l.reverse.flatMap opC)) hR2 ⟨v, e1, e2, ho⟩, Env.le.refl r, hK⟩
  | some b =>
    rw [hb] at hg
    exact ⟨.tup [], _, _, r, he, ⟨_, rfl, rfl⟩, hR.setBlock (o := .row 53 5 l.length (l.reverse.flatMap opC)) hb hg ⟨v, e1, e2, ho⟩ (hR.lt_of_blk hb), Env.le.refl r, hK⟩
end Go.Proofs.Ytmjfgnnefcimiaa
namespace Go.Proofs.Ytmjfgnnefcimiaa
open Go.RowKit

theorem op_guard (op : BinOp) (x y : Operand) (p q : BOp) (w : World) : (eqGuard op 53 x y (opV p) (opV q)).run Try.prog w = .ok () w := by
  have h : Try.prog.eqGuardType Try.prog.depth 53 = false := by kernel_rfl
  unfold eqGuard opV
  cases op <;> simp [h]
theorem q_neq_op {w0 : World} {G : Gs} {S : List Ow} {f : Fr} {o : Oper} {K : AV → Prop} {x y : Operand} (p q : BOp) {t : TypeId} (hop : o.op = .binOp .neq 53 x y t) (hx : f.ev x = .p (.agg ((opC p).map .v))) (hy : f.ev y = .p (.agg ((opC q).map .v))) (hK : K (one (.bool (!(p == q))))) : QRun Try.prog w0 G S f o K := by
  refine ⟨_, hK, fun r a hf => ⟨.bool (!(p == q)), den_one _ _, fun w _ => ?_⟩⟩
  have h1 := hf.ev x
  have h2 := hf.ev y
  rw [hx] at h1; rw [hy] at h2
  have e1 : a.eval x = opV p := by obtain ⟨us, hu, hl⟩ := h1; rw [hu, denL_vals_inv hl]; rfl
  have e2 : a.eval y = opV q := by obtain ⟨us, hu, hl⟩ := h2; rw [hu, denL_vals_inv hl]; rfl
  simp [execOp, hop, e1, e2, op_guard, op_neq]
structure EqSt (l m : List BOp) where
  k : Nat
  hk : k ≤ l.length
  h : l.take k = m.take k
set_option maxRecDepth 100000 in
theorem equal_ops (A1 A2 : Option Addr) (c1 c2 : Nat) (l m : List BOp) (w : World) (h1 : OpsAt w w.heap.size A1 l) (h2 : OpsAt w w.heap.size A2 m) (hl : l.length ≤ 1000000) :
    Calls Try.prog 77 #[.slice A1 l.length c1, .slice A2 m.length c2] w fun e w' => e = .returned (.bool (l == m)) ∧ Below w.heap.size w w' := by
  by_cases hlm : l.length = m.length
  · by_cases h0 : l.length = 0
    · have e1 : l = [] := List.eq_nil_of_length_eq_zero h0
      have e2 : m = [] := List.eq_nil_of_length_eq_zero (by omega)
      subst e1; subst e2
      refine calls_val [.slice A1 0 c1, .slice A2 0 c2] Try.func77 Try.ntmps77 rfl (by simp) ?_
      conv => whnf
      (refine ⟨(fun h => absurd h (by decide)), fun _ => ?_⟩; (conv => whnf))
      refine ⟨Unit, fun x => [(12, one (.int .i64 0)), (13, one (.int .i64 0))], fun x => [], fun x => 0, ⟨(), ent_same rfl (aI rfl (aI rfl trivial)) trivial⟩, fun x => ?_⟩
      conv => whnf
      (refine ⟨(fun h => absurd h (by decide)), fun _ => ?_⟩; (conv => whnf))
      refine ⟨_, _, ent_refl, ?_⟩
      conv => whnf
      exact fin_val rfl fun w' hB => ⟨rfl, hB⟩
    · obtain ⟨b1, o1, rfl⟩ := ops_addr h1 (by omega)
      obtain ⟨b2, o2, rfl⟩ := ops_addr h2 (by omega)
      refine calls_val [.slice (some ⟨b1, o1, none⟩) l.length c1, .slice (some ⟨b2, o2, none⟩) m.length c2] Try.func77 Try.ntmps77 rfl (by simp) ?_
      conv => whnf
      refine ⟨fun hn => absurd hn (by simp [hlm]), fun _ => ?_⟩
      conv => whnf
      refine ⟨EqSt l m, fun x => [(0, one (.slice (some ⟨b1, o1, none⟩) l.length c1)), (1, one (.slice (some ⟨b2, o2, none⟩) m.length c2)), (12, one (.int .i64 l.length)), (13, one (.int .i64 x.k))], fun x => [], fun x => l.length - x.k, ⟨⟨0, by omega, rfl⟩, ent_same rfl (aI rfl (aI rfl (aI rfl (aI rfl trivial)))) trivial⟩, fun x => ?_⟩
      have hk := x.hk
      have hx := x.h
      conv => whnf
      refine ⟨fun hc => ?_, fun hc => ?_⟩
      · have hlt : x.k < l.length := by simpa using hc
        obtain ⟨p, hp⟩ : ∃ p, l[x.k]? = some p := ⟨_, List.getElem?_eq_getElem hlt⟩
        obtain ⟨q, hq⟩ : ∃ q, m[x.k]? = some q := ⟨_, List.getElem?_eq_getElem (by omega)⟩
        conv => whnf
        refine sat_quiet mixed (by kernel_rfl) ?_
        conv => whnf
        refine ⟨⟨by omega, by omega⟩, ?_⟩
        conv => whnf
        refine ⟨opC p, cells_op h1 (by simp) hp, rfl, ?_⟩
        conv => whnf
        refine ⟨⟨by omega, by omega⟩, ?_⟩
        conv => whnf
        refine ⟨opC q, cells_op h2 (by simp) hq, rfl, ?_⟩
        conv => whnf
        refine q_neq_op p q rfl rfl rfl ?_
        conv => whnf
        refine ⟨fun hn => ?_, fun hn => ?_⟩
        · conv => whnf
          refine ⟨_, _, ent_refl, ?_⟩
          conv => whnf
          refine fin_val rfl fun w' hB => ⟨?_, hB⟩
          have : (l == m) = false := by
            rw [Bool.eq_false_iff]
            intro e
            have e : l = m := by simpa using e
            subst e
            rw [hp] at hq; injection hq with hq; subst hq
            simp at hn
          rw [this]
        · conv => whnf
          refine ⟨(x.k : Int) + 1, wr64 (by omega), ?_⟩
          conv => whnf
          refine ⟨⟨x.k + 1, by omega, ?_⟩, ent_same rfl (aI rfl (aI rfl (aI rfl (aI (num_succ x.k) trivial)))) trivial, by dsimp only; omega⟩
          have : p = q := by simpa using hn
          rw [List.take_add_one, List.take_add_one, hx, hp, hq, this]
      · have hge : ¬ x.k < l.length := by simpa using hc
        conv => whnf
        refine ⟨_, _, ent_refl, ?_⟩
        conv => whnf
        refine fin_val rfl fun w' hB => ⟨?_, hB⟩
        have : l = m := by
          rw [List.take_of_length_le (by omega), List.take_of_length_le (by omega)] at hx
          exact hx
        subst this
        simp
  · refine calls_val [.slice A1 l.length c1, .slice A2 m.length c2] Try.func77 Try.ntmps77 rfl (by simp) ?_
    conv => whnf
    refine ⟨fun _ => ?_, fun hn => absurd hn (by simp; omega)⟩
    conv => whnf
    refine fin_val rfl fun w' hB => ⟨?_, hB⟩
    have : (l == m) = false := by
      rw [Bool.eq_false_iff]
      intro e
      have e : l = m := by simpa using e
      exact hlm (by rw [e])
    rw [this]
end Go.Proofs.Ytmjfgnnefcimiaa
namespace Go.Proofs.Ytmjfgnnefcimiaa
open Go.RowKit
def envOne (g : Nat) : Env := ⟨fun i => if i = 0 then some g else Option.none, fun _ => Option.none⟩
theorem envOne_blk {g i b : Nat} (h : (envOne g).blk i = some b) : i = 0 ∧ b = g := by
  simp only [envOne] at h
  split at h
  · rename_i hi; injection h with h; exact ⟨hi, h.symm⟩
  · cases h
theorem rel_own1 (w : World) {g : Nat} {t : TypeId} {us : List Value} (h : w.heap[g]? = some (.cells us.toArray t (0, 0))) : Rel w ⟨[g], []⟩ [.cells t (us.map .v)] (envOne g) w := by
  have hlt : g < w.heap.size := by
    rcases Nat.lt_or_ge g w.heap.size with h1 | h1
    · exact h1
    · rw [Array.getElem?_eq_none h1] at h; cases h
  refine ⟨rfl, rfl, rfl, Nat.le_refl _, fun k _ _ => rfl, fun i o ho => ?_, fun i j b hi hj => ?_, fun i b hb => ?_, fun i hi => ?_, fun i _ => rfl, fun i x hx => ?_⟩
  · cases i with
    | zero => simp at ho; subst ho; exact ⟨g, us, rfl, h, denL_vals us⟩
    | succ i => simp at ho
  · rw [(envOne_blk hi).1, (envOne_blk hj).1]
  · rw [(envOne_blk hb).2]; exact ⟨hlt, fun _ => .inl (by simp)⟩
  · show (if i = 0 then some g else Option.none) = Option.none
    have : ¬ i = 0 := by intro e; subst e; simp at hi
    rw [if_neg this]
  · cases i with
    | zero => simp at hx; subst hx; rfl
    | succ i => simp at hx
/-- A function whose first argument is the address of a block that it may turn. -/
theorem calls_own {P : Program} {fid : FuncId} {fn : Func} {c : Code} {N : Nat} {w : World} {g : Nat} {t : TypeId} {us : List Value} (xs : List Value) (hf : P.funcs[fid]? = some fn) (hN : fn.ntmps = N) (hb : fn.body = some c) (hle : xs.length + 1 ≤ N) (hg : w.heap[g]? = some (.cells us.toArray t (0, 0))) {R : Ending → World → Prop}
    (h : vc none P w ⟨[g], []⟩ ⟨N, []⟩ c (argFr (.p (.c (.ref 0 0)) :: xs.map fun x => AV.of x) 0) [.cells t (us.map .v)] (RetK P w ⟨[g], []⟩ fn.results.toList R)) : Calls P fid (.pointer (some ⟨g, 0, none⟩) :: xs).toArray w R :=
  calls_vc hf hN hb (rel_own1 w hg) (avs := .p (.c (.ref 0 0)) :: xs.map fun x => AV.of x) (args := .pointer (some ⟨g, 0, none⟩) :: xs) ⟨_, _, rfl, den_mk_ref (by simp [envOne]), avdenL_of xs⟩ (by simpa using hle) h
theorem Rel.grown {w0 : World} {g : Nat} {S : List Ow} {r : Env} {w : World} (h : Rel w0 ⟨[g], []⟩ S r w) : w0.grownBy w (some g) :=
  ⟨h.os, h.tape, h.output, h.size, fun k hk hn => h.old k hk (by
    rintro (h1 | h1)
    · simp at h1; exact hn (by rw [h1])
    · cases h1)⟩
/-- The end of such a function. -/
theorem fin_own {w0 : World} {g : Nat} {S : List Ow} {t : TypeId} {us : List Value} {v : AV} {x : Value} {R : Ending → World → Prop} (hv : v.val = some x) (h0 : S[0]? = some (.cells t (us.map .v))) (h : ∀ w, w.heap[g]? = some (.cells us.toArray t (0, 0)) → w0.grownBy w (some g) → R (.returned x) w) : Fin w0 ⟨[g], []⟩ S v R := by
  refine ⟨fun r w u hR hd => ?_⟩
  obtain rfl := AV.val_den hv hd
  obtain ⟨b, us', e1, e2, e3⟩ := hR.own 0 _ h0
  have := hR.first 0 g rfl
  rw [this] at e1; injection e1 with e1; subst e1
  obtain rfl := denL_vals_inv e3
  exact h w e2 hR.grown
/-- What the caller knows of old slices, seen by the callee. -/
def OldKeep (w0 : World) (G : Gs) (w : World) (g : Nat) : Prop := ∀ A ys, SlOld w0 G A ys → SlOld w ⟨[g], []⟩ A ys
theorem Rel.oldKeep {w0 : World} {G : Gs} {S : List Ow} {r : Env} {w : World} (hR : Rel w0 G S r w) {i g : Nat} (hg : r.blk i = some g) : OldKeep w0 G w g := by
  intro A ys h j u hj
  obtain ⟨b, off, e1, e2, e3, e4⟩ := h j u hj
  have hne : b ≠ g := by
    intro e; subst e
    exact e3 ((hR.new i b hg).2 e2)
  refine ⟨b, off, e1, Nat.lt_of_lt_of_le e2 hR.size, ?_, by rw [hR.oldCell e2 e3]; exact e4⟩
  rintro (h1 | h1)
  · simp at h1; exact hne h1
  · cases h1
theorem call_own {P : Program} {w0 : World} {G : Gs} {fid : FuncId} {S : List Ow} {K : AV → List Ow → Prop} {t : TypeId} {us : List Value} {args : List AV} {xs : List Value} (post : Value → List Value → Prop) (i : Nat) (hi : S[i]? = some (.cells t (us.map .v))) (hx : avals args = some xs) (hok : fnOk P fid = true)
    (h : ∀ w g, OldKeep w0 G w g → w.heap[g]? = some (.cells us.toArray t (0, 0)) → Calls P fid (.pointer (some ⟨g, 0, none⟩) :: xs).toArray w fun e w' => ∃ x us', post x us' ∧ e = .returned x ∧ w'.heap[g]? = some (.cells us'.toArray t (0, 0)) ∧ w.grownBy w' (some g))
    (hK : ∀ x us', post x us' → K (AV.of x) (S.set i (.cells t (us'.map .v)))) : CallS P w0 G fid (.p (.c (.ref i 0)) :: args) S K := by
  refine ⟨hok, fun r w vs hR hd => ?_⟩
  obtain ⟨u1, l1, rfl, d1, d2⟩ := hd
  obtain rfl := avals_den hx d2
  obtain ⟨g, hb, rfl⟩ := den_ref d1
  obtain ⟨b', us1, e1, e2, e3⟩ := hR.own i _ hi
  rw [hb] at e1; injection e1 with e1; subst e1
  obtain rfl := denL_vals_inv e3
  refine (h w g (hR.oldKeep hb) e2).mono fun e w' ⟨x, us', hp, he, hg, hgr⟩ => ?_
  exact ⟨AV.of x, x, _, r, he, AV.of_den r x, hR.setBlock (o := .cells t (us'.map .v)) hb hgr ⟨g, us', hb, hg, denL_vals us'⟩ (hR.lt_of_blk hb), Env.le.refl r, hK x us' hp⟩
end Go.Proofs.Ytmjfgnnefcimiaa
namespace Go.Proofs.Ytmjfgnnefcimiaa
open Go.ChangeShapes Go.WideShapes Go.ChangeAt Go.RowKit

theorem ownK : ownKnob Try.prog.godebug = none := by kernel_rfl
theorem laidOutP : laidOutB Try.prog = true := by kernel_rfl
theorem cells_lt {w : World} {b o : Nat} {u : Value} (h : w.cell? ⟨b, o, none⟩ = some u) : b < w.heap.size := by
  rcases Nat.lt_or_ge b w.heap.size with h1 | h1
  · exact h1
  · simp [World.cell?, Array.getElem?_eq_none h1] at h
/-- A slice of integers that came in. -/
theorem open_sl {H : Type} {enc : TypeId × Value → H} {W : World} {a : Option Addr} {len cap : Nat} {d : DataW H} {p : List MemPlace} (h : DataW.Trod enc Try.prog W 0 (fun _ => true) true 22 (.slice a len cap) d p) :
    ∃ xs : List Int, SlAt W W.heap.size a (xs.map (.int .i64)) ∧ xs.length = len ∧ len ≤ cap := by
  obtain ⟨fuel, hf⟩ := h
  rcases open_ints Try.underlying22 Try.underlying3 (by kernel_rfl) hf with ⟨hcs, _⟩ | ⟨x, l, c, zs, hcs, _, hl, hm, hz, _, hcell, hwz⟩
  · simp [Value.cells] at hcs
    obtain ⟨rfl, rfl, rfl⟩ := hcs
    exact ⟨[], SlAt.nil, rfl, Nat.le_refl _⟩
  · simp [Value.cells] at hcs
    obtain ⟨rfl, rfl, rfl⟩ := hcs
    have hz : zs.length = cap := by simpa using hz
    refine ⟨zs.take len, fun j u hj => ?_, by rw [List.length_take]; omega, hl⟩
    rw [List.getElem?_map, List.getElem?_take] at hj
    split at hj
    · rename_i hjl
      have hjz : j < zs.length := by omega
      have hc := hcell j hjz
      obtain ⟨b, off, spot⟩ := x
      have hsp : spot = none := by
        have h0 := hcell 0 (by omega)
        simpa [Addr.add] using World.cell?_spot h0
      subst hsp
      rw [addr_add] at hc
      rw [List.getElem?_eq_getElem hjz] at hj
      have hg : zs.getD j 0 = zs[j] := by rw [List.getD_eq_getElem?_getD, List.getElem?_eq_getElem hjz]; rfl
      rw [hg] at hc
      injection hj with hj; subst hj
      exact ⟨b, off, rfl, cells_lt hc, hc⟩
    · cases hj
set_option maxRecDepth 100000 in
/-- An array of three integers. -/
theorem open_q {H : Type} {enc : TypeId × Value → H} {W : World} {r : Reach} {b0 : Nat} {v : Value} {d : DataW H} {p : List MemPlace} (hv : Value.okWide Try.prog W r b0 23 v) (h : DataW.Trod enc Try.prog W 0 (fun _ => true) true 23 v d p) :
    ∃ x y z : Int, v = .agg #[.int .i64 x, .int .i64 y, .int .i64 z] := by
  simp only [Value.okWide, Try.underlying23] at hv
  obtain ⟨cs, rfl, hsz, _⟩ := hv
  have hc3 : Try.prog.cellsOf 23 = 3 := by kernel_rfl
  have hc1 : Try.prog.cellsOf 3 = 1 := by kernel_rfl
  rw [hc3] at hsz
  obtain ⟨c0, c1, c2, rfl⟩ := Go.Joins.array3 hsz
  obtain ⟨fuel, hf⟩ := h
  obtain ⟨xs, m, _, _, _, hlen, hel⟩ := DataW.trod_array Try.underlying23 hf
  have get : ∀ i, i < 3 → ∃ y, DataW.trod enc Try.prog W 0 (fun _ => true) true m 3 (([c0, c1, c2].drop (i * 1)).take 1) = some y := fun i hi => by
    have := hel i hi
    rw [hc1] at this
    exact ⟨xs[i], by rw [List.getElem?_eq_getElem (by omega)] at this; exact this⟩
  obtain ⟨y0, h0⟩ := get 0 (by omega)
  obtain ⟨y1, h1⟩ := get 1 (by omega)
  obtain ⟨y2, h2⟩ := get 2 (by omega)
  obtain ⟨n0, e0, _⟩ := DataW.trod_int Try.underlying3 h0
  obtain ⟨n1, e1, _⟩ := DataW.trod_int Try.underlying3 h1
  obtain ⟨n2, e2, _⟩ := DataW.trod_int Try.underlying3 h2
  simp at e0 e1 e2
  subst e0; subst e1; subst e2
  exact ⟨n0, n1, n2, rfl⟩
end Go.Proofs.Ytmjfgnnefcimiaa
namespace Go.Proofs.Ytmjfgnnefcimiaa
open Go.RowKit

/-- The search for the last writing operation, under way. -/
structure CpAtSt (l : List BOp) (i : Nat) (v : Int) where
  m : Nat
  mq : Bool
  hm : m ≤ i
  h : copyR (l.take i).reverse v = copyF mq (l.take m).reverse ((l.take i).drop m) v
end Go.Proofs.Ytmjfgnnefcimiaa
namespace Go.Proofs.Ytmjfgnnefcimiaa
open Go.RowKit

def envOf (gs : List Nat) : Env := ⟨fun i => gs[i]?, fun _ => Option.none⟩
/-- The blocks gs hold these entries. -/
structure ObjsAt (w : World) (gs : List Nat) (U : List Ow) : Prop where
  len : U.length = gs.length
  nodup : ∀ (i j b : Nat), gs[i]? = some b → gs[j]? = some b → i = j
  lt : ∀ g ∈ gs, g < w.heap.size
  own : ∀ (i : Nat) (o : Ow), U[i]? = some o → o.holds (envOf gs) w i
/-- Nothing but these blocks, and new ones, has turned. -/
structure GrownBys (w w' : World) (gs : List Nat) : Prop where
  os : w'.os = w.os
  tape : w'.tape = w.tape
  output : w'.output = w.output
  size : w.heap.size ≤ w'.heap.size
  block : ∀ k, k < w.heap.size → k ∉ gs → w'.heap[k]? = w.heap[k]?
/-- A cell that is known by the blocks of the first n entries. -/
def CV.ob (n : Nat) : CV → Bool
  | .v _ => true
  | .ref i _ => Nat.blt i n
  | .sl i _ _ _ => Nat.blt i n
  | _ => false
def CV.sh (k : Nat) : CV → CV
  | .ref i o => .ref (k + i) o
  | .sl i o n c => .sl (k + i) o n c
  | c => c
/-- The same entries, k places further. -/
def Ow.Sh (k : Nat) : Ow → Ow → Prop
  | .cells t l, .cells t' l' => t = t' ∧ l' = l.map (CV.sh k)
  | _, _ => False
def ShAll (k : Nat) : List Ow → List Ow → Prop
  | [], [] => True
  | o :: U, o' :: V => o.Sh k o' ∧ ShAll k U V
  | _, _ => False
theorem ShAll.length {k : Nat} : ∀ {U V : List Ow}, ShAll k U V → U.length = V.length
  | [], [], _ => rfl
  | _ :: _, _ :: _, h => by simp [h.2.length]
  | [], _ :: _, h => h.elim
  | _ :: _, [], h => h.elim
theorem ShAll.get {k : Nat} : ∀ {U V : List Ow} (i : Nat), ShAll k U V → ∀ {o}, U[i]? = some o → ∃ o', V[i]? = some o' ∧ o.Sh k o'
  | [], [], i, _, o, h => by simp at h
  | a :: U, b :: V, 0, hs, o, h => by simp at h; subst h; exact ⟨b, rfl, hs.1⟩
  | a :: U, b :: V, i + 1, hs, o, h => by simpa using ShAll.get i hs.2 (by simpa using h)
  | [], _ :: _, _, h, _, _ => h.elim
  | _ :: _, [], _, h, _, _ => h.elim
section
variable {P : Program} {w0 : World} {G : Gs} {N : Nat} {c : Code} {fn : Func} {R : Ending → World → Prop}
end
/-- What the caller knows of old memory, seen by the callee. -/
def OldKeeps (w0 : World) (G : Gs) (w : World) (gs : List Nat) : Prop := ∀ b, b < w0.heap.size → b ∉ G → b < w.heap.size ∧ b ∉ gs ∧ w.heap[b]? = w0.heap[b]?
theorem OldKeeps.cells {w0 : World} {G : Gs} {w : World} {gs : List Nat} (h : OldKeeps w0 G w gs) {b off : Nat} {xs : List Value} (hc : CellsAt w0 G b off xs) : CellsAt w ⟨gs, []⟩ b off xs := by
  obtain ⟨h1, h2, h3⟩ := hc
  obtain ⟨k1, k2, k3⟩ := h b h1 h2
  refine ⟨k1, ?_, fun j u hj => ?_⟩
  · rintro (h4 | h4)
    · exact k2 h4
    · cases h4
  · have := h3 j u hj
    unfold World.cell? at this ⊢
    rw [k3]; exact this
end Go.Proofs.Ytmjfgnnefcimiaa
namespace Go.Proofs.Ytmjfgnnefcimiaa
open Go.RowKit

theorem ownFrom_false {β : Type} {B : Nat} : OwnFrom B (fun (_ : β) (_ : World) => False) := fun _ _ _ _ h _ _ => h.elim
theorem eval_clo {r : Env} {f : Fr} {a : Act} {g : Operand} {fn : Fn} {i : Nat} (hf : FDen r f a) (h : f.ev g = .p (.c (.clo fn [.ref i 0]))) : ∃ b, r.blk i = some b ∧ a.eval g = .func fn #[] #[.pointer (some ⟨b, 0, none⟩)] := by
  have hd := hf.ev g
  rw [h] at hd
  simp only [AV.den, Pc.den, CV.den, denL] at hd
  obtain ⟨us, hu, u, l, rfl, ⟨b, hb, rfl⟩, rfl⟩ := hd
  exact ⟨b, hb, hu⟩
set_option maxRecDepth 100000 in
set_option maxHeartbeats 1000000 in
theorem satq_back {w0 : World} {N m : Nat} {f f0 fa : Fr} {V A T : List Ow} {tS : TypeId} {bb off c : Nat} {l : List BOp} {g : Operand} {p1 p2 : Tmp} {assign body : Code} {Q : Exit → Act → World → Prop}
    (hops : OpsAt w0 w0.heap.size (some ⟨bb, off, none⟩) l) (hbb : bb < w0.heap.size) (hlen : l.length ≤ 1000000)
    (hg : f.ev g = .p (.c (.clo (.func 75) [.ref V.length 0])))
    (hp : dstOk N (some p1) = true ∧ dstOk N (some p2) = true)
    (hf0 : FLe f f0) (hb0 : f0.bnd V.length = true) (hs0 : sbnd V.length V = true)
    (U : List (Elt l) → List Ow) (hUA : U [] = A ++ T) (hAm : A.length = m) (hA : cellsS A = true) (hUl : ∀ pre, (U pre).length = m + 1) (hUf : ∀ pre, flatS (U pre) = true) (hUs : ∀ pre, sbnd (m + 1) (U pre) = true)
    (hU0 : EntB f0 V fa (U [])) (hfa : fa.fx (fun i => Nat.blt i m) = true)
    (gi : Nat) (hgi : gi < m) (hrow : ∀ pre, ∃ t e sz n xs, (U pre)[gi]? = some (.cells t [.row m]) ∧ (U pre)[m]? = some (.row e sz n xs))
    (fb : Elt l → Fr) (hfb : ∀ x, (fb x).fx (fun i => Nat.blt i m || Nat.beq i (m + 1)) = true)
    (hassign : ∀ W gs ext lp pre x, gs.length = m → vc (some lp) Try.prog W ⟨gs, ext⟩ ⟨N, []⟩ assign ((p2, AV.of (opV x.1.2)) :: (p1, one (.int .i64 (x.1.1 : Int))) :: fa) (U pre) fun e f S => e = .normal ∧ Ent W ⟨gs, ext⟩ ⟨N, []⟩ f S (fb x) (U pre ++ [.cells 53 ((opC x.1.2).map .v)]))
    (hbody : ∀ W gs ext lp pre x, gs.length = m → pre.length < l.length → vc (some lp) Try.prog W ⟨gs, ext⟩ ⟨N, []⟩ body (fb x) (U pre ++ [.cells 53 ((opC x.1.2).map .v)]) fun e f S => e = .normal ∧ Ent W ⟨gs, ext⟩ ⟨N, []⟩ f S [] (U (pre ++ [x])))
    (hQ : ∀ D xs, AllDown xs → AtQ w0 Gs.nil ⟨N, [{ target := .collected D, args := #[] }]⟩ .normal fa (U xs ++ [objOw D (.deferred (some []))]) Q) :
    SatQ Try.prog w0 Gs.nil ⟨N, []⟩ (.rangeFunc g #[p1, p2] assign body) f (V ++ [.cells tS [.v (.slice (some ⟨bb, off, none⟩) l.length c)]]) Q := by
  refine ⟨fun a w ⟨r, hR, hf, hN, hd⟩ => ?_⟩
  obtain ⟨cb, hcb, hev⟩ := eval_clo hf hg
  have hcap := hR.own V.length (.cells tS [.v (.slice (some ⟨bb, off, none⟩) l.length c)]) (by simp)
  obtain ⟨cb', us, h1, hcw, h3⟩ := hcap
  rw [hcb] at h1; injection h1 with h1; subst h1
  obtain rfl := denL_vals_inv (us := [.slice (some ⟨bb, off, none⟩) l.length c]) h3
  have hRV : Rel w0 Gs.nil V (r.upto V.length) w := hR.upto rfl (by simp) (by simp [Gs.nil]) fun i o hi => by
    have hil : i < V.length := by
      rcases Nat.lt_or_ge i V.length with h1 | h1
      · exact h1
      · rw [List.getElem?_eq_none h1] at hi; cases hi
    exact Ow.holds_agree (hR.own i o (by rw [List.getElem?_append_left hil]; exact hi)) (Env.upto_agree _ _) (sbnd_get hs0 hi) hil (Env.upto_blk _ _)
  obtain ⟨ra, hRa, hfra, hblk⟩ := hU0.out w0 w _ a hRV ((hf0.den hf).agree (Env.upto_agree _ _) hb0)
  have hcbn : ∀ i, ra.blk i ≠ some cb := fun i hi => by
    obtain ⟨j, hj⟩ := hblk i cb hi
    have hj2 := Env.upto_blk _ _ _ _ hj
    have := hR.inj j V.length cb hj2 hcb
    simp only [Env.upto] at hj
    rw [if_neg (by omega)] at hj; cases hj
  have hra0 : ∀ i b, ra.blk i = some b → w0.heap.size ≤ b := fun i b hb => by
    rcases Nat.lt_or_ge b w0.heap.size with h | h
    · exact absurd ((hRa.new i b hb).2 h) (by simp)
    · exact h
  obtain ⟨gs, hgl, hgs⟩ := list_of (n := m) (p := ra.blk) fun i hi => cells_blk (T := T) (by rw [← hUA]; exact hRa) hA (by omega)
  obtain ⟨ex, hex1, hex2⟩ := blocks_of ra (m + 1)
  have hRw : Rel w ⟨gs, ex⟩ (U []) ra w := rel_base hRa (fun i g h => ((hgs i g).1 h).2) fun i b hb => .inr (hex1 i b (by have := hRa.lenB hb; rw [hUl] at this; exact this) hb)
  have hown0 : ∀ b, b ∈ gs ∨ b ∈ ex → ∃ i, ra.blk i = some b := fun b hb => by
    rcases hb with hb | hb
    · obtain ⟨i, hi⟩ := List.getElem?_of_mem hb; exact ⟨i, ((hgs i b).1 hi).2⟩
    · exact hex2 b hb
  -- what is own within the loop is none of the iterator's blocks
  have hfar : ∀ {S : List Ow} {r' : Env} {W : World}, Rel w ⟨gs, ex⟩ S r' W → ∀ i b, r'.blk i = some b → b ≠ cb ∧ b ≠ bb := fun {S r' W} h i b hb => by
    rcases Nat.lt_or_ge b w.heap.size with hlt | hge
    · obtain ⟨j, hj⟩ := hown0 b ((h.new i b hb).2 hlt)
      exact ⟨fun e => hcbn j (e ▸ hj), fun e => by have := hra0 j b hj; omega⟩
    · have h1 := (hR.new _ _ hcb).1
      have h2 := hR.size
      exact ⟨by omega, by omega⟩
  have hfx0 : FDen (fixE gs (m + 1) 0) fa a := hfra.fx (ok := fun i => Nat.blt i m) (fun i b hi hb => by
    have hi : i < m := by simpa [Nat.blt_eq] using hi
    simp only [fixE]; rw [if_neg (by omega)]; exact (hgs i b).2 ⟨hi, hb⟩) hfa
  have hfixle : ∀ {S : List Ow} {r' : Env} {W0 W : World} {ext : List Nat}, Rel W0 ⟨gs, ext⟩ S r' W → FDen r' fa a := fun {S r' W0 W ext} h => hfx0.fx (ok := fun i => Nat.blt i m) (fun i b hi hb => by
    have hi : i < m := by simpa [Nat.blt_eq] using hi
    simp only [fixE] at hb; rw [if_neg (by omega)] at hb; exact h.first i b hb) hfa
  obtain ⟨gc, hgc⟩ : ∃ gc, gs[gi]? = some gc := ⟨_, List.getElem?_eq_getElem (by omega)⟩
  have hgcw : gc < w.heap.size := (hRa.new gi gc ((hgs gi gc).1 hgc).2).1
  -- the row's block stands in its cell
  have hal : ∀ {W0 : World} {ext : List Nat} {pre : List (Elt l)} {S2 : List Ow} {r' : Env} {W : World}, Rel W0 ⟨gs, ext⟩ (U pre ++ S2) r' W → ∃ u t, W.heap[gc]? = some (.cells #[u] t (0, 0)) ∧ u.ownBlock = r'.blk m := fun {W0 ext pre S2 r' W} h => by
    obtain ⟨t, e, sz, n, xs, h1, h2⟩ := hrow pre
    have hl := hUl pre
    obtain ⟨b, us, k1, k2, k3⟩ := h.own gi _ (by rw [List.getElem?_append_left (by omega)]; exact h1)
    obtain ⟨v, j1, j2, _⟩ := h.own m _ (by rw [List.getElem?_append_left (by omega)]; exact h2)
    have hb := h.first gi gc hgc
    rw [k1] at hb; injection hb with hb; subst hb
    simp only [denL] at k3
    obtain ⟨u, l', rfl, k4, rfl⟩ := k3
    simp only [CV.den] at k4
    rw [j1] at k4; injection k4 with k4; subst k4
    exact ⟨_, t, k2, j2⟩
  let I : List (Elt l) → World → Prop := fun pre W => ∃ r', Rel w ⟨gs, ex⟩ (U pre) r' W
  let Ax : Elt l → Act → World → Prop := fun x a' W => ∃ bx, (bx ∉ gs ∧ (bx < w.heap.size → bx ∈ (⟨gs, ex⟩ : Gs))) ∧ W.heap[bx]? = some (.cells (opC x.1.2).toArray 53 (0, 0)) ∧ (∃ u t, W.heap[gc]? = some (.cells #[u] t (0, 0)) ∧ u.ownBlock ≠ some bx) ∧ FDen (fixE gs (m + 1) bx) (fb x) a' ∧ a'.tmps.size = N ∧ a'.defers = []
  have hopsw : OpsAt w w.heap.size (some ⟨bb, off, none⟩) l := (hops.below hR.toBelow (Nat.le_refl _)).more hR.size
  have hKeep : ∀ {W W' : World} {S S' : List Ow} {r1 r2 : Env} {ext : List Nat}, Rel w ⟨gs, ex⟩ S r1 W → flatS S = true → (∀ b, b ∈ gs ∨ b ∈ ext → ∃ i, r1.blk i = some b) → Rel W ⟨gs, ext⟩ S' r2 W' → KeepsFrom w.heap.size W W' ∧ KpTwo cb bb W W' := fun {W W' S S' r1 r2 ext} h1 hfl hx h2 => by
    have hkeep : ∀ k, k < W.heap.size → (∀ i, r1.blk i ≠ some k) → W'.heap[k]? = W.heap[k]? := fun k hk hn => h2.old k hk fun hm => by
      obtain ⟨i, hi⟩ := hx k hm; exact hn i hi
    refine ⟨⟨h2.size, fun k o _ hk ho => (hkeep k (Array.getElem?_eq_some_iff.1 hk).1 fun i hi => ?_).trans hk⟩, hkeep cb (Nat.lt_of_lt_of_le (hR.new _ _ hcb).1 h1.size) fun i hi => (hfar h1 i cb hi).1 rfl, hkeep bb (Nat.lt_of_lt_of_le hbb (Nat.le_trans hR.size h1.size)) fun i hi => (hfar h1 i bb hi).2 rfl⟩
    obtain ⟨cs, t, fr, hh⟩ := rel_cells h1 hfl hi
    rw [hk] at hh; injection hh with hh; subst hh; cases ho
  refine wpIn_rangeFunc_ownH (F := Fence.wide) (n := 10) (α := Elt l) (gf := 75) (lb := #[.pointer (some ⟨cb, 0, none⟩)]) (encs := eltEnc) (Kp := KpTwo cb bb) (S := AllDown) (Sp := fun _ => True) (N := l.length) (w0 := w) (I := I) (Ix := fun _ _ _ => False) (Ax := Ax)
    rfl (by omega) hev trivial (fun args w' => MuLone.run_callFunc_enter (by rfl) (by kernel_rfl) (by rfl) args w') (backward_stops l bb off c cb tS w hopsw hlen hcw (Nat.lt_of_lt_of_le hbb hR.size) 9)
    (fun h1 h2 => ⟨h2.1.trans h1.1, h2.2.trans h1.2⟩) (fun W lp o o' hlp _ _ _ => ⟨World.putObj_heap_other (by have := (hR.new _ _ hcb).1; omega), World.putObj_heap_other (by have := hR.size; omega)⟩)
    (Below.refl _ _) (fun x => rfl) ?_ (fun _ => ownFrom_false) ⟨ra, hRw⟩ ?_ ?_ ?_ ?_ (fun _ _ _ _ _ _ h => h.elim)
  · rintro pre W W' row ⟨r', h⟩ hg' hr
    exact ⟨r', rel_grow h (hUf pre) hg' hr⟩
  · rintro x a' - W W' row ⟨bx, h1, h2, ⟨u, t, h3, h4⟩, h5⟩ hg' hr
    have hk : ∀ {k : Nat} {cs t fr}, W.heap[k]? = some (.cells cs t fr) → W'.heap[k]? = some (.cells cs t fr) := fun {k cs t fr} hk => (hg'.block k (Array.getElem?_eq_some_iff.1 hk).1 fun e => by
      obtain ⟨_, o, ho, hc⟩ := hr k e.symm
      rw [hk] at ho; injection ho with ho; subst ho; cases hc).trans hk
    exact ⟨bx, h1, hk h2, ⟨u, t, hk h3, h4⟩, h5⟩
  · rintro lp pre x W K ⟨r1, h1⟩ hK
    obtain ⟨ext, he1, he2⟩ := blocks_of r1 (m + 1)
    have hW := rel_base h1 (gs := gs) (ext := ext) h1.first fun i b hb => .inr (he1 i b (by have := h1.lenB hb; rw [hUl] at this; exact this) hb)
    have hx : ∀ b, b ∈ gs ∨ b ∈ ext → ∃ i, r1.blk i = some b := fun b hb => by
      rcases hb with hb | hb
      · obtain ⟨i, hi⟩ := List.getElem?_of_mem hb; exact ⟨i, h1.first i b hi⟩
      · exact he2 b hb
    have hgood : Good W ⟨gs, ext⟩ ⟨N, []⟩ ((p2, AV.of (opV x.1.2)) :: (p1, one (.int .i64 (x.1.1 : Int))) :: fa) (U pre) { tmps := ((#[p1, p2] : Array Tmp).zip (eltEnc x)).foldl (fun t (p, v) => t.setIfInBounds p v) a.tmps, defers := [] } W := by
      have e : ({ tmps := ((#[p1, p2] : Array Tmp).zip (eltEnc x)).foldl (fun t (p, v) => t.setIfInBounds p v) a.tmps, defers := [] } : Act) = (a.put (some p1) (.int .i64 (x.1.1 : Int))).put (some p2) (opV x.1.2) := by
        simp [eltEnc, Act.put, hd]
      rw [e]
      have f1 : FDen r1 ((p1, one (.int .i64 (x.1.1 : Int))) :: fa) (a.put (some p1) (.int .i64 (x.1.1 : Int))) := (hfixle h1).put (dst := some p1) (den_one _ _) (by rw [hN]; exact hp.1)
      exact ⟨r1, hW, f1.put (dst := some p2) (AV.of_den _ _) (by rw [put_size, hN]; exact hp.2), by rw [put_size, put_size]; exact hN, by rw [put_defers, put_defers]; exact hd⟩
    refine wpIn_mono ((vc_sound (ro := some lp) assign _ _ _ (hassign W gs ext lp pre x hgl)).out _ _ _ hgood) ?_
    rintro e a' W' ⟨f', S', ⟨rfl, hent⟩, hg'⟩
    obtain ⟨r2, h2, hf2, hN2, hd2⟩ := hent.out a' W' hg'
    have hW2 : Rel w ⟨gs, ex⟩ (U pre ++ [.cells 53 ((opC x.1.2).map .v)]) r2 W' := rel_back h1 h2 hx fun i g h => h
    have hl := hUl pre
    obtain ⟨bx, us2, k1, k2, k3⟩ := hW2.own (m + 1) (.cells 53 ((opC x.1.2).map .v)) (by rw [← hl]; simp)
    have k3 := denL_vals_inv k3
    subst k3
    obtain ⟨u, t, ku, kb⟩ := hal hW2
    have hbxn : ∀ i, r2.blk i = some bx → i = m + 1 := fun i hi => hW2.inj i (m + 1) bx hi k1
    have hbg : bx ∉ gs := fun hm => by
      obtain ⟨i, hi⟩ := List.getElem?_of_mem hm
      have := hbxn i (hW2.first i bx hi)
      have := (hgs i bx).1 hi
      omega
    refine hK a' W' (hKeep h1 (hUf pre) hx h2).1 (hKeep h1 (hUf pre) hx h2).2 ?_ ⟨bx, ⟨hbg, (hW2.new _ _ k1).2⟩, k2, ⟨u, t, ku, fun e => ?_⟩, ?_, hN2, hd2⟩
    · refine ⟨r2.upto (m + 1), hW2.upto hl (by simp [hl]) (by show gs.length ≤ _; omega) fun i o hi => ?_⟩
      have hil : i < m + 1 := by
        rcases Nat.lt_or_ge i (U pre).length with h1 | h1
        · omega
        · rw [List.getElem?_eq_none h1] at hi; cases hi
      exact Ow.holds_agree (hW2.own i o (by rw [List.getElem?_append_left (by omega)]; exact hi)) (Env.upto_agree _ _) (sbnd_get (hUs pre) hi) hil (Env.upto_blk _ _)
    · rw [kb] at e
      have := hbxn m e
      omega
    · refine hf2.fx (ok := fun i => Nat.blt i m || Nat.beq i (m + 1)) (fun i b hi hb => ?_) (hfb x)
      simp only [fixE]
      split
      · rename_i he; subst he; rw [k1] at hb; exact hb
      · rename_i he
        have hi : i < m := by
          have := hW2.lenB hb
          rcases Bool.or_eq_true _ _ ▸ hi with hi | hi
          · simpa [Nat.blt_eq] using hi
          · exact absurd (Nat.eq_of_beq_eq_true hi) he
        obtain ⟨g', hg'⟩ : ∃ g', gs[i]? = some g' := ⟨_, List.getElem?_eq_getElem (by omega)⟩
        rw [hW2.first i g' hg'] at hb
        rw [hg', hb]
  · rintro lp pre x a' W - - ⟨r1, h1⟩ ⟨bx, ⟨hbg, hbw⟩, hbh, ⟨u, t, hu, hub⟩, hfa', hN', hd'⟩ hpl
    have hl := hUl pre
    have hbn : ∀ i, r1.blk i ≠ some bx := fun i hi => by
      have hil := h1.lenB hi
      rcases Nat.lt_or_ge i m with him | him
      · obtain ⟨g', hg'⟩ : ∃ g', gs[i]? = some g' := ⟨_, List.getElem?_eq_getElem (by omega)⟩
        have := h1.first i g' hg'
        rw [this] at hi; injection hi with hi; subst hi
        exact hbg (List.mem_of_getElem? hg')
      · obtain rfl : i = m := by omega
        obtain ⟨u2, t2, hu2, hb2⟩ := hal (S2 := []) (pre := pre) (by rw [List.append_nil]; exact h1)
        rw [hu] at hu2; injection hu2 with hu2; injection hu2 with hu2; injection hu2 with hu2; injection hu2 with hu2
        subst hu2
        exact hub (hb2.trans hi)
    have h3 := rel_add h1 (o := .cells 53 ((opC x.1.2).map .v)) (b := bx) (Array.getElem?_eq_some_iff.1 hbh).1 hbw hbn (hUf pre) ⟨bx, opC x.1.2, by simp [Env.set], hbh, denL_vals _⟩
    generalize hr3 : r1.set (U pre).length (some bx) none = r3 at h3
    obtain ⟨ext, he1, he2⟩ := blocks_of r3 (m + 2)
    have hx : ∀ b, b ∈ gs ∨ b ∈ ext → ∃ i, r3.blk i = some b := fun b hb => by
      rcases hb with hb | hb
      · obtain ⟨i, hi⟩ := List.getElem?_of_mem hb; exact ⟨i, h3.first i b hi⟩
      · exact he2 b hb
    have hW := rel_base h3 (gs := gs) (ext := ext) h3.first fun i b hb => .inr (he1 i b (by have := h3.lenB hb; simp [hUl] at this; omega) hb)
    have hgood : Good W ⟨gs, ext⟩ ⟨N, []⟩ (fb x) (U pre ++ [.cells 53 ((opC x.1.2).map .v)]) a' W := by
      refine ⟨r3, hW, hfa'.mono ⟨fun i b hb => ?_, fun i v hv => by cases hv⟩, hN', hd'⟩
      simp only [fixE] at hb
      split at hb
      · rename_i he; subst hr3; simp only [Env.set]; rw [if_pos (by omega)]; exact hb
      · exact h3.first i b hb
    refine wpIn_mono ((vc_sound (ro := some lp) body _ _ _ (hbody W gs ext lp pre x hgl hpl)).out _ _ _ hgood) ?_
    rintro e a2 W' ⟨f', S', ⟨rfl, hent⟩, hg'⟩
    obtain ⟨r2, h2, _, _, _⟩ := hent.out a2 W' hg'
    have hfl : flatS (U pre ++ [.cells 53 ((opC x.1.2).map .v)]) = true := by
      have := hUf pre
      unfold flatS at this ⊢
      rw [List.all_append, this]; rfl
    exact ⟨(hKeep h3 hfl hx h2).1, (hKeep h3 hfl hx h2).2, r2, rel_back h3 h2 hx fun i g h => h⟩
  · rintro D xs W hD hS ⟨r1, h1⟩ hDW
    have h2 := rel_home hRa h1 hown0
    have h3 := rel_add h2 (o := objOw D (.deferred (some []))) (b := D) (Array.getElem?_eq_some_iff.1 hDW).1 (fun h => by have := hR.size; omega) (fun i hi => by
      obtain ⟨cs, t, fr, hh⟩ := rel_cells h2 (hUf xs) hi
      rw [hDW] at hh; injection hh with hh; cases hh) (hUf xs) ⟨D, by simp [Env.set], ⟨rfl, hDW⟩, fun w' h => ⟨rfl, h.trans hDW⟩⟩
    refine (hQ D xs hS).out _ W ⟨_, h3, (hfixle h1).mono (h2.le_new (some D) none), hN, ?_⟩
    show _ :: a.defers = _
    rw [hd]
end Go.Proofs.Ytmjfgnnefcimiaa
namespace Go.Proofs.Ytmjfgnnefcimiaa
open Go.RowKit

theorem ent_view {w0 : World} {N : Nd} {f f' : Fr} {S : List Ow} (i k : Nat) {t : TypeId} {l : List CV} {A : Option Addr} {n c : Nat} {xs : List Value} {φ : Option Addr → Prop} (hi : S[i]? = some (.cells t l)) (hk : l[k]? = some (.v (.slice A n c)))
    (hA : SlAt w0 w0.heap.size A xs) (hn : n ≤ c) (hc : c ≤ maxLen) (hφ : φ A) (hf : FLe f f') : Ent w0 Gs.nil N f S f' (S.set i (.cells t (l.set k (.row S.length))) ++ [.view φ n xs]) := by
  refine ⟨fun a w ⟨r, hR, hd, hN, hdf⟩ => ?_⟩
  obtain ⟨b, us, h1, h2, h3⟩ := hR.own i _ hi
  obtain ⟨u, hu, hv⟩ := denL_at h3 hk
  simp only [CV.den] at hv
  subst hv
  have hle := hR.le_new none (some (.slice A n c))
  have hil := hR.lt_of_blk h1
  have hnew : ∀ q b', (r.set S.length none (some (.slice A n c))).blk q = some b' → w0.heap.size ≤ b' := fun q b' hq => by
    simp only [Env.set] at hq
    split at hq
    · cases hq
    · rcases Nat.lt_or_ge b' w0.heap.size with h | h
      · exact absurd ((hR.new q b' hq).2 h) (by simp)
      · exact h
  have hR2 := hR.snoc (o := .view φ n xs) (Below.refl _ _) (b := none) (v := some (.slice A n c)) nofun ⟨A, c, by simp [Env.set], hn, ⟨hc, hφ⟩, by simp [Env.set], fun j u hj => by
    obtain ⟨b', off, e1, e2, e3⟩ := hA j u hj
    exact ⟨b', off, e1, Nat.lt_of_lt_of_le e2 hR.size, fun q hq => by have := hnew q b' hq; omega, (hR.oldCell e2 (by simp) _).trans e3⟩⟩
  refine ⟨_, ?_, hf.den (hd.mono hle), hN, hdf⟩
  have h4 := denL_set k (denL_mono hle l us h3) (c := .row S.length) (u := .slice A n c) (by simp only [CV.den]; simp [Env.set])
  have hus : us.set k (.slice A n c) = us := by
    refine List.ext_getElem? fun j => ?_
    rw [List.getElem?_set]
    split
    · rename_i e; subst e; rw [hu]; split
      · rfl
      · rename_i h; rw [List.getElem?_eq_none (by omega)] at hu; cases hu
    · rfl
  rw [hus] at h4
  have := rel_setSame hR2 (i := i) (o := .cells t (l.set k (.row S.length))) ⟨b, us, hle.blk _ _ h1, h2, h4⟩
  rwa [List.set_append_left _ _ hil] at this
theorem viewAt {w0 : World} {G : Gs} {S : List Ow} {r : Env} {w : World} {i : Nat} {φ : Option Addr → Prop} {n : Nat} {xs : List Value} {u : Value} (hR : Rel w0 G S r w) (hi : S[i]? = some (.view φ n xs)) (hu : r.val i = some u) :
    ∃ A c, u = .slice A n c ∧ SlAt w w.heap.size A xs ∧ n ≤ c ∧ c ≤ maxLen ∧ φ A ∧ ∀ (j : Nat) (x : Value), xs[j]? = some x → ∀ b off, A = some ⟨b, off, none⟩ → ∀ k, r.blk k ≠ some b := by
  obtain ⟨A, c, h1, h2, h3, h4, h5⟩ := hR.own i _ hi
  rw [hu] at h1; injection h1 with h1; subst h1
  refine ⟨A, c, rfl, fun j x hj => ?_, h2, h3.1, h3.2, fun j x hj b off hb k => ?_⟩
  · obtain ⟨b, off, e1, e2, _, e4⟩ := h5 j x hj; exact ⟨b, off, e1, e2, e4⟩
  · obtain ⟨b', off', e1, e2, e3, e4⟩ := h5 j x hj
    rw [e1] at hb; injection hb with hb; injection hb with hb; subst hb; exact e3 k
theorem call_pass {P : Program} {w0 : World} {S : List Ow} {K : AV → List Ow → Prop} {fid : FuncId} {F : Blk → List BOp} (hp : Pass P fid F) (hok : fnOk P fid = true) (i : Nat) (b : Blk) {φ : Option Addr → Prop} {A1 A2 : Option Addr} {c1 c2 : Nat} (hi : S[i]? = some (.view φ b.ops.length (b.ops.flatMap opC))) (hb : b.ok) (h0 : b.ops = [] → F b = [])
    (h1 : SlAt w0 w0.heap.size A1 (b.at_.map (.int .u32))) (h2 : SlAt w0 w0.heap.size A2 (b.pages.map (.int .i64))) (hφ : ∀ A, Fresh w0.heap.size A → φ A)
    (hK : K (.p (.agg [.v (.slice A1 b.at_.length c1), .v (.slice A2 b.pages.length c2), .row S.length])) (S ++ [.view φ (F b).length ((F b).flatMap opC)])) :
    CallS P w0 Gs.nil fid [.p (.agg [.v (.slice A1 b.at_.length c1), .v (.slice A2 b.pages.length c2), .row i])] S K := by
  refine ⟨hok, fun r w us hR hd => ?_⟩
  obtain ⟨u1, l1, rfl, d1, d2⟩ := hd
  obtain rfl : l1 = [] := d2
  obtain ⟨us, rfl, hl⟩ := den_agg d1
  simp only [denL] at hl
  obtain ⟨u1, l1, rfl, e1, u2, l2, rfl, e2, u3, l3, rfl, e3, rfl⟩ := hl
  simp only [CV.den] at e1 e2 e3
  subst e1; subst e2
  obtain ⟨A, c, rfl, hs, hc1, hc2, hA, hfar⟩ := viewAt hR hi e3
  refine (hp b A1 A2 A c1 c2 c w hb (sl_later h1 hR.toBelow) (sl_later h2 hR.toBelow) hs hc1 hc2).mono fun e w' ⟨A', c', he, ho, k1, k2, k3, hB⟩ => ?_
  refine ⟨.p (.agg [.v (.slice A1 b.at_.length c1), .v (.slice A2 b.pages.length c2), .row S.length]), _, _, r.set S.length none (some (.slice A' (F b).length c')), he, ⟨[.slice A1 b.at_.length c1, .slice A2 b.pages.length c2, .slice A' (F b).length c'], rfl, ?_⟩, hR.snoc (o := .view φ (F b).length ((F b).flatMap opC)) hB (b := none) nofun ⟨A', c', by simp [Env.set], k1, ⟨k2, ?_⟩, by simp [Env.set], fun j u hj => ?_⟩, hR.le_new _ _, hK⟩
  · simp only [denL, CV.den]
    exact ⟨_, _, rfl, rfl, _, _, rfl, rfl, _, _, rfl, by simp [Env.set], rfl⟩
  · rcases k3 with k3 | rfl
    · exact hφ _ fun b off sp hA => Nat.le_trans hR.size (k3 b off sp hA)
    · exact hA
  · obtain ⟨b', off, e4, e5, e6⟩ := ho j u hj
    refine ⟨b', off, e4, e5, fun q hq => ?_, e6⟩
    simp only [Env.set] at hq
    split at hq
    · cases hq
    · rcases k3 with k3 | rfl
      · have := k3 b' off none e4
        have := (hR.new q b' hq).1
        omega
      · cases hl : b.ops with
        | nil => rw [h0 hl] at hj; simp at hj
        | cons o l => exact hfar 0 (.int .i64 o.code) (by rw [hl]; rfl) b' off e4 q hq
theorem call_pass_at {P : Program} {w0 : World} {S : List Ow} {K : AV → List Ow → Prop} {fid : FuncId} {F : Blk → List BOp} (hp : Pass P fid F) (hok : fnOk P fid = true) (i : Nat) (b b0 : Blk) {φ : Option Addr → Prop} {A1 A2 : Option Addr} {c1 c2 : Nat} (hi : S[i]? = some (.view φ b.ops.length (b.ops.flatMap opC))) (hb : b.ok) (hat : b.at_ = b0.at_) (hpg : b.pages = b0.pages) (h0 : b.ops = [] → F b = [])
    (h1 : SlAt w0 w0.heap.size A1 (b0.at_.map (.int .u32))) (h2 : SlAt w0 w0.heap.size A2 (b0.pages.map (.int .i64))) (hφ : ∀ A, Fresh w0.heap.size A → φ A)
    (hK : K (.p (.agg [.v (.slice A1 b0.at_.length c1), .v (.slice A2 b0.pages.length c2), .row S.length])) (S ++ [.view φ (F b).length ((F b).flatMap opC)])) :
    CallS P w0 Gs.nil fid [.p (.agg [.v (.slice A1 b0.at_.length c1), .v (.slice A2 b0.pages.length c2), .row i])] S K := by
  rw [← hat, ← hpg] at *
  exact call_pass hp hok i b hi hb h0 h1 h2 hφ hK
end Go.Proofs.Ytmjfgnnefcimiaa
