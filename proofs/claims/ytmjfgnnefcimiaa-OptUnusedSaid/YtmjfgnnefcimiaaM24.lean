/- A built slice as a row that may be appended to. slices.Reverse on a row of operations: the shelf's contract. Walks: slices.Equal on operations. Functions that turn one block of cells that their caller owns, over states that are known part by part. Regions with guards within guards: an operation that is passed over leaves nothing. The arguments of a law, opened: a slice of integers and an array of three. Objects of several blocks that a function is handed and may turn. Walks: rights from a number; the guest variables. Plain: Copies and Dead keep a block valid. Walks: what is a copy, whether a block is without copies, of the reference. -/
import Derived.OrdersHeld
import Derived.Shelf.SlicesQ.Reverse
import Derived.Ground.SlgnProg
import Derived.ProofKit
import Derived.OpenShut
import Derived.ShutString
import Derived.ChangeOld
import Derived.Below
import Derived.Lib.SmallJoins
import Derived.Laws.BytesString
import Derived.Test.YtmjfgnnefcimiaaM1
import Derived.Test.YtmjfgnnefcimiaaM13
import Derived.Test.YtmjfgnnefcimiaaM14
import Derived.Test.YtmjfgnnefcimiaaM15
import Derived.Test.YtmjfgnnefcimiaaM16
import Derived.Test.YtmjfgnnefcimiaaM17
import Derived.Test.YtmjfgnnefcimiaaM18
import Derived.Test.YtmjfgnnefcimiaaM19
import Derived.Test.YtmjfgnnefcimiaaM20
import Derived.Test.YtmjfgnnefcimiaaM21
import Derived.Test.YtmjfgnnefcimiaaM22
import Derived.Test.YtmjfgnnefcimiaaM3
import Derived.Test.YtmjfgnnefcimiaaM5
import Derived.Test.YtmjfgnnefcimiaaM6
import Derived.Test.YtmjfgnnefcimiaaM7
namespace Go.Proofs.Ytmjfgnnefcimiaa
open Go.RowKit

theorem opS_ent {P : Program} {w0 : World} {G : Gs} {N : Nd} {o : Oper} {f f1 : Fr} {S S1 : List Ow} {K : Fr → List Ow → Prop} (h : Ent w0 G N f S f1 S1) (k : OpS P w0 G N o f1 S1 K) : OpS P w0 G N o f S K :=
  ⟨fun r a w hR hf hN hd next Q hK => by
    obtain ⟨r1, hR1, hf1, hN1, hd1⟩ := h.out a w ⟨r, hR, hf, hN, hd⟩
    exact k.out r1 a w hR1 hf1 hN1 hd1 next Q hK⟩
def othersFx (i : Nat) : List Ow → Nat → Bool
  | [], _ => true
  | .cells _ l :: S, k => (match Nat.beq k i with | true => othersFx i S (k + 1) | false => (match fxL (fun _ => true) l with | true => othersFx i S (k + 1) | false => false))
  | _ :: S, k => othersFx i S (k + 1)
theorem othersFx_get {i : Nat} : ∀ {S : List Ow} {k j : Nat} {t : TypeId} {l : List CV}, othersFx i S k = true → S[j]? = some (.cells t l) → k + j ≠ i → fxL (fun _ => true) l = true
  | [], k, j, t, l, _, h, _ => by simp at h
  | o :: S, k, 0, t, l, hb, h, hne => by
    simp at h; subst h
    simp only [othersFx] at hb
    have : Nat.beq k i = false := by
      cases hk : Nat.beq k i
      · rfl
      · exact absurd (Nat.eq_of_beq_eq_true hk) (by omega)
    rw [this] at hb
    simp only at hb
    split at hb
    · assumption
    · cases hb
  | o :: S, k, j + 1, t, l, hb, h, hne => by
    have hb2 : othersFx i S (k + 1) = true := by
      cases o <;> simp only [othersFx] at hb <;> try exact hb
      split at hb
      · exact hb
      · split at hb
        · exact hb
        · cases hb
    exact othersFx_get (k := k + 1) (j := j) hb2 (by simpa using h) (by omega)
theorem ent_slrow {w0 : World} {G : Gs} {N : Nd} {f f' : Fr} {S : List Ow} (i d size n : Nat) {e : TypeId} {xs : List Value} (hs : f.get d = .p (.c (.sl i 0 n n))) (hi : S[i]? = some (.cells e (xs.map .v))) (hlen : xs.length = n * size) (hn : n ≤ maxLen) (hf : FLe f f') (hfx : f'.fx (fun _ => true) = true) (hS : othersFx i S 0 = true) : Ent w0 G N f S ((d, .p (.c (.row i))) :: f') (S.set i (.row e size n xs)) := by
  refine ⟨fun a w ⟨r, hR, hd, hN, hdf⟩ => ?_⟩
  obtain ⟨b, us, h1, h2, h3⟩ := hR.own i _ hi
  obtain rfl := denL_vals_inv h3
  have hil := hR.lt_of_blk h1
  obtain ⟨r1, hr1⟩ : ∃ r1 : Env, r1 = ⟨r.blk, fun j => if j = i then some (.slice (some ⟨b, 0, none⟩) n n) else r.val j⟩ := ⟨_, rfl⟩
  have hb1 : r1.blk = r.blk := by rw [hr1]
  have hv1 : ∀ j, j ≠ i → r1.val j = r.val j := fun j hj => by rw [hr1]; exact if_neg hj
  have hvi : r1.val i = some (.slice (some ⟨b, 0, none⟩) n n) := by rw [hr1]; exact if_pos rfl
  have hag : ∀ j x, (true = true) → r.blk j = some x → r1.blk j = some x := fun j x _ h => by rw [hb1]; exact h
  refine ⟨r1, ⟨hR.os, hR.tape, hR.output, hR.size, hR.old, fun j o hj => ?_, fun j k x h k' => hR.inj j k x (hb1 ▸ h) (hb1 ▸ k'), fun j x h => hR.new j x (hb1 ▸ h), fun j hj => by rw [hb1]; exact hR.outB j (by simpa using hj), fun j hj => ?_, fun j g h => by rw [hb1]; exact hR.first j g h⟩, fun k => ?_, hN, hdf⟩
  · rw [List.getElem?_set] at hj
    split at hj
    · rename_i hij; subst hij
      injection hj with hj; subst hj
      exact ⟨_, hvi, by rw [hb1, h1]; rfl, hlen, .inr ⟨b, n, us.toArray, rfl, Nat.zero_le _, h2, Nat.le_refl _, hn, by simpa using hlen, by rw [← hlen]; simp⟩⟩
    · rename_i hij
      have hh := hR.own j o hj
      have hv := hv1 j (Ne.symm hij)
      cases o with
      | cells t l =>
        obtain ⟨b', us', j1, j2, j3⟩ := hh
        exact ⟨b', us', by rw [hb1]; exact j1, j2, denL_fx (ok := fun _ => true) (fun k x hk hx => hag k x rfl hx) (othersFx_get hS hj (by omega)) j3⟩
      | row e' size' m ys => obtain ⟨v, j1, j2, j3⟩ := hh; exact ⟨v, hv.trans j1, by rw [hb1]; exact j2, j3⟩
      | ext φ => obtain ⟨b', j1, j2⟩ := hh; exact ⟨b', by rw [hb1]; exact j1, j2⟩
      | view φ m ys => obtain ⟨A, c, j1, j2, j3, j4, j5⟩ := hh; exact ⟨A, c, hv.trans j1, j2, j3, by rw [hb1]; exact j4, by rw [hb1]; exact j5⟩
      | gone => trivial
  · have : j ≠ i := fun e => by subst e; simp at hj; omega
    rw [hv1 j this]; exact hR.outV j (by simpa using hj)
  · simp only [Fr.get]
    split
    · rename_i hk
      have := Nat.eq_of_beq_eq_true hk; subst this
      have hsl := hd d
      rw [hs] at hsl
      obtain ⟨b', h4, h5⟩ := den_sl hsl
      rw [h1] at h4; injection h4 with h4; subst h4
      simp only [AV.den, Pc.den, CV.den]
      rw [h5, hvi]
    · exact ((hf.den hd).fx (ok := fun _ => true) (fun k x hk hx => hag k x rfl hx) hfx) k
end Go.Proofs.Ytmjfgnnefcimiaa
namespace Go.Proofs
open Go.Shelf Go.Lib
def Try.reverseOp_ren : Go.Shelf.Ren := ⟨fun | 35 => 50 | n => n, fun | 22 => 30 | 23 => 53 | 3 => 3 | 4 => 4 | 0 => 0 | n => n, fun n => n⟩
theorem Try.reverseOp : SlLaysE0.n35 Try.prog Try.reverseOp_ren where
  mixed := by kernel_rfl
  f35 := ⟨Try.f50.name, by decide, Try.func50.trans (congrArg some (by kernel_rfl))⟩
  t0 := Try.underlying0
  a0 := Try.isAgg0
  z0 := Try.sizeOf0
  v0 := Try.zeroValue0
  t3 := Try.underlying3
  a3 := Try.isAgg3
  z3 := Try.sizeOf3
  v3 := Try.zeroValue3
  t4 := Try.underlying4
  a4 := Try.isAgg4
  z4 := Try.sizeOf4
  v4 := Try.zeroValue4
  t22 := Try.underlying30
  a22 := Try.isAgg30
  z22 := Try.sizeOf30
  v22 := Try.zeroValue30
end Go.Proofs
namespace Go.Proofs.Ytmjfgnnefcimiaa
open Go.RowKit

theorem ops_get : ∀ {l : List BOp} {t : Nat}, t < l.length * 5 → (l.flatMap opC)[t]? = some ((opC l[t / 5]!)[t % 5]!)
  | [], t, h => by simp at h
  | x :: l, t, h => by
    rw [List.flatMap_cons]
    rcases Nat.lt_or_ge t 5 with h1 | h1
    · rw [List.getElem?_append_left (by simpa [opC] using h1), Nat.div_eq_of_lt h1, Nat.mod_eq_of_lt h1]
      have : t < (opC x).length := by simpa [opC] using h1
      rw [List.getElem?_eq_getElem this]
      simp [this]
    · obtain ⟨s, rfl⟩ : ∃ s, t = s + 5 := ⟨t - 5, by omega⟩
      rw [List.getElem?_append_right (by simp [opC])]
      have := ops_get (l := l) (t := s) (by simp at h; omega)
      rw [show s + 5 - (opC x).length = s by simp [opC], this, show (s + 5) / 5 = s / 5 + 1 by omega, show (s + 5) % 5 = s % 5 by omega]
      simp
theorem flatK_ops (l : List BOp) : Sort.flatK opC 5 l.toArray = (l.flatMap opC).toArray := by
  refine Array.ext (by simp only [Sort.size_flatK, List.size_toArray, ops_length]) fun t h1 h2 => ?_
  have h1 : t < l.length * 5 := by simpa using h1
  have e := ops_get h1
  rw [← getElem!_pos, Sort.get_flatK _ _ _ _ (by simpa using h1)]
  have h2' : t < (l.flatMap opC).length := by rw [ops_length]; exact h1
  rw [List.getElem?_eq_getElem h2'] at e
  injection e with e
  simp only [List.getElem_toArray]
  rw [e]
  simp
theorem opC_one {x : BOp} : ∀ v ∈ opC x, v.oneCell' = true := by
  intro v hv
  simp only [opC, List.mem_cons, List.not_mem_nil, or_false] at hv
  rcases hv with rfl | rfl | rfl | rfl | rfl <;> rfl
theorem putRow_block {w : World} {g : Nat} {cur : Array Value} {e : TypeId} {F : Array Value} (h : w.heap[g]? = some (.cells cur e (0, 0))) (hF : F.size ≤ cur.size) : ∃ cur' : Array Value, (Sort.putRow id w g 0 F).heap[g]? = some (.cells cur' e (0, 0)) ∧ cur'.size = cur.size ∧ cur'.toList.take F.size = F.toList := by
  refine ⟨Sort.putCells id 0 F cur, by simp [Sort.putRow, Sort.mapBlock, Array.getElem?_modify, h, Sort.onCells], by simp [Sort.putCells], ?_⟩
  refine List.ext_getElem? fun i => ?_
  rw [List.getElem?_take]
  split
  · rename_i hi
    simp only [Sort.putCells, Array.getElem?_toList, Array.getElem?_mapIdx]
    rw [Array.getElem?_eq_getElem (by omega), Array.getElem?_eq_getElem hi]
    simp [hi]
  · rename_i hi
    rw [List.getElem?_eq_none (by simp; omega)]
theorem reverse_row (l : List BOp) (hl : l.length ≤ 1000000) (base : Nat) (v : Value) (w : World) (h : w.ownsRow base 53 5 v l.length (l.flatMap opC)) :
    Calls Try.prog 50 #[v] w fun e w' => e = .returned (.tuple #[]) ∧ w'.ownsRow base 53 5 v l.length (l.reverse.flatMap opC) ∧ w.grownBy w' v.ownBlock := by
  obtain ⟨h1, h2⟩ := h
  rcases h2 with ⟨rfl, h0⟩ | ⟨g, cap, cur, rfl, hg, hh, hn, hcap, hsz, htake⟩
  · have hl0 : l = [] := List.eq_nil_of_length_eq_zero h0
    subst hl0
    refine (AnyQ.slices_Reverse_empty Try.reverseOp none 0 w).mono fun e w' ⟨h3, h4⟩ => ⟨h3, ?_, ?_⟩
    · exact ⟨rfl, .inl ⟨rfl, rfl⟩⟩
    · rw [h4]; exact World.grownBy.refl _ _
  · have hH : Sort.HoldsK opC 5 w g 0 l.toArray := by
      unfold Sort.HoldsK
      rw [flatK_ops]
      intro j hj
      have hj : j < (l.flatMap opC).length := by simpa using hj
      refine ⟨?_, by simp [World.frozen?, hh]⟩
      have hjc : (l.flatMap opC)[j]? = cur[j]? := by
        rw [← htake, List.getElem?_take, if_pos (by rw [h1] at hj; exact hj)]; simp
      simp only [World.cell?, Nat.zero_add, hh]
      rw [← hjc]
      simp [List.getElem?_eq_getElem hj]
    refine (AnyQ.slices_Reverse Try.reverseOp 5 (fun w => by kernel_rfl) (fun w => by kernel_rfl) opC (fun x => rfl) (fun x => opC_one) g 0 cap l.toArray w hH (by simp; omega)).mono fun e w' ⟨h3, q, h4⟩ => ⟨h3, ?_, ?_⟩
    · obtain ⟨cur', k1, k2, k3⟩ := putRow_block (w := Sort.ahead w q) (F := (l.reverse.flatMap opC).toArray) hh (by
        have : (l.reverse.flatMap opC).toArray.size = l.length * 5 := by simp only [List.size_toArray, ops_length, List.length_reverse]
        rw [this, hsz]; exact Nat.mul_le_mul_right 5 hn)
      have e : w' = Sort.putRow id (Sort.ahead w q) g 0 (l.reverse.flatMap opC).toArray := by
        rw [h4]; unfold Sort.putRowK; rw [← flatK_ops]; simp
      refine ⟨by rw [ops_length, List.length_reverse], .inr ⟨g, cap, cur', rfl, hg, by rw [e]; exact k1, hn, hcap, k2.trans hsz, ?_⟩⟩
      have : (l.reverse.flatMap opC).toArray.size = l.length * 5 := by simp only [List.size_toArray, ops_length, List.length_reverse]
      rw [← this]; simpa using k3
    · rw [h4]
      refine ⟨rfl, rfl, rfl, by simp [Sort.putRowK, Sort.ahead], fun k hk hne => ?_⟩
      have hne : g ≠ k := fun e => hne (by rw [e]; rfl)
      simp [Sort.putRowK, Sort.putRow, Sort.mapBlock, Array.getElem?_modify, hne, Sort.ahead]
theorem call_reverse {w0 : World} {G : Gs} {S : List Ow} {K : AV → List Ow → Prop} {l : List BOp} (i : Nat) (hi : S[i]? = some (.row 53 5 l.length (l.flatMap opC))) (hl : l.length ≤ 1000000)
    (hK : K (.tup []) (S.set i (.row 53 5 l.length (l.reverse.flatMap opC)))) : CallS Try.prog w0 G 50 [.p (.c (.row i))] S K := by
  refine ⟨by kernel_rfl, fun r w us hR hd => ?_⟩
  obtain ⟨u1, l1, rfl, d1, d2⟩ := hd
  obtain rfl : l1 = [] := d2
  obtain ⟨v, e1, e2, e3⟩ := hR.own i _ hi
  have d1 := den_row d1
  rw [e1] at d1; injection d1 with d1; subst d1
  refine (reverse_row l hl 0 v w e3).mono fun e w' ⟨he, ho, hg⟩ => ?_
  rw [e2] at hg
  cases hb : r.blk i with
  | none =>
    rw [hb] at hg
    have hB : Below w.heap.size w w' := ⟨hg.os, hg.tape, hg.output, hg.size, fun k hk => hg.block k hk (by simp)⟩
    have hR2 := hR.below hB
    refine ⟨.tup [], _, _, r, he, ⟨_, rfl, rfl⟩, rel_setSame (o := .row 53 5 l.length (l.reverse.flatMap opC)) hR2 ⟨v, e1, e2, ho⟩, Env.le.refl r, hK⟩
  | some b =>
    rw [hb] at hg
    exact ⟨.tup [], _, _, r, he, ⟨_, rfl, rfl⟩, hR.setBlock (o := .row 53 5 l.length (l.reverse.flatMap opC)) hb hg ⟨v, e1, e2, ho⟩ (hR.lt_of_blk hb), Env.le.refl r, hK⟩
end Go.Proofs.Ytmjfgnnefcimiaa
namespace Go.Proofs.Ytmjfgnnefcimiaa
open Go.RowKit

theorem op_guard (op : BinOp) (x y : Operand) (p q : BOp) (w : World) : (eqGuard op 53 x y (opV p) (opV q)).run Try.prog w = .ok () w := by
  have h : Try.prog.eqGuardType Try.prog.depth 53 = false := by kernel_rfl
  unfold eqGuard opV
  cases op <;> simp [h]
theorem q_neq_op {w0 : World} {G : Gs} {S : List Ow} {f : Fr} {o : Oper} {K : AV → Prop} {x y : Operand} (p q : BOp) {t : TypeId} (hop : o.op = .binOp .neq 53 x y t) (hx : f.ev x = .p (.agg ((opC p).map .v))) (hy : f.ev y = .p (.agg ((opC q).map .v))) (hK : K (one (.bool (!(p == q))))) : QRun Try.prog w0 G S f o K := by
  refine ⟨_, hK, fun r a hf => ⟨.bool (!(p == q)), den_one _ _, fun w _ => ?_⟩⟩
  have h1 := hf.ev x
  have h2 := hf.ev y
  rw [hx] at h1; rw [hy] at h2
  have e1 : a.eval x = opV p := by obtain ⟨us, hu, hl⟩ := h1; rw [hu, denL_vals_inv hl]; rfl
  have e2 : a.eval y = opV q := by obtain ⟨us, hu, hl⟩ := h2; rw [hu, denL_vals_inv hl]; rfl
  simp [execOp, hop, e1, e2, op_guard, op_neq]
structure EqSt (l m : List BOp) where
  k : Nat
  hk : k ≤ l.length
  h : l.take k = m.take k
set_option maxRecDepth 100000 in
theorem equal_ops (A1 A2 : Option Addr) (c1 c2 : Nat) (l m : List BOp) (w : World) (h1 : OpsAt w w.heap.size A1 l) (h2 : OpsAt w w.heap.size A2 m) (hl : l.length ≤ 1000000) :
    Calls Try.prog 77 #[.slice A1 l.length c1, .slice A2 m.length c2] w fun e w' => e = .returned (.bool (l == m)) ∧ Below w.heap.size w w' := by
  by_cases hlm : l.length = m.length
  · by_cases h0 : l.length = 0
    · have e1 : l = [] := List.eq_nil_of_length_eq_zero h0
      have e2 : m = [] := List.eq_nil_of_length_eq_zero (by omega)
      subst e1; subst e2
      refine calls_val [.slice A1 0 c1, .slice A2 0 c2] Try.func77 Try.ntmps77 rfl (by simp) ?_
      conv => whnf
      (refine ⟨(fun h => absurd h (by decide)), fun _ => ?_⟩; (conv => whnf))
      refine ⟨Unit, fun x => [(12, one (.int .i64 0)), (13, one (.int .i64 0))], fun x => [], fun x => 0, ⟨(), ent_same rfl (aI rfl (aI rfl trivial)) trivial⟩, fun x => ?_⟩
      conv => whnf
      (refine ⟨(fun h => absurd h (by decide)), fun _ => ?_⟩; (conv => whnf))
      refine ⟨_, _, ent_refl, ?_⟩
      conv => whnf
      exact fin_val rfl fun w' hB => ⟨rfl, hB⟩
    · obtain ⟨b1, o1, rfl⟩ := ops_addr h1 (by omega)
      obtain ⟨b2, o2, rfl⟩ := ops_addr h2 (by omega)
      refine calls_val [.slice (some ⟨b1, o1, none⟩) l.length c1, .slice (some ⟨b2, o2, none⟩) m.length c2] Try.func77 Try.ntmps77 rfl (by simp) ?_
      conv => whnf
      refine ⟨fun hn => absurd hn (by simp [hlm]), fun _ => ?_⟩
      conv => whnf
      refine ⟨EqSt l m, fun x => [(0, one (.slice (some ⟨b1, o1, none⟩) l.length c1)), (1, one (.slice (some ⟨b2, o2, none⟩) m.length c2)), (12, one (.int .i64 l.length)), (13, one (.int .i64 x.k))], fun x => [], fun x => l.length - x.k, ⟨⟨0, by omega, rfl⟩, ent_same rfl (aI rfl (aI rfl (aI rfl (aI rfl trivial)))) trivial⟩, fun x => ?_⟩
      have hk := x.hk
      have hx := x.h
      conv => whnf
      refine ⟨fun hc => ?_, fun hc => ?_⟩
      · have hlt : x.k < l.length := by simpa using hc
        obtain ⟨p, hp⟩ : ∃ p, l[x.k]? = some p := ⟨_, List.getElem?_eq_getElem hlt⟩
        obtain ⟨q, hq⟩ : ∃ q, m[x.k]? = some q := ⟨_, List.getElem?_eq_getElem (by omega)⟩
        conv => whnf
        refine sat_quiet mixed (by kernel_rfl) ?_
        conv => whnf
        refine ⟨⟨by omega, by omega⟩, ?_⟩
        conv => whnf
        refine ⟨opC p, cells_op h1 (by simp) hp, rfl, ?_⟩
        conv => whnf
        refine ⟨⟨by omega, by omega⟩, ?_⟩
        conv => whnf
        refine ⟨opC q, cells_op h2 (by simp) hq, rfl, ?_⟩
        conv => whnf
        refine q_neq_op p q rfl rfl rfl ?_
        conv => whnf
        refine ⟨fun hn => ?_, fun hn => ?_⟩
        · conv => whnf
          refine ⟨_, _, ent_refl, ?_⟩
          conv => whnf
          refine fin_val rfl fun w' hB => ⟨?_, hB⟩
          have : (l == m) = false := by
            rw [Bool.eq_false_iff]
            intro e
            have e : l = m := by simpa using e
            subst e
            rw [hp] at hq; injection hq with hq; subst hq
            simp at hn
          rw [this]
        · conv => whnf
          refine ⟨(x.k : Int) + 1, wr64 (by omega), ?_⟩
          conv => whnf
          refine ⟨⟨x.k + 1, by omega, ?_⟩, ent_same rfl (aI rfl (aI rfl (aI rfl (aI (num_succ x.k) trivial)))) trivial, by dsimp only; omega⟩
          have : p = q := by simpa using hn
          rw [List.take_add_one, List.take_add_one, hx, hp, hq, this]
      · have hge : ¬ x.k < l.length := by simpa using hc
        conv => whnf
        refine ⟨_, _, ent_refl, ?_⟩
        conv => whnf
        refine fin_val rfl fun w' hB => ⟨?_, hB⟩
        have : l = m := by
          rw [List.take_of_length_le (by omega), List.take_of_length_le (by omega)] at hx
          exact hx
        subst this
        simp
  · refine calls_val [.slice A1 l.length c1, .slice A2 m.length c2] Try.func77 Try.ntmps77 rfl (by simp) ?_
    conv => whnf
    refine ⟨fun _ => ?_, fun hn => absurd hn (by simp; omega)⟩
    conv => whnf
    refine fin_val rfl fun w' hB => ⟨?_, hB⟩
    have : (l == m) = false := by
      rw [Bool.eq_false_iff]
      intro e
      have e : l = m := by simpa using e
      exact hlm (by rw [e])
    rw [this]
end Go.Proofs.Ytmjfgnnefcimiaa
namespace Go.Proofs.Ytmjfgnnefcimiaa
open Go.RowKit
def envOne (g : Nat) : Env := ⟨fun i => if i = 0 then some g else Option.none, fun _ => Option.none⟩
theorem envOne_blk {g i b : Nat} (h : (envOne g).blk i = some b) : i = 0 ∧ b = g := by
  simp only [envOne] at h
  split at h
  · rename_i hi; injection h with h; exact ⟨hi, h.symm⟩
  · cases h
theorem rel_own1 (w : World) {g : Nat} {t : TypeId} {us : List Value} (h : w.heap[g]? = some (.cells us.toArray t (0, 0))) : Rel w ⟨[g], []⟩ [.cells t (us.map .v)] (envOne g) w := by
  have hlt : g < w.heap.size := by
    rcases Nat.lt_or_ge g w.heap.size with h1 | h1
    · exact h1
    · rw [Array.getElem?_eq_none h1] at h; cases h
  refine ⟨rfl, rfl, rfl, Nat.le_refl _, fun k _ _ => rfl, fun i o ho => ?_, fun i j b hi hj => ?_, fun i b hb => ?_, fun i hi => ?_, fun i _ => rfl, fun i x hx => ?_⟩
  · cases i with
    | zero => simp at ho; subst ho; exact ⟨g, us, rfl, h, denL_vals us⟩
    | succ i => simp at ho
  · rw [(envOne_blk hi).1, (envOne_blk hj).1]
  · rw [(envOne_blk hb).2]; exact ⟨hlt, fun _ => .inl (by simp)⟩
  · show (if i = 0 then some g else Option.none) = Option.none
    have : ¬ i = 0 := by intro e; subst e; simp at hi
    rw [if_neg this]
  · cases i with
    | zero => simp at hx; subst hx; rfl
    | succ i => simp at hx
/-- A function whose first argument is the address of a block that it may turn. -/
theorem calls_own {P : Program} {fid : FuncId} {fn : Func} {c : Code} {N : Nat} {w : World} {g : Nat} {t : TypeId} {us : List Value} (xs : List Value) (hf : P.funcs[fid]? = some fn) (hN : fn.ntmps = N) (hb : fn.body = some c) (hle : xs.length + 1 ≤ N) (hg : w.heap[g]? = some (.cells us.toArray t (0, 0))) {R : Ending → World → Prop}
    (h : vc none P w ⟨[g], []⟩ ⟨N, []⟩ c (argFr (.p (.c (.ref 0 0)) :: xs.map fun x => AV.of x) 0) [.cells t (us.map .v)] (RetK P w ⟨[g], []⟩ fn.results.toList R)) : Calls P fid (.pointer (some ⟨g, 0, none⟩) :: xs).toArray w R :=
  calls_vc hf hN hb (rel_own1 w hg) (avs := .p (.c (.ref 0 0)) :: xs.map fun x => AV.of x) (args := .pointer (some ⟨g, 0, none⟩) :: xs) ⟨_, _, rfl, den_mk_ref (by simp [envOne]), avdenL_of xs⟩ (by simpa using hle) h
theorem Rel.grown {w0 : World} {g : Nat} {S : List Ow} {r : Env} {w : World} (h : Rel w0 ⟨[g], []⟩ S r w) : w0.grownBy w (some g) :=
  ⟨h.os, h.tape, h.output, h.size, fun k hk hn => h.old k hk (by
    rintro (h1 | h1)
    · simp at h1; exact hn (by rw [h1])
    · cases h1)⟩
/-- The end of such a function. -/
theorem fin_own {w0 : World} {g : Nat} {S : List Ow} {t : TypeId} {us : List Value} {v : AV} {x : Value} {R : Ending → World → Prop} (hv : v.val = some x) (h0 : S[0]? = some (.cells t (us.map .v))) (h : ∀ w, w.heap[g]? = some (.cells us.toArray t (0, 0)) → w0.grownBy w (some g) → R (.returned x) w) : Fin w0 ⟨[g], []⟩ S v R := by
  refine ⟨fun r w u hR hd => ?_⟩
  obtain rfl := AV.val_den hv hd
  obtain ⟨b, us', e1, e2, e3⟩ := hR.own 0 _ h0
  have := hR.first 0 g rfl
  rw [this] at e1; injection e1 with e1; subst e1
  obtain rfl := denL_vals_inv e3
  exact h w e2 hR.grown
/-- What the caller knows of old slices, seen by the callee. -/
def OldKeep (w0 : World) (G : Gs) (w : World) (g : Nat) : Prop := ∀ A ys, SlOld w0 G A ys → SlOld w ⟨[g], []⟩ A ys
theorem Rel.oldKeep {w0 : World} {G : Gs} {S : List Ow} {r : Env} {w : World} (hR : Rel w0 G S r w) {i g : Nat} (hg : r.blk i = some g) : OldKeep w0 G w g := by
  intro A ys h j u hj
  obtain ⟨b, off, e1, e2, e3, e4⟩ := h j u hj
  have hne : b ≠ g := by
    intro e; subst e
    exact e3 ((hR.new i b hg).2 e2)
  refine ⟨b, off, e1, Nat.lt_of_lt_of_le e2 hR.size, ?_, by rw [hR.oldCell e2 e3]; exact e4⟩
  rintro (h1 | h1)
  · simp at h1; exact hne h1
  · cases h1
theorem call_own {P : Program} {w0 : World} {G : Gs} {fid : FuncId} {S : List Ow} {K : AV → List Ow → Prop} {t : TypeId} {us : List Value} {args : List AV} {xs : List Value} (post : Value → List Value → Prop) (i : Nat) (hi : S[i]? = some (.cells t (us.map .v))) (hx : avals args = some xs) (hok : fnOk P fid = true)
    (h : ∀ w g, OldKeep w0 G w g → w.heap[g]? = some (.cells us.toArray t (0, 0)) → Calls P fid (.pointer (some ⟨g, 0, none⟩) :: xs).toArray w fun e w' => ∃ x us', post x us' ∧ e = .returned x ∧ w'.heap[g]? = some (.cells us'.toArray t (0, 0)) ∧ w.grownBy w' (some g))
    (hK : ∀ x us', post x us' → K (AV.of x) (S.set i (.cells t (us'.map .v)))) : CallS P w0 G fid (.p (.c (.ref i 0)) :: args) S K := by
  refine ⟨hok, fun r w vs hR hd => ?_⟩
  obtain ⟨u1, l1, rfl, d1, d2⟩ := hd
  obtain rfl := avals_den hx d2
  obtain ⟨g, hb, rfl⟩ := den_ref d1
  obtain ⟨b', us1, e1, e2, e3⟩ := hR.own i _ hi
  rw [hb] at e1; injection e1 with e1; subst e1
  obtain rfl := denL_vals_inv e3
  refine (h w g (hR.oldKeep hb) e2).mono fun e w' ⟨x, us', hp, he, hg, hgr⟩ => ?_
  exact ⟨AV.of x, x, _, r, he, AV.of_den r x, hR.setBlock (o := .cells t (us'.map .v)) hb hgr ⟨g, us', hb, hg, denL_vals us'⟩ (hR.lt_of_blk hb), Env.le.refl r, hK x us' hp⟩
end Go.Proofs.Ytmjfgnnefcimiaa
namespace Go.Proofs.Ytmjfgnnefcimiaa
open Go.RowKit
def guardU (ops : Array Oper) (f : Fr) (o : Oper) : Option Bool := match o.guard with
  | none => some true
  | some (j, pol) => (match slotOf ops j with
    | some d => (match f.get d with
      | .p (.c (.v (.bool x))) => some (x == pol)
      | .p (.c (.v (.tuple _))) => some false
      | _ => none)
    | none => none)
def guardedU (P : Program) (W : World) (G : Gs) (N : Nd) (ops : Array Oper) : List Oper → Fr → List Ow → (Fr → List Ow → Prop) → Prop
  | [], f, S, K => K f S
  | o :: l, f, S, K => match o.guard with
    | none => opK P W G N o f S fun f' S' => guardedU P W G N ops l f' S' K
    | some _ => (match guardU ops f o with
    | some x => (x = true → opK P W G N o f S fun f' S' => guardedU P W G N ops l f' S' K) ∧ (x = false → (match dstOk N.n o.dst with
      | true => f.putK o.dst (one undef) fun f' => guardedU P W G N ops l f' S K
      | false => False))
    | none => False)
section
variable {P : Program} {w0 : World} {G : Gs} {N : Nd} {c d : Code} {f : Fr} {S : List Ow} {Q : Exit → Act → World → Prop}
theorem guardU_wanted {ops : Array Oper} {r : Env} {a : Act} {o : Oper} {x : Bool} (hf : FDen r f a) (h : guardU ops f o = some x) : Region.wanted o (yielded ops a.tmps) = x := by
  unfold guardU at h
  split at h
  · rename_i hg; injection h with h; subst h; exact wanted_none hg _
  · rename_i j pol hg
    split at h
    · rename_i d hs
      split at h
      · rename_i y hy
        injection h with h; subst h
        rw [wanted_some hg, yielded_of hf hs hy]
        cases y <;> cases pol <;> rfl
      · rename_i vs hy
        injection h with h; subst h
        rw [wanted_some hg]
        have hv := hf d
        rw [hy] at hv
        have hv := den_v hv
        unfold slotOf at hs
        have : yielded ops a.tmps j = none := by
          unfold yielded
          rw [hs]
          show (match a.tmps[d]? with | some (.bool b) => some b | _ => none) = none
          rw [Array.getD_eq_getD_getElem?] at hv
          cases hd : a.tmps[d]? with
          | none => rfl
          | some v =>
            rw [hd] at hv
            simp at hv; subst hv; rfl
        rw [this]
        cases pol <;> rfl
      · cases h
    · cases h
theorem guardedU_sound {ops : Array Oper} {Q : Act → World → Prop} : ∀ (l : List Oper) (f : Fr) (S : List Ow) (K : Fr → List Ow → Prop), guardedU P w0 G N ops l f S K → (∀ f' S' a' w', K f' S' → Good w0 G N f' S' a' w' → Q a' w') →
    ∀ a w, Good w0 G N f S a w → seL P ops Q l a w
  | [], f, S, K, h, hK, a, w, hg => hK _ _ _ _ h hg
  | o :: l, f, S, K, h, hK, a, w, hg => by
    obtain ⟨r, hR, hf, hN, hd⟩ := hg
    unfold guardedU at h
    split at h
    · rename_i hg
      unfold seL
      rw [if_pos (wanted_none hg _)]
      exact (opK_sound h).out r a w hR hf hN hd _ (fun _ _ _ => True) fun f' S' a' w' hk hg' => guardedU_sound l f' S' K hk hK a' w' hg'
    rename_i _ _ _
    split at h
    · rename_i x hgd
      have hw := guardU_wanted hf hgd
      cases x with
      | true =>
        unfold seL
        rw [if_pos hw]
        exact (opK_sound (h.1 rfl)).out r a w hR hf hN hd _ (fun _ _ _ => True) fun f' S' a' w' hk hg' => guardedU_sound l f' S' K hk hK a' w' hg'
      | false =>
        have h := h.2 rfl
        split at h
        · rename_i hdst
          have hk := putK_iff.1 h
          unfold seL
          rw [if_neg (by rw [hw]; decide)]
          exact guardedU_sound l _ S K hk hK _ w ⟨r, hR, hf.put (den_one _ _) (by rw [hN]; exact hdst), (put_size a _ _).trans hN, (put_defers a _ _).trans hd⟩
        · exact h.elim
    · exact h.elim
theorem satq_regionU {id : Nat} {ops : Array Oper} (h : guardedU P w0 G N ops ops.toList f S fun f' S' => AtQ w0 G N .normal f' S' Q) : SatQ P w0 G N (.region id ops false) f S Q :=
  ⟨fun a w hg => wpIn_region_list (seL_wpIn none 10 (guardedU_sound _ f S _ h (fun _f' _S' a' w' hk hg' => hk.out a' w' hg') a w hg))⟩
end
end Go.Proofs.Ytmjfgnnefcimiaa
namespace Go.Proofs.Ytmjfgnnefcimiaa
open Go.ChangeShapes Go.WideShapes Go.ChangeAt Go.RowKit

theorem ownK : ownKnob Try.prog.godebug = none := by kernel_rfl
theorem laidOutP : laidOutB Try.prog = true := by kernel_rfl
theorem cells_lt {w : World} {b o : Nat} {u : Value} (h : w.cell? ⟨b, o, none⟩ = some u) : b < w.heap.size := by
  rcases Nat.lt_or_ge b w.heap.size with h1 | h1
  · exact h1
  · simp [World.cell?, Array.getElem?_eq_none h1] at h
/-- A slice of integers that came in. -/
theorem open_sl {H : Type} {enc : TypeId × Value → H} {W : World} {a : Option Addr} {len cap : Nat} {d : DataW H} {p : List MemPlace} (h : DataW.Trod enc Try.prog W 0 (fun _ => true) true 22 (.slice a len cap) d p) :
    ∃ xs : List Int, SlAt W W.heap.size a (xs.map (.int .i64)) ∧ xs.length = len ∧ len ≤ cap := by
  obtain ⟨fuel, hf⟩ := h
  rcases open_ints Try.underlying22 Try.underlying3 (by kernel_rfl) hf with ⟨hcs, _⟩ | ⟨x, l, c, zs, hcs, _, hl, hm, hz, _, hcell, hwz⟩
  · simp [Value.cells] at hcs
    obtain ⟨rfl, rfl, rfl⟩ := hcs
    exact ⟨[], SlAt.nil, rfl, Nat.le_refl _⟩
  · simp [Value.cells] at hcs
    obtain ⟨rfl, rfl, rfl⟩ := hcs
    have hz : zs.length = cap := by simpa using hz
    refine ⟨zs.take len, fun j u hj => ?_, by rw [List.length_take]; omega, hl⟩
    rw [List.getElem?_map, List.getElem?_take] at hj
    split at hj
    · rename_i hjl
      have hjz : j < zs.length := by omega
      have hc := hcell j hjz
      obtain ⟨b, off, spot⟩ := x
      have hsp : spot = none := by
        have h0 := hcell 0 (by omega)
        simpa [Addr.add] using World.cell?_spot h0
      subst hsp
      rw [addr_add] at hc
      rw [List.getElem?_eq_getElem hjz] at hj
      have hg : zs.getD j 0 = zs[j] := by rw [List.getD_eq_getElem?_getD, List.getElem?_eq_getElem hjz]; rfl
      rw [hg] at hc
      injection hj with hj; subst hj
      exact ⟨b, off, rfl, cells_lt hc, hc⟩
    · cases hj
end Go.Proofs.Ytmjfgnnefcimiaa
namespace Go.Proofs.Ytmjfgnnefcimiaa
open Go.RowKit

def envOf (gs : List Nat) : Env := ⟨fun i => gs[i]?, fun _ => Option.none⟩
/-- The blocks gs hold these entries. -/
structure ObjsAt (w : World) (gs : List Nat) (U : List Ow) : Prop where
  len : U.length = gs.length
  nodup : ∀ (i j b : Nat), gs[i]? = some b → gs[j]? = some b → i = j
  lt : ∀ g ∈ gs, g < w.heap.size
  own : ∀ (i : Nat) (o : Ow), U[i]? = some o → o.holds (envOf gs) w i
/-- Nothing but these blocks, and new ones, has turned. -/
structure GrownBys (w w' : World) (gs : List Nat) : Prop where
  os : w'.os = w.os
  tape : w'.tape = w.tape
  output : w'.output = w.output
  size : w.heap.size ≤ w'.heap.size
  block : ∀ k, k < w.heap.size → k ∉ gs → w'.heap[k]? = w.heap[k]?
theorem rel_objs {w : World} {gs : List Nat} {U : List Ow} (h : ObjsAt w gs U) : Rel w ⟨gs, []⟩ U (envOf gs) w := by
  refine ⟨rfl, rfl, rfl, Nat.le_refl _, fun k _ _ => rfl, h.own, h.nodup, fun i b hb => ?_, fun i hi => ?_, fun i _ => rfl, fun i g hg => hg⟩
  · have hm : b ∈ gs := List.mem_of_getElem? hb
    exact ⟨h.lt b hm, fun _ => .inl hm⟩
  · show gs[i]? = Option.none
    exact List.getElem?_eq_none (by rw [← h.len]; exact hi)
/-- A cell that is known by the blocks of the first n entries. -/
def CV.ob (n : Nat) : CV → Bool
  | .v _ => true
  | .ref i _ => Nat.blt i n
  | .sl i _ _ _ => Nat.blt i n
  | _ => false
def CV.sh (k : Nat) : CV → CV
  | .ref i o => .ref (k + i) o
  | .sl i o n c => .sl (k + i) o n c
  | c => c
theorem CV.den_sh {r r' : Env} {n k : Nat} (h : ∀ i b, i < n → r.blk (k + i) = some b → r'.blk i = some b) : ∀ {c : CV} {u : Value}, c.ob n = true → (c.sh k).den r u → c.den r' u
  | .v x, u, _, hd => by simpa only [CV.den, CV.sh] using hd
  | .ref i off, u, hb, hd => by
    simp only [CV.den, CV.sh] at hd ⊢; obtain ⟨x, hx, hu⟩ := hd
    exact ⟨x, h i x (by simpa [CV.ob, Nat.blt_eq] using hb) hx, hu⟩
  | .sl i off m c, u, hb, hd => by
    simp only [CV.den, CV.sh] at hd ⊢; obtain ⟨x, hx, hu⟩ := hd
    exact ⟨x, h i x (by simpa [CV.ob, Nat.blt_eq] using hb) hx, hu⟩
  | .any, u, hb, _ => by cases hb
  | .vref .., _, hb, _ => by cases hb
  | .row .., _, hb, _ => by cases hb
  | .mp .., _, hb, _ => by cases hb
  | .clo .., _, hb, _ => by cases hb
theorem CV.sh_den {r r' : Env} {n k : Nat} (h : ∀ i b, i < n → r'.blk i = some b → r.blk (k + i) = some b) : ∀ {c : CV} {u : Value}, c.ob n = true → c.den r' u → (c.sh k).den r u
  | .v x, u, _, hd => by simpa only [CV.den, CV.sh] using hd
  | .ref i off, u, hb, hd => by
    simp only [CV.den, CV.sh] at hd ⊢; obtain ⟨x, hx, hu⟩ := hd
    exact ⟨x, h i x (by simpa [CV.ob, Nat.blt_eq] using hb) hx, hu⟩
  | .sl i off m c, u, hb, hd => by
    simp only [CV.den, CV.sh] at hd ⊢; obtain ⟨x, hx, hu⟩ := hd
    exact ⟨x, h i x (by simpa [CV.ob, Nat.blt_eq] using hb) hx, hu⟩
  | .any, u, hb, _ => by cases hb
  | .vref .., _, hb, _ => by cases hb
  | .row .., _, hb, _ => by cases hb
  | .mp .., _, hb, _ => by cases hb
  | .clo .., _, hb, _ => by cases hb
theorem denL_sh {r r' : Env} {n k : Nat} (h : ∀ i b, i < n → r.blk (k + i) = some b → r'.blk i = some b) : ∀ {l : List CV} {us : List Value}, (∀ c ∈ l, c.ob n = true) → denL r (l.map (CV.sh k)) us → denL r' l us
  | [], us, _, hd => by simpa only [denL, List.map_nil] using hd
  | c :: cs, us, hb, hd => by
    simp only [List.map_cons, denL] at hd ⊢; obtain ⟨u, l, hu, hc, hl⟩ := hd
    exact ⟨u, l, hu, CV.den_sh h (hb c (by simp)) hc, denL_sh h (fun x hx => hb x (by simp [hx])) hl⟩
theorem sh_denL {r r' : Env} {n k : Nat} (h : ∀ i b, i < n → r'.blk i = some b → r.blk (k + i) = some b) : ∀ {l : List CV} {us : List Value}, (∀ c ∈ l, c.ob n = true) → denL r' l us → denL r (l.map (CV.sh k)) us
  | [], us, _, hd => by simpa only [denL, List.map_nil] using hd
  | c :: cs, us, hb, hd => by
    simp only [List.map_cons, denL] at hd ⊢; obtain ⟨u, l, hu, hc, hl⟩ := hd
    exact ⟨u, l, hu, CV.sh_den h (hb c (by simp)) hc, sh_denL h (fun x hx => hb x (by simp [hx])) hl⟩
/-- Entries of cells, known by the blocks of the first n. -/
def Ow.Ob (n : Nat) : Ow → Prop
  | .cells _ l => ∀ c ∈ l, c.ob n = true
  | _ => False
def ObAll (n : Nat) (U : List Ow) : Prop := ∀ o ∈ U, o.Ob n
/-- The same entries, k places further. -/
def Ow.Sh (k : Nat) : Ow → Ow → Prop
  | .cells t l, .cells t' l' => t = t' ∧ l' = l.map (CV.sh k)
  | _, _ => False
def ShAll (k : Nat) : List Ow → List Ow → Prop
  | [], [] => True
  | o :: U, o' :: V => o.Sh k o' ∧ ShAll k U V
  | _, _ => False
theorem ShAll.length {k : Nat} : ∀ {U V : List Ow}, ShAll k U V → U.length = V.length
  | [], [], _ => rfl
  | _ :: _, _ :: _, h => by simp [h.2.length]
  | [], _ :: _, h => h.elim
  | _ :: _, [], h => h.elim
theorem ShAll.get {k : Nat} : ∀ {U V : List Ow} (i : Nat), ShAll k U V → ∀ {o}, U[i]? = some o → ∃ o', V[i]? = some o' ∧ o.Sh k o'
  | [], [], i, _, o, h => by simp at h
  | a :: U, b :: V, 0, hs, o, h => by simp at h; subst h; exact ⟨b, rfl, hs.1⟩
  | a :: U, b :: V, i + 1, hs, o, h => by simpa using ShAll.get i hs.2 (by simpa using h)
  | [], _ :: _, _, h, _, _ => h.elim
  | _ :: _, [], _, h, _, _ => h.elim
theorem ShAll.get' {k : Nat} : ∀ {U V : List Ow} (i : Nat), ShAll k U V → ∀ {o}, V[i]? = some o → ∃ o', U[i]? = some o' ∧ o'.Sh k o
  | [], [], i, _, o, h => by simp at h
  | a :: U, b :: V, 0, hs, o, h => by simp at h; subst h; exact ⟨a, rfl, hs.1⟩
  | a :: U, b :: V, i + 1, hs, o, h => by simpa using ShAll.get' i hs.2 (by simpa using h)
  | [], _ :: _, _, h, _, _ => h.elim
  | _ :: _, [], _, h, _, _ => h.elim
section
variable {P : Program} {w0 : World} {G : Gs} {N : Nat} {c : Code} {fn : Func} {R : Ending → World → Prop}
theorem calls_objs_satq {fid : FuncId} {w : World} {gs : List Nat} {U : List Ow} (avs : List AV) (args : List Value) (hf : P.funcs[fid]? = some fn) (hN : fn.ntmps = N) (hb : fn.body = some c) (hle : args.length ≤ N) (hU : ObjsAt w gs U) (hargs : avdenL (envOf gs) avs args)
    (h : SatQ P w ⟨gs, []⟩ ⟨N, []⟩ c (argFr avs 0) U (bodyPostM Fence.wide 10 P fn R)) : Calls P fid args.toArray w R := by
  refine callsIn_wide.1 (callsIn_of_wp_marks (n := 10) hf hb trivial (h.out _ w ⟨envOf gs, rel_objs hU, fun i => ?_, by simp; omega, rfl⟩))
  refine argFr_get (r := envOf gs) avs args 0 hargs (fun j u hj => ?_) i
  rw [Nat.zero_add, Array.getD_eq_getD_getElem?, Array.getElem?_append_left (by simp; rcases Nat.lt_or_ge j args.length with h1 | h1; exact h1; rw [List.getElem?_eq_none h1] at hj; cases hj)]
  have : args.toArray[j]? = some u := by simpa using hj
  rw [this]; rfl
theorem calls_objs {fid : FuncId} {w : World} {gs : List Nat} {U : List Ow} (avs : List AV) (args : List Value) (hf : P.funcs[fid]? = some fn) (hN : fn.ntmps = N) (hb : fn.body = some c) (hle : args.length ≤ N) (hU : ObjsAt w gs U) (hargs : avdenL (envOf gs) avs args)
    (h : vc none P w ⟨gs, []⟩ ⟨N, []⟩ c (argFr avs 0) U (RetK P w ⟨gs, []⟩ fn.results.toList R)) : Calls P fid args.toArray w R :=
  calls_vc hf hN hb (rel_objs hU) hargs hle h
theorem Rel.growns {gs : List Nat} {S : List Ow} {r : Env} {w : World} (h : Rel w0 ⟨gs, []⟩ S r w) : GrownBys w0 w gs :=
  ⟨h.os, h.tape, h.output, h.size, fun k hk hn => h.old k hk (by
    rintro (h1 | h1)
    · exact hn h1
    · cases h1)⟩
theorem Rel.objs {gs : List Nat} {S U : List Ow} {r : Env} {w : World} (h : Rel w0 ⟨gs, []⟩ S r w) (hlen : U.length = gs.length) (hU : ∀ (i : Nat) (o : Ow), U[i]? = some o → S[i]? = some o) (hob : ObAll gs.length U) : ObjsAt w gs U := by
  have hblk : ∀ i b, gs[i]? = some b → r.blk i = some b := fun i b hb => h.first i b hb
  refine ⟨hlen, fun i j b hi hj => h.inj i j b (hblk i b hi) (hblk j b hj), fun g hg => ?_, fun i o ho => ?_⟩
  · obtain ⟨i, hi⟩ := List.getElem?_of_mem hg
    exact (h.new i g (hblk i g hi)).1
  · have hio := h.own i o (hU i o ho)
    have hb := hob o (List.mem_of_getElem? ho)
    cases o with
    | cells t l =>
      obtain ⟨b, us, e1, e2, e3⟩ := hio
      have hi : i < gs.length := by
        rw [← hlen]
        rcases Nat.lt_or_ge i U.length with h1 | h1
        · exact h1
        · rw [List.getElem?_eq_none h1] at ho; cases ho
      have hg : gs[i]? = some b := by
        obtain ⟨g, hg⟩ : ∃ g, gs[i]? = some g := ⟨_, List.getElem?_eq_getElem hi⟩
        have := hblk i g hg
        rw [e1] at this; injection this with this; rw [this]; exact hg
      refine ⟨b, us, hg, e2, ?_⟩
      refine denL_sh (k := 0) (n := gs.length) (r := r) (fun i b hi hb => ?_) hb ?_
      · obtain ⟨g, hg⟩ : ∃ g, gs[i]? = some g := ⟨_, List.getElem?_eq_getElem hi⟩
        have := hblk i g hg
        rw [Nat.zero_add] at hb
        rw [hb] at this; injection this with this; rw [this]; exact hg
      · have : ∀ l : List CV, l.map (CV.sh 0) = l := fun l => by
          refine (List.map_congr_left fun c _ => ?_).trans (List.map_id l)
          cases c <;> simp [CV.sh]
        rw [this]; exact e3
    | row => exact hb.elim
    | ext => exact hb.elim
    | view => exact hb.elim
    | gone => exact hb.elim
/-- The end of a function that is handed objects. -/
theorem fin_objs {gs : List Nat} {S U : List Ow} {v : AV} {x : Value} (hv : v.val = some x) (hlen : U.length = gs.length) (hU : ∀ (i : Nat) (o : Ow), U[i]? = some o → S[i]? = some o) (hob : ObAll gs.length U) (h : ∀ w, ObjsAt w gs U → GrownBys w0 w gs → R (.returned x) w) : Fin w0 ⟨gs, []⟩ S v R := by
  refine ⟨fun r w u hR hd => ?_⟩
  obtain rfl := AV.val_den hv hd
  exact h w (hR.objs hlen hU hob) hR.growns
end
/-- What the caller knows of old memory, seen by the callee. -/
def OldKeeps (w0 : World) (G : Gs) (w : World) (gs : List Nat) : Prop := ∀ b, b < w0.heap.size → b ∉ G → b < w.heap.size ∧ b ∉ gs ∧ w.heap[b]? = w0.heap[b]?
theorem OldKeeps.cells {w0 : World} {G : Gs} {w : World} {gs : List Nat} (h : OldKeeps w0 G w gs) {b off : Nat} {xs : List Value} (hc : CellsAt w0 G b off xs) : CellsAt w ⟨gs, []⟩ b off xs := by
  obtain ⟨h1, h2, h3⟩ := hc
  obtain ⟨k1, k2, k3⟩ := h b h1 h2
  refine ⟨k1, ?_, fun j u hj => ?_⟩
  · rintro (h4 | h4)
    · exact k2 h4
    · cases h4
  · have := h3 j u hj
    unfold World.cell? at this ⊢
    rw [k3]; exact this
/-- The entries from k on, put in their places. -/
def putS (S : List Ow) (k : Nat) : List Ow → List Ow
  | [] => S
  | o :: V => putS (S.set k o) (k + 1) V
theorem putS_length : ∀ (V : List Ow) (S : List Ow) (k : Nat), (putS S k V).length = S.length
  | [], S, k => rfl
  | o :: V, S, k => by simp [putS, putS_length V]
theorem putS_get : ∀ (V : List Ow) (S : List Ow) (k j : Nat), k + V.length ≤ S.length → (putS S k V)[j]? = if k ≤ j ∧ j < k + V.length then V[j - k]? else S[j]?
  | [], S, k, j, h => by rw [if_neg (by simp)]; rfl
  | o :: V, S, k, j, h => by
    simp only [List.length_cons] at h
    show (putS (S.set k o) (k + 1) V)[j]? = _
    rw [putS_get V _ (k + 1) j (by simp; omega)]
    by_cases h1 : k + 1 ≤ j ∧ j < k + 1 + V.length
    · rw [if_pos h1, if_pos (by simp only [List.length_cons]; omega), show j - k = (j - (k + 1)) + 1 by omega, List.getElem?_cons_succ]
    · rw [if_neg h1]
      by_cases h2 : j = k
      · subst h2
        rw [List.getElem?_set_self (by omega), if_pos (by simp only [List.length_cons]; omega), Nat.sub_self]; rfl
      · rw [List.getElem?_set_ne (fun e => h2 e.symm), if_neg (by simp only [List.length_cons]; omega)]
theorem avden_append {r : Env} : ∀ {l m : List AV} {us : List Value}, avdenL r (l ++ m) us → ∃ us1 us2, us = us1 ++ us2 ∧ avdenL r l us1 ∧ avdenL r m us2
  | [], m, us, h => ⟨[], us, rfl, rfl, h⟩
  | x :: l, m, us, h => by
    obtain ⟨u, l', rfl, h1, h2⟩ := h
    obtain ⟨us1, us2, rfl, h3, h4⟩ := avden_append h2
    exact ⟨u :: us1, us2, rfl, ⟨u, us1, rfl, h1, h3⟩, h4⟩
/-- A call that is handed the objects at k and behind, and turns them. -/
theorem call_objs {P : Program} {w0 : World} {G : Gs} {fid : FuncId} {S : List Ow} {K : AV → List Ow → Prop} {pre suf : List AV} {xs ys : List Value} {α : Type} (k : Nat) (U V : List Ow) (U' V' : α → List Ow) (X : α → Value) (post : α → Prop) (hpos : 0 < U.length) (hsh : ShAll k U V) (hob : ObAll U.length U) (hS : ∀ i, i < U.length → S[k + i]? = V[i]?)
    (hx : avals pre = some xs) (hy : avals suf = some ys) (hok : fnOk P fid = true) (hsh' : ∀ x, post x → ShAll k (U' x) (V' x)) (hob' : ∀ x, post x → ObAll U.length (U' x)) (hlen' : ∀ x, post x → (U' x).length = U.length)
    (h : ∀ w g gs, OldKeeps w0 G w (g :: gs) → ObjsAt w (g :: gs) U → Calls P fid (xs ++ .pointer (some ⟨g, 0, none⟩) :: ys).toArray w fun e w' => ∃ x, post x ∧ e = .returned (X x) ∧ ObjsAt w' (g :: gs) (U' x) ∧ GrownBys w w' (g :: gs))
    (hK : ∀ x, post x → K (AV.of (X x)) (putS S k (V' x))) : CallS P w0 G fid (pre ++ .p (.c (.ref k 0)) :: suf) S K := by
  refine ⟨hok, fun r w vs hR hd => ?_⟩
  have hSlen : k + U.length ≤ S.length := by
    have h1 := hS (U.length - 1) (by omega)
    obtain ⟨o', h2, _⟩ := hsh.get (U.length - 1) (List.getElem?_eq_getElem (by omega) : U[U.length - 1]? = some U[U.length - 1])
    rw [h2] at h1
    rcases Nat.lt_or_ge (k + (U.length - 1)) S.length with h3 | h3
    · omega
    · rw [List.getElem?_eq_none h3] at h1; cases h1
  have hblk : ∀ i, i < U.length → ∃ b, r.blk (k + i) = some b := fun i hi => by
    obtain ⟨o', h2, h3⟩ := hsh.get i (List.getElem?_eq_getElem hi)
    have h4 := hR.own (k + i) o' (by rw [hS i hi, h2])
    have h5 := hob _ (List.getElem_mem hi)
    cases hu : U[i] with
    | cells t l =>
      rw [hu] at h3
      cases o' with
      | cells t' l' => obtain ⟨b, us, e1, _⟩ := h4; exact ⟨b, e1⟩
      | row => exact h3.elim
      | ext => exact h3.elim
      | view => exact h3.elim
      | gone => exact h3.elim
    | row => rw [hu] at h5; exact h5.elim
    | ext => rw [hu] at h5; exact h5.elim
    | view => rw [hu] at h5; exact h5.elim
    | gone => rw [hu] at h5; exact h5.elim
  obtain ⟨gs, hgl, hgs⟩ : ∃ gs : List Nat, gs.length = U.length ∧ ∀ i, i < U.length → gs[i]? = r.blk (k + i) := by
    refine ⟨(List.range U.length).map fun i => (r.blk (k + i)).getD 0, by simp, fun i hi => ?_⟩
    obtain ⟨b, hb⟩ := hblk i hi
    rw [List.getElem?_map, List.getElem?_range hi, hb]
    simp [hb]
  have hto : ∀ i b, i < U.length → r.blk (k + i) = some b → (envOf gs).blk i = some b := fun i b hi hb => by
    show gs[i]? = some b
    rw [hgs i hi]; exact hb
  have hfrom : ∀ i b, i < U.length → (envOf gs).blk i = some b → r.blk (k + i) = some b := fun i b hi hb => by
    have hb : gs[i]? = some b := hb
    rw [hgs i hi] at hb; exact hb
  have hin : ∀ (i b : Nat), gs[i]? = some b → i < U.length ∧ r.blk (k + i) = some b := fun i b hb => by
    have hi : i < U.length := by
      rcases Nat.lt_or_ge i U.length with h1 | h1
      · exact h1
      · rw [List.getElem?_eq_none (by omega)] at hb; cases hb
    exact ⟨hi, by rw [← hgs i hi]; exact hb⟩
  have hmem : ∀ b, b ∈ gs → ∃ i, i < U.length ∧ r.blk (k + i) = some b := fun b hb => by
    obtain ⟨i, hi⟩ := List.getElem?_of_mem hb
    exact ⟨i, hin i b hi⟩
  have hU : ObjsAt w gs U := by
    refine ⟨hgl.symm, fun i j b hi hj => ?_, fun g hg => ?_, fun i o ho => ?_⟩
    · have := hR.inj _ _ b (hin i b hi).2 (hin j b hj).2
      omega
    · obtain ⟨i, _, hi⟩ := hmem g hg
      exact (hR.new _ g hi).1
    · have hi : i < U.length := by
        rcases Nat.lt_or_ge i U.length with h1 | h1
        · exact h1
        · rw [List.getElem?_eq_none h1] at ho; cases ho
      obtain ⟨o', h2, h3⟩ := hsh.get i ho
      have h4 := hR.own (k + i) o' (by rw [hS i hi, h2])
      have h5 := hob o (List.mem_of_getElem? ho)
      cases o with
      | cells t l =>
        cases o' with
        | cells t' l' =>
          obtain ⟨rfl, rfl⟩ := h3
          obtain ⟨b, us, e1, e2, e3⟩ := h4
          exact ⟨b, us, hto i b hi e1, e2, denL_sh (n := U.length) hto h5 e3⟩
        | row => exact h3.elim
        | ext => exact h3.elim
        | view => exact h3.elim
        | gone => exact h3.elim
      | row => exact h5.elim
      | ext => exact h5.elim
      | view => exact h5.elim
      | gone => exact h5.elim
  have hkeep : OldKeeps w0 G w gs := fun b hb hG => by
    refine ⟨Nat.lt_of_lt_of_le hb hR.size, fun hm => ?_, hR.old b hb hG⟩
    obtain ⟨i, _, hi⟩ := hmem b hm
    exact hG ((hR.new _ b hi).2 hb)
  cases gs with
  | nil => simp at hgl; omega
  | cons g gs =>
    obtain ⟨vs1, vs2, rfl, d1, d2⟩ := avden_append hd
    obtain rfl := avals_den hx d1
    obtain ⟨u, vs3, rfl, d3, d4⟩ := d2
    obtain rfl := avals_den hy d4
    obtain ⟨b, hb, rfl⟩ := den_ref d3
    have hbg : b = g := by
      have := hto 0 b hpos (by simpa using hb)
      have : g = b := by injection this
      exact this.symm
    subst hbg
    refine (h w b gs hkeep hU).mono fun e w' ⟨x, hp, he, hU', hg⟩ => ?_
    refine ⟨AV.of (X x), X x, _, r, he, AV.of_den r _, ?_, Env.le.refl r, hK x hp⟩
    have hVl : (V' x).length = U.length := by rw [← hlen' x hp, (hsh' x hp).length]
    have hnot : ∀ j b', r.blk j = some b' → ¬ (k ≤ j ∧ j < k + U.length) → b' ∉ (b :: gs) := fun j b' hj hno hm => by
      obtain ⟨i, hi, hbi⟩ := hmem b' hm
      have := hR.inj _ _ b' hj hbi
      omega
    refine ⟨hg.os.trans hR.os, hg.tape.trans hR.tape, hg.output.trans hR.output, Nat.le_trans hR.size hg.size, fun j hj hjG => ?_, fun j o hj => ?_, hR.inj, fun j b' hb' => ⟨Nat.lt_of_lt_of_le (hR.new j b' hb').1 hg.size, (hR.new j b' hb').2⟩,
      fun j hj => hR.outB j (by rwa [putS_length] at hj), fun j hj => hR.outV j (by rwa [putS_length] at hj), hR.first⟩
    · obtain ⟨k1, k2, k3⟩ := hkeep j hj hjG
      rw [hg.block j k1 k2]; exact k3
    · rw [putS_get _ _ _ _ (by rw [hVl]; exact hSlen), hVl] at hj
      by_cases hr : k ≤ j ∧ j < k + U.length
      · rw [if_pos hr] at hj
        obtain ⟨o', h2, h3⟩ := (hsh' x hp).get' (j - k) hj
        have h4 := hU'.own (j - k) o' h2
        have h5 := hob' x hp o' (List.mem_of_getElem? h2)
        cases o' with
        | cells t l =>
          cases o with
          | cells t' l' =>
            obtain ⟨rfl, rfl⟩ := h3
            obtain ⟨c, us, e1, e2, e3⟩ := h4
            refine ⟨c, us, ?_, e2, sh_denL (n := U.length) hfrom h5 e3⟩
            have := hfrom (j - k) c (by omega) e1
            rwa [show k + (j - k) = j by omega] at this
          | row => exact h3.elim
          | ext => exact h3.elim
          | view => exact h3.elim
          | gone => exact h3.elim
        | row => exact h5.elim
        | ext => exact h5.elim
        | view => exact h5.elim
        | gone => exact h5.elim
      · rw [if_neg hr] at hj
        refine Ow.holds_block (hR.own j o hj) (fun b' hb' => hg.block b' (hR.new j b' hb').1 (hnot j b' hb' hr)) hg.size fun b' hb' hno => hg.block b' hb' fun hm => ?_
        obtain ⟨i, _, hi⟩ := hmem b' hm
        exact hno _ hi
end Go.Proofs.Ytmjfgnnefcimiaa
namespace Go.Proofs.Ytmjfgnnefcimiaa
open Go.RowKit

def rightsI (q : Int) : Int := if (bits .and .i64 q 3 != 0) = true then 7 else bits .and .i64 (q.fdiv 4) 7
theorem rights_walk (q : Int) (w : World) : Calls Try.prog 64 #[.int .i64 q] w fun e w' => e = .returned (.int .i64 (rightsI q)) ∧ Below w.heap.size w w' := by
  refine calls_val [.int .i64 q] Try.func64 Try.ntmps64 rfl (by simp) ?_
  conv => whnf
  refine ⟨_, rfl, ?_⟩
  conv => whnf
  refine ⟨fun hc => ?_, fun hc => ?_⟩
  · conv => whnf
    exact fin_val rfl fun w' hB => ⟨by unfold rightsI; rw [if_pos hc], hB⟩
  · conv => whnf
    refine ⟨by decide, q.fdiv 4, rfl, ?_⟩
    conv => whnf
    refine ⟨_, rfl, ?_⟩
    conv => whnf
    exact fin_val rfl fun w' hB => ⟨by unfold rightsI; rw [if_neg (by rw [hc]; decide)], hB⟩
theorem and_seven (x : Int) : 0 ≤ bits .and .i64 x 7 ∧ bits .and .i64 x 7 ≤ 7 := by
  have h : (BitVec.ofInt 64 x &&& BitVec.ofInt 64 7).toNat ≤ 7 := by
    rw [BitVec.toNat_and]
    exact Nat.le_trans Nat.and_le_right (by decide)
  have e : bits .and .i64 x 7 = IntKind.i64.wrap ((BitVec.ofInt 64 x &&& BitVec.ofInt 64 7).toNat : Int) := rfl
  rw [e, wr64 (by omega)]
  omega
theorem rightsI_lt (q : Int) : 0 ≤ rightsI q ∧ rightsI q < 8 := by
  unfold rightsI
  split
  · omega
  · have := and_seven (q.fdiv 4); omega
end Go.Proofs.Ytmjfgnnefcimiaa
namespace Go.Proofs.Ytmjfgnnefcimiaa
open Go.RowKit

/-- What the check of the result knows, next to that of the block. -/
structure CkSim (s s' : Ck) : Prop where
  marks : s'.marks = s.marks
  known : ∀ v, readB s v = true → readB s' v = true
  ch : s'.changed = true → s.changed = true
theorem formed_split {o : BOp} : formedB o = true ↔ isOp o.code = true ∧ fieldB (hasD o.code) o.d = true ∧ fieldB (hasA o.code) o.a = true ∧ fieldB (hasB o.code) o.b = true ∧ (hasN o.code || o.n == 0) = true := by
  unfold formedB
  simp only [Bool.and_eq_true]
  constructor
  · rintro ⟨⟨⟨⟨h1, h2⟩, h3⟩, h4⟩, h5⟩; exact ⟨h1, h2, h3, h4, h5⟩
  · rintro ⟨h1, h2, h3, h4, h5⟩; exact ⟨⟨⟨⟨h1, h2⟩, h3⟩, h4⟩, h5⟩
/-! Dead. -/
structure DeadSim (s s' : Ck) (r : List BOp) : Prop where
  marks : s'.marks = s.marks
  known : ∀ v, liveAtL r v = true → readB s v = true → readB s' v = true
  ch : s'.changed = true → s.changed = true
/-! The result of Opt. -/
end Go.Proofs.Ytmjfgnnefcimiaa
namespace Go.Proofs.Ytmjfgnnefcimiaa
open Go.RowKit

/-- The search for the last writing operation, under way. -/
structure CpAtSt (l : List BOp) (i : Nat) (v : Int) where
  m : Nat
  mq : Bool
  hm : m ≤ i
  h : copyR (l.take i).reverse v = copyF mq (l.take m).reverse ((l.take i).drop m) v
end Go.Proofs.Ytmjfgnnefcimiaa
