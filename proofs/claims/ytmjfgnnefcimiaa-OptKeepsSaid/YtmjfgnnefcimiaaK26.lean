/- Walks: the law's own block. Walks: the maker of blocks: take, word, source. Drawn regions in whatever order, over states that are known part by part: some operations are taken first, for the others each order is gone through. Functions that turn one block of their caller's and hand back a new row; walks cut in two. Walks: the passes: Dead. Walks: the maker of blocks: an instruction. -/
import Derived.Test.YtmjfgnnefcimiaaK1
import Derived.Test.YtmjfgnnefcimiaaK12
import Derived.Test.YtmjfgnnefcimiaaK13
import Derived.Test.YtmjfgnnefcimiaaK14
import Derived.Test.YtmjfgnnefcimiaaK15
import Derived.Test.YtmjfgnnefcimiaaK16
import Derived.Test.YtmjfgnnefcimiaaK17
import Derived.Test.YtmjfgnnefcimiaaK19
import Derived.Test.YtmjfgnnefcimiaaK2
import Derived.Test.YtmjfgnnefcimiaaK20
import Derived.Test.YtmjfgnnefcimiaaK21
import Derived.Test.YtmjfgnnefcimiaaK22
import Derived.Test.YtmjfgnnefcimiaaK23
import Derived.Test.YtmjfgnnefcimiaaK24
import Derived.Test.YtmjfgnnefcimiaaK3
import Derived.Test.YtmjfgnnefcimiaaK5
import Derived.Test.YtmjfgnnefcimiaaK6
namespace Go.Proofs.Ytmjfgnnefcimiaa
open Go.RowKit

def blockOps (l : List BOp) : List BOp := ⟨20, 0, 0, 0, 0⟩ :: l ++ [⟨24, 0, 0, 0, 4⟩]
set_option maxRecDepth 100000 in
theorem block_law (l : List BOp) (A : Option Addr) (c : Nat) (w : World) (hl : OpsAt w w.heap.size A l) (hn : l.length ≤ 1000) :
    Calls Try.prog 34 #[.slice A l.length c] w fun e w' => ∃ A1 A3 c3, e = .returned (.agg #[.slice A1 1 1, .slice none 0 0, .slice A3 (blockOps l).length c3]) ∧ SlAt w' w'.heap.size A1 [.int .u32 0] ∧ OpsAt w' w'.heap.size A3 (blockOps l) ∧ (blockOps l).length ≤ c3 ∧ c3 ≤ maxLen ∧ Fresh w.heap.size A1 ∧ Fresh w.heap.size A3 ∧ Below w.heap.size w w' := by
  refine calls_val [.slice A l.length c] Try.func34 Try.ntmps34 rfl (by simp) ?_
  conv => whnf
  refine opS_ent (ent_slrow (xs := opC ⟨20, 0, 0, 0, 0⟩) (f' := [(6, one (.slice A l.length c)), (2, .p (.c (.ref 0 0)))]) 1 5 5 1 rfl rfl rfl (by decide) (aI rfl (aI rfl trivial)) rfl rfl) ?_
  refine appK_sound rfl ?_ rfl
  conv => whnf
  refine ⟨l.flatMap opC, fun j u hj => by
    obtain ⟨b, off, e1, e2, e3⟩ := hl j u hj
    exact ⟨b, off, e1, e2, by simp, e3⟩, ops_length l, fun u hu => by
    obtain ⟨o, _, ho⟩ := List.mem_flatMap.1 hu
    exact opC_one u ho, by omega, ?_⟩
  conv => whnf
  refine appK_sound rfl ?_ rfl
  conv => whnf
  refine ⟨by omega, ?_⟩
  conv => whnf
  refine ⟨fun r w' u hR hd => ?_⟩
  obtain ⟨us, rfl, hl'⟩ := den_agg hd
  simp only [denL] at hl'
  obtain ⟨u1, l1, rfl, d1, u2, l2, rfl, d2, u3, l3, rfl, d3, rfl⟩ := hl'
  have d1 : CV.den r (.sl 2 0 1 1) u1 := d1
  simp only [CV.den] at d1 d2 d3
  obtain ⟨b1, hb1, rfl⟩ := d1
  subst d2
  obtain ⟨A3, c3, rfl, hs, hc, hm⟩ := hR.rowAt (i := 1) rfl d3
  obtain ⟨b1', us, e1, e2, e3⟩ := hR.own 2 (.cells 24 [.v (.int .u32 0)]) rfl
  rw [hb1] at e1; injection e1 with e1; subst e1
  obtain rfl := denL_vals_inv (us := [.int .u32 0]) e3
  have hlen : (blockOps l).length = 1 + l.length + 1 := by simp [blockOps]; omega
  rw [hlen]
  refine ⟨some ⟨b1, 0, none⟩, A3, c3, rfl, fun j u hj => ⟨b1, 0, rfl, (hR.new 2 b1 hb1).1, by simp [World.cell?, e2, hj]⟩, ?_, hc, hm, fun b off sp hA => ?_, fun b off sp hA => ?_, hR.toBelow⟩
  case refine_2 =>
    injection hA with hA; injection hA with hA; subst hA
    rcases Nat.lt_or_ge b1 w.heap.size with h1 | h1
    · have := (hR.new 2 b1 hb1).2 h1; simp at this
    · exact h1
  case refine_3 =>
    subst hA
    obtain ⟨v, hv, hob, _⟩ := hR.own 1 _ rfl
    rw [d3] at hv; injection hv with hv; subst hv
    have hb : r.blk 1 = some b := by rw [← hob]; rfl
    rcases Nat.lt_or_ge b w.heap.size with h1 | h1
    · have := (hR.new 1 b hb).2 h1; simp at this
    · exact h1
  have e : (blockOps l).flatMap opC = opC ⟨20, 0, 0, 0, 0⟩ ++ l.flatMap opC ++ opC ⟨24, 0, 0, 0, 4⟩ := by simp [blockOps]
  unfold OpsAt
  rw [e]
  exact hs
theorem view_holds {r : Env} {w w' : World} {i n : Nat} {A : Option Addr} {c : Nat} {xs : List Value} {φ : Option Addr → Prop} (hv : r.val i = some (.slice A n c)) (hb : r.blk i = none) (hs : SlAt w' w'.heap.size A xs) (hn : n ≤ c) (hc : c ≤ maxLen) (hφ : φ A) (hf : Fresh w.heap.size A) (hr : ∀ k b, r.blk k = some b → b < w.heap.size) : (Ow.view φ n xs).holds r w' i :=
  ⟨A, c, hv, hn, ⟨hc, hφ⟩, hb, fun j u hj => by
    obtain ⟨b, off, e1, e2, e3⟩ := hs j u hj
    exact ⟨b, off, e1, e2, fun k hk => by have := hr k b hk; have := hf b off none e1; omega, e3⟩⟩
def viewT (_ : Option Addr) : Prop := True
theorem call_block {w0 : World} {G : Gs} {S : List Ow} {K : AV → List Ow → Prop} (i n : Nat) (l : List BOp) (hi : S[i]? = some (.cells 53 ((l.flatMap opC).map .v))) (hl : l.length = n) (hn : n ≤ 1000)
    (hK : K (.p (.agg [.row S.length, .v (.slice none 0 0), .row (S.length + 1)])) (S ++ [.view viewT 1 [.int .u32 0]] ++ [.view viewT (blockOps l).length ((blockOps l).flatMap opC)])) : CallS Try.prog w0 G 34 [.p (.c (.sl i 0 n n))] S K := by
  refine ⟨by kernel_rfl, fun r w us hR hd => ?_⟩
  obtain ⟨u1, l1, rfl, d1, d2⟩ := hd
  obtain rfl : l1 = [] := d2
  obtain ⟨b, hb, rfl⟩ := den_sl d1
  obtain ⟨b', us, e1, e2, e3⟩ := hR.own i _ hi
  rw [hb] at e1; injection e1 with e1; subst e1
  obtain rfl := denL_vals_inv e3
  subst hl
  refine (block_law l (some ⟨b, 0, none⟩) l.length w (fun j u hj => ⟨b, 0, rfl, (hR.new i b hb).1, by simp [World.cell?, e2, hj]⟩) hn).mono fun e w' ⟨A1, A3, c3, he, h1, h3, hc, hm, f1, f3, hB⟩ => ?_
  have hr1 : ∀ k x, (r.set S.length none (some (.slice A1 1 1))).blk k = some x → x < w.heap.size := fun k x hk => by
    simp only [Env.set] at hk
    split at hk
    · cases hk
    · exact (hR.new k x hk).1
  have hR1 := hR.snoc (o := .view viewT 1 [.int .u32 0]) hB (b := none) (v := some (.slice A1 1 1)) nofun (view_holds (w := w) (by simp [Env.set]) (by simp [Env.set]) h1 (Nat.le_refl _) (by decide) trivial f1 hr1)
  have hle1 := hR.le_new none (some (.slice A1 1 1))
  have hR2 := hR1.snoc (o := .view viewT (blockOps l).length ((blockOps l).flatMap opC)) (Below.refl _ _) (b := none) (v := some (.slice A3 (blockOps l).length c3)) nofun (view_holds (w := w) (by simp [Env.set]) (by simp [Env.set]) h3 hc hm trivial f3 (fun k x hk => by
    simp only [Env.set] at hk
    split at hk
    · cases hk
    · exact hr1 k x (by simpa only [Env.set] using hk)))
  have hle2 := hR1.le_new none (some (.slice A3 (blockOps l).length c3))
  refine ⟨.p (.agg [.row S.length, .v (.slice none 0 0), .row (S.length + 1)]), _, _, _, he, ⟨[.slice A1 1 1, .slice none 0 0, .slice A3 (blockOps l).length c3], rfl, ?_⟩, hR2, hle1.trans hle2, hK⟩
  simp only [denL, CV.den]
  exact ⟨_, _, rfl, by simp [Env.set], _, _, rfl, rfl, _, _, rfl, by simp [Env.set], rfl⟩
end Go.Proofs.Ytmjfgnnefcimiaa
namespace Go.Proofs.Ytmjfgnnefcimiaa
open Go.RowKit

theorem take_range {x n : Int} (h0 : 0 < n) : 0 ≤ (x.tmod n + n).tmod n ∧ (x.tmod n + n).tmod n < n := by
  have h1 : -n < x.tmod n := by
    have := Int.lt_tmod_of_pos x h0
    omega
  have h3 : 0 ≤ x.tmod n + n := by omega
  exact ⟨Int.tmod_nonneg _ h3, Int.tmod_lt_of_pos _ h0⟩
/-- The maker's cells: the numbers, and how many have been taken. -/
abbrev mkC (A : Option Addr) (m c : Nat) (k : Int) : List Value := [.slice A m c, .int .i64 k]
set_option maxRecDepth 100000 in
theorem take_walk (A : Option Addr) (m c : Nat) (xs : List Int) (k n : Int) (g : Nat) (w : World) (hs : SlOld w ⟨[g], []⟩ A (xs.map (.int .i64))) (hl : xs.length = m) (_hm : m ≤ 1000000) (hk : 0 ≤ k ∧ k < 1000000) (hn : 0 < n ∧ n ≤ 65536)
    (hg : w.heap[g]? = some (.cells (mkC A m c k).toArray 124 (0, 0))) :
    Calls Try.prog 92 #[.pointer (some ⟨g, 0, none⟩), .int .i64 n] w fun e w' => ∃ x us', ((∃ z, x = .int .i64 z ∧ 0 ≤ z ∧ z < n) ∧ us' = mkC A m c (k + 1)) ∧ e = .returned x ∧ w'.heap[g]? = some (.cells us'.toArray 124 (0, 0)) ∧ w.grownBy w' (some g) := by
  have key : ∀ (x : Int) (w' : World), w'.heap[g]? = some (.cells (mkC A m c (k + 1)).toArray 124 (0, 0)) → w.grownBy w' (some g) → ∃ y us', ((∃ z, y = .int .i64 z ∧ 0 ≤ z ∧ z < n) ∧ us' = mkC A m c (k + 1)) ∧ Ending.returned (.int .i64 ((x.tmod n + n).tmod n)) = .returned y ∧ w'.heap[g]? = some (.cells us'.toArray 124 (0, 0)) ∧ w.grownBy w' (some g) :=
    fun x w' h1 h2 => ⟨_, _, ⟨⟨_, rfl, take_range hn.1⟩, rfl⟩, rfl, h1, h2⟩
  have hmod : ∀ x : Int, -9223372036854775808 ≤ x.tmod n + n ∧ x.tmod n + n < 9223372036854775808 := fun x => by
    have h1 : -n < x.tmod n := by have := Int.lt_tmod_of_pos x hn.1; omega
    have h2 := Int.tmod_lt_of_pos x hn.1
    omega
  refine calls_own [.int .i64 n] Try.func92 Try.ntmps92 rfl (by simp) hg ?_
  conv => whnf
  refine sat_quiet mixed (by kernel_rfl) ?_
  conv => whnf
  refine ⟨fun ht => ?_, fun ht => ?_⟩
  · have hlt : k < (m : Int) := by simpa using ht
    obtain ⟨x, hx⟩ : ∃ x, xs[k.toNat]? = some x := ⟨_, List.getElem?_eq_getElem (by omega)⟩
    obtain ⟨b, off, rfl, hb, hG, hc⟩ := hs k.toNat (.int .i64 x) (by rw [List.getElem?_map, hx]; rfl)
    conv => whnf
    refine sat_quiet mixed (by kernel_rfl) ?_
    conv => whnf
    refine ⟨⟨by omega, by omega⟩, ?_⟩
    conv => whnf
    refine ⟨.int .i64 x, cells_one hb hG (by rw [show off + k.toNat * tsz Try.prog 3 = off + k.toNat from congrArg (off + ·) (Nat.mul_one _)]; exact hc), ?_⟩
    conv => whnf
    refine ⟨k + 1, wr64 (by omega), ?_⟩
    conv => whnf
    refine ⟨by omega, _, rfl, ?_⟩
    conv => whnf
    refine ⟨_, wr64 (hmod x), ?_⟩
    conv => whnf
    refine ⟨by omega, _, rfl, ?_⟩
    conv => whnf
    exact fin_own (us := mkC (some ⟨b, off, none⟩) m c (k + 1)) rfl rfl (key x)
  · conv => whnf
    refine ⟨k + 1, wr64 (by omega), ?_⟩
    conv => whnf
    refine ⟨by omega, _, rfl, ?_⟩
    conv => whnf
    refine ⟨_, wr64 (hmod 0), ?_⟩
    conv => whnf
    refine ⟨by omega, _, rfl, ?_⟩
    conv => whnf
    exact fin_own (us := mkC A m c (k + 1)) rfl rfl (key 0)
/-- A call of take by one that owns the maker. -/
theorem call_take {w0 : World} {G : Gs} {S : List Ow} {K : AV → List Ow → Prop} (i : Nat) {A : Option Addr} {m c : Nat} {xs : List Int} {k n : Int} (hi : S[i]? = some (.cells 124 ((mkC A m c k).map .v))) (hs : SlOld w0 G A (xs.map (.int .i64))) (hl : xs.length = m) (hm : m ≤ 1000000) (hk : 0 ≤ k ∧ k < 1000000) (hn : 0 < n ∧ n ≤ 65536)
    (hK : ∀ z, 0 ≤ z → z < n → K (one (.int .i64 z)) (S.set i (.cells 124 ((mkC A m c (k + 1)).map .v)))) : CallS Try.prog w0 G 92 [.p (.c (.ref i 0)), one (.int .i64 n)] S K := by
  refine call_own (fun x us' => (∃ z, x = .int .i64 z ∧ 0 ≤ z ∧ z < n) ∧ us' = mkC A m c (k + 1)) i hi (xs := [.int .i64 n]) rfl (by kernel_rfl) (fun w g ho hg => take_walk A m c xs k n g w (ho A _ hs) hl hm hk hn hg) ?_
  rintro x us' ⟨⟨z, rfl, h0, h1⟩, rfl⟩
  exact hK z h0 h1
set_option maxRecDepth 100000 in
theorem word_walk (A : Option Addr) (m c : Nat) (xs : List Int) (k : Int) (g : Nat) (w : World) (hs : SlOld w ⟨[g], []⟩ A (xs.map (.int .i64))) (hl : xs.length = m) (hm : m ≤ 1000000) (hk : 0 ≤ k ∧ k < 999990)
    (hg : w.heap[g]? = some (.cells (mkC A m c k).toArray 124 (0, 0))) :
    Calls Try.prog 101 #[.pointer (some ⟨g, 0, none⟩)] w fun e w' => ∃ x us', ((∃ z, x = .int .u32 z ∧ word z) ∧ us' = mkC A m c (k + 2)) ∧ e = .returned x ∧ w'.heap[g]? = some (.cells us'.toArray 124 (0, 0)) ∧ w.grownBy w' (some g) := by
  have key : ∀ (x : Int) (w' : World), word x → w'.heap[g]? = some (.cells (mkC A m c (k + 1 + 1)).toArray 124 (0, 0)) → w.grownBy w' (some g) → ∃ y us', ((∃ z, y = .int .u32 z ∧ word z) ∧ us' = mkC A m c (k + 2)) ∧ Ending.returned (.int .u32 x) = .returned y ∧ w'.heap[g]? = some (.cells us'.toArray 124 (0, 0)) ∧ w.grownBy w' (some g) :=
    fun x w' h0 h1 h2 => ⟨_, _, ⟨⟨_, rfl, h0⟩, rfl⟩, rfl, by rw [show k + 2 = k + 1 + 1 by omega]; exact h1, h2⟩
  refine calls_own [] Try.func101 Try.ntmps101 rfl (by simp) hg ?_
  conv => whnf
  refine call_take 0 rfl hs hl hm (by omega) (by omega) fun z z0 z1 => ?_
  conv => whnf
  refine ⟨z, by rw [wr32]; omega, ?_⟩
  conv => whnf
  refine call_take 0 rfl hs hl hm (by omega) (by omega) fun y y0 y1 => ?_
  conv => whnf
  refine ⟨fun _ => ?_, fun _ => ?_⟩
  · conv => whnf
    refine ⟨by omega, _, rfl, ?_⟩
    conv => whnf
    exact fin_own (us := mkC A m c (k + 1 + 1)) rfl rfl fun w' h1 h2 => key _ w' (by rw [Int.tmod_eq_emod_of_nonneg z0]; unfold word; omega) h1 h2
  conv => whnf
  refine ⟨fun _ => ?_, fun _ => ?_⟩
  · conv => whnf
    refine ⟨by omega, _, rfl, ?_⟩
    conv => whnf
    refine ⟨_, wr32 _, ?_⟩
    conv => whnf
    exact fin_own (us := mkC A m c (k + 1 + 1)) rfl rfl fun w' h1 h2 => key _ w' (word_mod _) h1 h2
  conv => whnf
  refine ⟨fun _ => ?_, fun _ => ?_⟩
  · conv => whnf
    refine ⟨_, wr32 _, ?_⟩
    conv => whnf
    exact fin_own (us := mkC A m c (k + 1 + 1)) rfl rfl fun w' h1 h2 => key _ w' (word_mod _) h1 h2
  conv => whnf
  refine ⟨by omega, _, rfl, ?_⟩
  conv => whnf
  exact fin_own (us := mkC A m c (k + 1 + 1)) rfl rfl fun w' h1 h2 => key _ w' (by rw [Int.tmod_eq_emod_of_nonneg z0]; unfold word; omega) h1 h2
theorem call_word {w0 : World} {G : Gs} {S : List Ow} {K : AV → List Ow → Prop} (i : Nat) {A : Option Addr} {m c : Nat} {xs : List Int} {k : Int} (hi : S[i]? = some (.cells 124 ((mkC A m c k).map .v))) (hs : SlOld w0 G A (xs.map (.int .i64))) (hl : xs.length = m) (hm : m ≤ 1000000) (hk : 0 ≤ k ∧ k < 999990)
    (hK : ∀ z, word z → K (one (.int .u32 z)) (S.set i (.cells 124 ((mkC A m c (k + 2)).map .v)))) : CallS Try.prog w0 G 101 [.p (.c (.ref i 0))] S K := by
  refine call_own (fun x us' => (∃ z, x = .int .u32 z ∧ word z) ∧ us' = mkC A m c (k + 2)) i hi (xs := []) rfl (by kernel_rfl) (fun w g ho hg => word_walk A m c xs k g w (ho A _ hs) hl hm hk hg) ?_
  rintro x us' ⟨⟨z, rfl, h0⟩, rfl⟩
  exact hK z h0
/-- The temporaries that have been written, as bits from 20 on, as the maker keeps them. -/
abbrev wrC (W : Nat) : List Value := [.bool (W.testBit 20), .bool (W.testBit 21), .bool (W.testBit 22), .bool (W.testBit 23), .bool (W.testBit 24), .bool (W.testBit 25), .bool (W.testBit 26), .bool (W.testBit 27)]
theorem wrC_at (W : Nat) {t : Nat} (h : t < 8) : (wrC W)[t]? = some (.bool (W.testBit (20 + t))) := by
  rcases t with _ | _ | _ | _ | _ | _ | _ | _ | t <;> first | rfl | omega

set_option maxRecDepth 100000 in
theorem source_walk (A : Option Addr) (m c : Nat) (xs : List Int) (k : Int) (W : Nat) (g : Nat) (w : World) (hs : SlOld w ⟨[g], []⟩ A (xs.map (.int .i64))) (hl : xs.length = m) (hm : m ≤ 1000000) (hk : 0 ≤ k ∧ k < 999990)
    (hg : w.heap[g]? = some (.cells (mkC A m c k).toArray 124 (0, 0))) :
    Calls Try.prog 100 #[.pointer (some ⟨g, 0, none⟩), .agg (wrC W).toArray] w fun e w' => ∃ x us', ((∃ z, x = .int .i64 z ∧ srcI W z) ∧ us' = mkC A m c (k + 1)) ∧ e = .returned x ∧ w'.heap[g]? = some (.cells us'.toArray 124 (0, 0)) ∧ w.grownBy w' (some g) := by
  refine calls_own [.agg (wrC W).toArray] Try.func100 Try.ntmps100 rfl (by simp) hg ?_
  conv => whnf
  refine call_take 0 rfl hs hl hm (by omega) (by omega) fun z z0 z1 => ?_
  conv => whnf
  refine ⟨fun hz => ?_, fun hz => ?_⟩
  · have hz : z < 19 := by simpa using hz
    conv => whnf
    exact fin_own (us := mkC A m c (k + 1)) rfl rfl fun w' h1 h2 => ⟨_, _, ⟨⟨_, rfl, ⟨by omega, by omega, by omega, .inl (by omega)⟩⟩, rfl⟩, rfl, h1, h2⟩
  have hz : ¬ z < 19 := by simpa using hz
  conv => whnf
  refine ⟨z - 19, wr64 (by omega), ?_⟩
  conv => whnf
  refine ⟨⟨by omega, by omega⟩, ?_⟩
  conv => whnf
  rw [show (List.map CV.v (wrC W).toArray.toList)[0 + (z - 19).toNat * tsz Try.prog 4]? = some (.v (.bool (W.testBit (20 + (z - 19).toNat)))) by
    rw [show 0 + (z - 19).toNat * tsz Try.prog 4 = (z - 19).toNat from (Nat.zero_add _).trans (Nat.mul_one _), List.getElem?_map]
    show ((wrC W)[(z - 19).toNat]?).map CV.v = _
    rw [wrC_at W (by omega)]; rfl]
  conv => whnf
  refine ⟨fun ht => ?_, fun ht => ?_⟩
  · conv => whnf
    refine ⟨z + 1, wr64 (by omega), ?_⟩
    conv => whnf
    exact fin_own (us := mkC A m c (k + 1)) rfl rfl fun w' h1 h2 => ⟨_, _, ⟨⟨_, rfl, ⟨by omega, by omega, by omega, .inr (by rw [show (z + 1).toNat = 20 + (z - 19).toNat by omega]; exact ht)⟩⟩, rfl⟩, rfl, h1, h2⟩
  · conv => whnf
    refine ⟨z - 19, wr64 (by omega), ?_⟩
    conv => whnf
    exact fin_own (us := mkC A m c (k + 1)) rfl rfl fun w' h1 h2 => ⟨_, _, ⟨⟨_, rfl, ⟨by omega, by omega, by omega, .inl (by omega)⟩⟩, rfl⟩, rfl, h1, h2⟩
theorem call_source {w0 : World} {G : Gs} {S : List Ow} {K : AV → List Ow → Prop} (i : Nat) {A : Option Addr} {m c : Nat} {xs : List Int} {k : Int} (W : Nat) {l : List CV} (hl8 : l = (wrC W).map .v) (hi : S[i]? = some (.cells 124 ((mkC A m c k).map .v))) (hs : SlOld w0 G A (xs.map (.int .i64))) (hl : xs.length = m) (hm : m ≤ 1000000) (hk : 0 ≤ k ∧ k < 999990)
    (hK : ∀ z, srcI W z → K (one (.int .i64 z)) (S.set i (.cells 124 ((mkC A m c (k + 1)).map .v)))) : CallS Try.prog w0 G 100 [.p (.c (.ref i 0)), .p (.agg l)] S K := by
  subst hl8
  refine call_own (fun x us' => (∃ z, x = .int .i64 z ∧ srcI W z) ∧ us' = mkC A m c (k + 1)) i hi (xs := [.agg (wrC W).toArray]) rfl (by kernel_rfl) (fun w g ho hg => source_walk A m c xs k W g w (ho A _ hs) hl hm hk hg) ?_
  rintro x us' ⟨⟨z, rfl, h0⟩, rfl⟩
  exact hK z h0
end Go.Proofs.Ytmjfgnnefcimiaa
namespace Go.Proofs.Ytmjfgnnefcimiaa
open Go.RowKit
/-- How the orders are gone through: all have come; number i is taken first; number i comes up, or else what follows; nothing else comes up. -/
inductive Tr where
  | done
  | q (i : Nat) (t : Tr)
  | alt (i : Nat) (t more : Tr)
  | no
def Tr.alts : Tr → List Nat
  | .alt i _ more => i :: more.alts
  | _ => []
def Tr.depth : Tr → Nat
  | .done => 0
  | .no => 0
  | .q _ t => t.depth + 1
  | .alt _ t more => max (t.depth + 1) more.depth
def Tr.ok (ops : Array Oper) : Tr → Bool → Array Bool → Bool
  | .done, inner, listed => !inner && (Region.ready .any ops listed).isEmpty
  | .q i t, inner, listed => !inner && Region.free .any ops listed i && (Region.ready .any ops listed).contains i && t.ok ops false (listed.setIfInBounds i true)
  | .alt i t more, inner, listed => (inner || Region.ready .any ops listed == i :: more.alts) && t.ok ops false (listed.setIfInBounds i true) && more.ok ops true listed
  | .no, inner, _ => inner
section
variable (P : Program) (W : World) (N : Nd)
/-- What is taken first: it yields the same whatever comes before it. -/
def firstK (f : Fr) (T : List Ow) (o : Oper) (K : AV → Prop) : Prop :=
  match o.op with
  | .move x => forceAV (f.ev x) K
  | .assign x => forceAV (f.ev x) K
  | .fieldAddr s x k => (match f.ev x with
    | .p (.c (.ref i off)) => (match fldOff P s k with | some n => K (.p (.c (.ref i (off + n)))) | none => False)
    | _ => (match opTy P o.op with | true => qop P W Gs.nil [] (plainF f) o K | false => False))
  | .build t parts => buildK P T f t parts K
  | _ => (match opTy P o.op with | true => qop P W Gs.nil [] (plainF f) o K | false => False)
def trK (ops : Array Oper) (l : List Oper) : Tr → Fr → List Ow → (Fr → List Ow → Prop) → Prop
  | .done, f, T, K => K f T
  | .no, _, _, _ => True
  | .q i t, f, T, K => (match l[i]? with
    | none => False
    | some o => (match dstOk N.n o.dst with
      | false => False
      | true => (match guardOf ops f o with
        | some true => firstK P W f T o fun v => f.putK o.dst v fun f' => trK ops l t f' T K
        | some false => f.putK o.dst (.p (.c .any)) fun f' => trK ops l t f' T K
        | none => False)))
  | .alt i t more, f, T, K => (match l[i]? with
    | none => False
    | some o => (match guardOf ops f o with
        | some true => opK P W Gs.nil N o f T fun f' T' => trK ops l t f' T' K
        | _ => False)) ∧ trK ops l more f T K
end
section
variable {P : Program} {W : World} {N : Nd} {ops : Array Oper} {l : List Oper}
theorem firstK_sound {f : Fr} {T : List Ow} {o : Oper} {K : AV → Prop} (h : firstK P W f T o K) {r : Env} {w : World} (hR : Rel W Gs.nil T r w) {a : Act} (hf : FDen r f a) :
    ∃ v u, K v ∧ v.den r u ∧ ∀ w', Below W.heap.size W w' → (execOp a.eval o).run P w' = .ok (.value u) w' := by
  have plain : (match opTy P o.op with | true => qop P W Gs.nil [] (plainF f) o K | false => False) → ∃ v u, K v ∧ v.den r u ∧ ∀ w', Below W.heap.size W w' → (execOp a.eval o).run P w' = .ok (.value u) w' := fun h => by
    split at h
    · rename_i hty
      obtain ⟨v, u, hK, hden, hrun⟩ := qop_sound h hty (rel_none W) (plain_den hf)
      exact ⟨v, u, hK, AV.den_mono ⟨(fun i b h => by cases h), (fun i b h => by cases h)⟩ _ _ hden, hrun⟩
    · exact h.elim
  unfold firstK at h
  split at h
  · rename_i x hop
    exact ⟨_, _, forceAV_iff.1 h, hf.ev x, fun w' _ => by simp [execOp, hop]⟩
  · rename_i x hop
    exact ⟨_, _, forceAV_iff.1 h, hf.ev x, fun w' _ => by simp [execOp, hop]⟩
  · rename_i s x k hop
    split at h
    · rename_i i off he
      split at h
      · rename_i n hn
        have hx := hf.ev x
        rw [he] at hx
        obtain ⟨b, hb, hu⟩ := den_ref hx
        exact ⟨_, _, h, den_mk_ref hb, fun w' _ => by simp [execOp, hop, hu, run_fieldAt hn]⟩
      · exact h.elim
    · exact plain h
  · rename_i t parts hop
    obtain ⟨v, u, hK, hd, hrun⟩ := buildK_sound hR hf h
    exact ⟨v, u, hK, hd, fun w' _ => by simp [execOp, hop, hrun w']⟩
  · exact plain h
theorem trK_sound (hl : ∀ i : Nat, l[i]? = ops[i]?) (hns : Region.noSelect ops = true) {K : Fr → List Ow → Prop} {Q : Exit → Act → World → Prop} (hQ0 : ∀ c a w, ¬ Q (.panic c) a w) (hQ : ∀ f T a w, K f T → Good W Gs.nil N f T a w → Q .normal a w) :
    ∀ (t : Tr) (inner : Bool) (listed : Array Bool) (f : Fr) (T : List Ow) (n : Nat), t.ok ops inner listed = true → t.depth ≤ n → trK P W N ops l t f T K → ∀ a w, Good W Gs.nil N f T a w →
      (inner = false → wpAnyH P .any ops Q (fun w' => Below W.heap.size W w') n listed a w) ∧
      (∀ m, n = m + 1 → ∀ i ∈ t.alts, wpOp P ops Q i (fun a' w' => Below W.heap.size W w' ∧ wpAnyH P .any ops Q (fun w' => Below W.heap.size W w') m (listed.setIfInBounds i true) a' w') a w)
  | .done, inner, listed, f, T, n, hB, _, h, a, w, hg => by
    refine ⟨fun _ => wpAnyH_done (by simp [Tr.ok] at hB; exact hB.2) (hQ f T a w h hg) _, fun m _ i hi => by cases hi⟩
  | .no, inner, listed, f, T, n, hB, _, h, a, w, hg => by
    refine ⟨fun he => ?_, fun m _ i hi => by cases hi⟩
    simp [Tr.ok] at hB; rw [hB] at he; cases he
  | .q i t, inner, listed, f, T, n, hB, hn, h, a, w, hg => by
    refine ⟨fun _ => ?_, fun m _ i hi => by cases hi⟩
    simp only [Tr.ok, Bool.and_eq_true] at hB
    obtain ⟨⟨⟨_, hB1⟩, hB2⟩, hB3⟩ := hB
    simp only [Tr.depth] at hn
    obtain ⟨n, rfl⟩ : ∃ k, n = k + 1 := ⟨n - 1, by omega⟩
    unfold trK at h
    split at h
    · exact h.elim
    · rename_i o ho
      rw [hl] at ho
      split at h
      · exact h.elim
      · rename_i hdst
        obtain ⟨r, hR, hf, hN, hd⟩ := hg
        split at h
        · rename_i hgd
          have hw := guard_wanted hf hgd
          obtain ⟨v, u, hK, hden, hrun⟩ := firstK_sound h hR hf
          have hK := putK_iff.1 hK
          refine wpAnyH_take (v := u) ho hns hB1 hB2 (fun c a w h => absurd h (hQ0 c _ w)) (.inl ⟨hw, hrun⟩) hR.toBelow ?_
          exact (trK_sound hl hns hQ0 hQ t false _ _ T n hB3 (by omega) hK _ w ⟨r, hR, hf.put hden (by rw [hN]; exact hdst), (put_size a _ _).trans hN, (put_defers a _ _).trans hd⟩).1 rfl
        · rename_i hgd
          have hw := guard_wanted hf hgd
          have hK := putK_iff.1 h
          refine wpAnyH_take (v := undef) ho hns hB1 hB2 (fun c a w h => absurd h (hQ0 c _ w)) (.inr ⟨hw, rfl⟩) hR.toBelow ?_
          exact (trK_sound hl hns hQ0 hQ t false _ _ T n hB3 (by omega) hK _ w ⟨r, hR, hf.putAny _ (by rw [hN]; exact hdst), (put_size a _ _).trans hN, (put_defers a _ _).trans hd⟩).1 rfl
        · exact h.elim
  | .alt i t more, inner, listed, f, T, n, hB, hn, h, a, w, hg => by
    simp only [Tr.ok, Bool.and_eq_true] at hB
    obtain ⟨⟨hB1, hB2⟩, hB3⟩ := hB
    simp only [Tr.depth] at hn
    unfold trK at h
    obtain ⟨h1, h2⟩ := h
    have all : ∀ m, n = m + 1 → ∀ j ∈ (Tr.alt i t more).alts, wpOp P ops Q j (fun a' w' => Below W.heap.size W w' ∧ wpAnyH P .any ops Q (fun w' => Below W.heap.size W w') m (listed.setIfInBounds j true) a' w') a w := by
      intro m hm j hj
      simp only [Tr.alts, List.mem_cons] at hj
      rcases hj with rfl | hj
      · split at h1
        · exact h1.elim
        · rename_i o ho
          rw [hl] at ho
          obtain ⟨r, hR, hf, hN, hd⟩ := hg
          split at h1
          · rename_i hgd
            have hw := guard_wanted hf hgd
            unfold wpOp
            simp only [ho, hw, if_true]
            refine .inl (se_wp ((opK_sound h1).out r a w hR hf hN hd (fun a' w' => Below W.heap.size W w' ∧ wpAnyH P .any ops Q (fun w' => Below W.heap.size W w') m (listed.setIfInBounds j true) a' w') Q fun f' T' a' w' hk hg' => ?_) fun _ _ h => h)
            refine ⟨?_, (trK_sound hl hns hQ0 hQ t false _ f' T' m hB2 (by omega) hk a' w' hg').1 rfl⟩
            obtain ⟨r', hR', _⟩ := hg'
            exact hR'.toBelow
          · exact h1.elim
      · exact (trK_sound hl hns hQ0 hQ more true listed f T n hB3 (by omega) h2 a w hg).2 m hm j hj
    refine ⟨fun he => ?_, all⟩
    obtain ⟨m, rfl⟩ : ∃ k, n = k + 1 := ⟨n - 1, by omega⟩
    have hr : Region.ready .any ops listed = (Tr.alt i t more).alts := by
      rw [he] at hB1
      simpa [Tr.alts] using hB1
    exact wpAnyH_all hr (by simp [Tr.alts]) (all m rfl)
/-- A drawn region, by the tree of its orders. -/
theorem sat_any {id : Nat} {l : List Oper} {f : Fr} {S : List Ow} {K : Exit → Fr → List Ow → Prop} (t : Tr) (hm : P.follows .mixedOrders = true) (hns : Region.noSelect l.toArray = true) (hB : (t.ok l.toArray false (Array.replicate l.toArray.size false) && Nat.ble t.depth l.length) = true)
    (h : trK P W N l.toArray l t f S (K .normal)) : Sat none P W Gs.nil N (.region id l.toArray true) f S K := by
  refine ⟨fun n a w ⟨r, hR, hf, hN, hd⟩ => wpIn_wide.2 ?_⟩
  simp only [Bool.and_eq_true] at hB
  refine Code.wp_mono (Q := fun e a w => match e with | .normal => PostK W Gs.nil N K .normal a w | _ => False) (fun e a w h => by cases e <;> first | exact h | exact h.elim) (wp_region_held (S := fun w' => Below W.heap.size W w') hm ?_)
  have := (trK_sound (P := P) (W := W) (N := N) (Q := fun e a w => match e with | .normal => PostK W Gs.nil N K .normal a w | _ => False) (fun i => by simp) hns (fun c a w h => h) (fun f T a w hk hg => ⟨f, T, hk, hg⟩) t false _ f S l.length hB.1 (Nat.le_of_ble_eq_true hB.2) h a w.drew ⟨r, hR.drew, hf, hN, hd⟩).1 rfl
  simpa using this
end
end Go.Proofs.Ytmjfgnnefcimiaa
namespace Go.Proofs.Ytmjfgnnefcimiaa
open Go.RowKit
section
variable {w0 : World} {G : Gs} {S : List Ow} {r : Env} {w : World}
/-- The block of own entry i turned, and a new entry. -/
theorem Rel.snocG (h : Rel w0 G S r w) {i g : Nat} (hi : r.blk i = some g) {w' : World} (hg : w.grownBy w' (some g)) {o1 o : Ow} {b : Option Nat} {v : Option Value} (hnb : ∀ x, b = some x → w.heap.size ≤ x ∧ x < w'.heap.size) (ho1 : o1.holds (r.set S.length b v) w' i) (ho : o.holds (r.set S.length b v) w' S.length) :
    Rel w0 G (S.set i o1 ++ [o]) (r.set S.length b v) w' := by
  have hle := h.le_new b v
  have hil := h.lt_of_blk hi
  have hlen : (S.set i o1).length = S.length := by simp
  refine ⟨hg.os.trans h.os, hg.tape.trans h.tape, hg.output.trans h.output, Nat.le_trans h.size hg.size, fun k hk hkG => ?_, fun j o' hj => ?_, fun a c x hx hy => ?_, fun a x hx => ?_, fun a ha => ?_, fun a ha => ?_, fun a x hx => hle.blk _ _ (h.first a x hx)⟩
  · rw [hg.block k (Nat.lt_of_lt_of_le hk h.size) (fun e => by injection e with e; subst e; exact hkG ((h.new i k hi).2 hk))]
    exact h.old k hk hkG
  · rcases get_snoc hj with ⟨h1, h2⟩ | ⟨h1, h2⟩
    · by_cases hij : i = j
      · subst hij
        rw [List.getElem?_set_self hil] at h2
        injection h2 with h2; subst h2; exact ho1
      · rw [List.getElem?_set_ne hij] at h2
        refine Ow.holds_block (Ow.holds_mono hle (h.own j o' h2) (by simp only [Env.set]; rw [if_neg (by omega)]) (fun k x hk => ?_)) (fun x hx => ?_) hg.size (fun x hx hno => hg.block x hx (fun e => by injection e with e; subst e; exact hno i (hle.blk _ _ hi)))
        · simp only [Env.set] at hk
          split at hk
          · exact .inr (hnb x hk).1
          · exact .inl hk
        · simp only [Env.set] at hx
          rw [if_neg (by omega)] at hx
          exact hg.block x (h.new j x hx).1 (fun e => by injection e with e; subst e; exact hij (h.inj i j _ hi hx))
    · rw [hlen] at h1
      subst h1; subst h2; exact ho
  · simp only [Env.set] at hx hy
    split at hx <;> split at hy
    · omega
    · have h1 := (hnb x hx).1
      have h2 := (h.new _ _ hy).1
      omega
    · have h1 := (hnb x hy).1
      have h2 := (h.new _ _ hx).1
      omega
    · exact h.inj _ _ _ hx hy
  · simp only [Env.set] at hx
    split at hx
    · refine ⟨(hnb x hx).2, fun hlt => ?_⟩
      have := (hnb x hx).1
      have := h.size
      omega
    · exact ⟨Nat.lt_of_lt_of_le (h.new a x hx).1 hg.size, (h.new a x hx).2⟩
  · simp only [List.length_append, hlen, List.length_cons, List.length_nil] at ha
    simp only [Env.set]; rw [if_neg (by omega)]; exact h.outB a (by omega)
  · simp only [List.length_append, hlen, List.length_cons, List.length_nil] at ha
    simp only [Env.set]; rw [if_neg (by omega)]; exact h.outV a (by omega)
end
theorem own_new {w' : World} {B : Nat} {e : TypeId} {size n : Nat} {v : Value} {ys : List Value} (hown : w'.ownsRow B e size v n ys) : ∀ x, v.ownBlock = some x → B ≤ x ∧ x < w'.heap.size := by
  intro x hx
  rcases hown.2 with ⟨h1, _⟩ | ⟨g, cap, cur, h1, hg, hh, _⟩
  · rw [h1] at hx; cases hx
  · rw [h1] at hx; simp [Value.ownBlock] at hx; subst hx
    refine ⟨hg, ?_⟩
    rcases Nat.lt_or_ge g w'.heap.size with h2 | h2
    · exact h2
    · rw [Array.getElem?_eq_none h2] at hh; cases hh
theorem call_own_row {P : Program} {w0 : World} {G : Gs} {fid : FuncId} {S : List Ow} {K : AV → List Ow → Prop} {t : TypeId} {us : List Value} {args : List AV} {xs : List Value} (ety : TypeId) (size : Nat) (post : Nat → List Value → List Value → Prop) (i : Nat) (hi : S[i]? = some (.cells t (us.map .v))) (hx : avals args = some xs) (hok : fnOk P fid = true)
    (h : ∀ w g, OldKeep w0 G w g → w.heap[g]? = some (.cells us.toArray t (0, 0)) → Calls P fid (.pointer (some ⟨g, 0, none⟩) :: xs).toArray w fun e w' => ∃ v n ys us', post n ys us' ∧ e = .returned v ∧ w'.ownsRow w.heap.size ety size v n ys ∧ w'.heap[g]? = some (.cells us'.toArray t (0, 0)) ∧ w.grownBy w' (some g))
    (hK : ∀ n ys us', post n ys us' → K (.p (.c (.row S.length))) (S.set i (.cells t (us'.map .v)) ++ [.row ety size n ys])) : CallS P w0 G fid (.p (.c (.ref i 0)) :: args) S K := by
  refine ⟨hok, fun r w vs hR hd => ?_⟩
  obtain ⟨u1, l1, rfl, d1, d2⟩ := hd
  obtain rfl := avals_den hx d2
  obtain ⟨g, hb, rfl⟩ := den_ref d1
  obtain ⟨b', us1, e1, e2, e3⟩ := hR.own i _ hi
  rw [hb] at e1; injection e1 with e1; subst e1
  obtain rfl := denL_vals_inv e3
  refine (h w g (hR.oldKeep hb) e2).mono fun e w' ⟨v, n, ys, us', hp, he, hown, hg, hgr⟩ => ?_
  exact ⟨.p (.c (.row S.length)), v, _, r.set S.length v.ownBlock (some v), he, by simp [AV.den, Pc.den, CV.den, Env.set], hR.snocG (o1 := .cells t (us'.map .v)) (o := .row ety size n ys) hb hgr (own_new hown) ⟨g, us', (hR.le_new _ _).blk _ _ hb, hg, denL_vals us'⟩ ⟨v, by simp [Env.set], by simp [Env.set], own_base hown (Nat.zero_le _)⟩, hR.le_new _ _, hK n ys us' hp⟩
theorem fin_own_row {w0 : World} {g j : Nat} {S : List Ow} {t e : TypeId} {us : List Value} {size n : Nat} {xs : List Value} {R : Ending → World → Prop} (h0 : S[0]? = some (.cells t (us.map .v))) (hj : S[j]? = some (.row e size n xs)) (hj0 : 0 < j)
    (h : ∀ w v, w.heap[g]? = some (.cells us.toArray t (0, 0)) → w0.grownBy w (some g) → w.ownsRow w0.heap.size e size v n xs → R (.returned v) w) : Fin w0 ⟨[g], []⟩ S (.p (.c (.row j))) R := by
  refine ⟨fun r w u hR hd => ?_⟩
  have hu := den_row hd
  obtain ⟨b, us', e1, e2, e3⟩ := hR.own 0 _ h0
  have hfirst := hR.first 0 g rfl
  rw [hfirst] at e1; injection e1 with e1; subst e1
  obtain rfl := denL_vals_inv e3
  obtain ⟨v, f1, f2, f3⟩ := hR.own j _ hj
  rw [hu] at f1; injection f1 with f1; subst f1
  refine h w u e2 hR.grown ⟨f3.1, ?_⟩
  rcases f3.2 with h1 | ⟨b', cap, cur, h1, _, h2⟩
  · exact .inl h1
  · refine .inr ⟨b', cap, cur, h1, ?_, h2⟩
    have hb : r.blk j = some b' := by rw [← f2, h1]; rfl
    rcases Nat.lt_or_ge b' w0.heap.size with h3 | h3
    · have h4 := (hR.new j b' hb).2 h3
      rcases h4 with h4 | h4
      · simp at h4; subst h4
        have := hR.inj 0 j _ hfirst hb
        omega
      · cases h4
    · exact h3
section
variable {P : Program} {w0 : World} {G : Gs} {N : Nat} {c d : Code} {f : Fr} {S : List Ow} {Q : Exit → Act → World → Prop} {fn : Func} {R : Ending → World → Prop}
theorem calls_own_satq {fid : FuncId} {w : World} {g : Nat} {t : TypeId} {us : List Value} (xs : List Value) (hf : P.funcs[fid]? = some fn) (hN : fn.ntmps = N) (hb : fn.body = some c) (hle : xs.length + 1 ≤ N) (hg : w.heap[g]? = some (.cells us.toArray t (0, 0)))
    (h : SatQ P w ⟨[g], []⟩ ⟨N, []⟩ c (argFr (.p (.c (.ref 0 0)) :: xs.map fun x => AV.of x) 0) [.cells t (us.map .v)] (bodyPostM Fence.wide 10 P fn R)) : Calls P fid (.pointer (some ⟨g, 0, none⟩) :: xs).toArray w R := by
  refine callsIn_wide.1 (callsIn_of_wp_marks (n := 10) hf hb trivial (h.out _ w ⟨envOne g, rel_own1 w hg, fun i => ?_, by simp; omega, rfl⟩))
  refine argFr_get (r := envOne g) (.p (.c (.ref 0 0)) :: xs.map fun x => AV.of x) (.pointer (some ⟨g, 0, none⟩) :: xs) 0 ⟨_, _, rfl, den_mk_ref (by simp [envOne]), avdenL_of xs⟩ (fun j u hj => ?_) i
  rw [Nat.zero_add, Array.getD_eq_getD_getElem?, Array.getElem?_append_left (by simp; rcases Nat.lt_or_ge j (xs.length + 1) with h1 | h1; exact h1; rw [List.getElem?_eq_none (by simpa using h1)] at hj; cases hj)]
  have : (Value.pointer (some ⟨g, 0, none⟩) :: xs).toArray[j]? = some u := by simpa using hj
  rw [this]; rfl
/-- A walk cut in two: what follows is shown once, from states of one kind. -/
theorem satq_cut {α : Type} {N : Nd} (T : α → Fr) (U : α → List Ow) (hc : vc none P w0 G N c f S fun e f S => match e with | .normal => ∃ y, Ent w0 G N f S (T y) (U y) | e => AtQ w0 G N e f S Q) (hd : ∀ y, SatQ P w0 G N d (T y) (U y) Q) : SatQ P w0 G N (.seq c d) f S Q :=
  ⟨fun a w hg => wpIn_seq (wpIn_mono ((vc_sound (ro := none) c f S _ hc).out 10 a w hg) fun e a' w' ⟨f', S', hk, hg'⟩ => by
    cases e with
    | normal => obtain ⟨y, hy⟩ := hk; exact (hd y).out a' w' (hy.out a' w' hg')
    | exit id => exact hk.out a' w' hg'
    | goto l => exact hk.out a' w' hg'
    | ret => exact hk.out a' w' hg'
    | panic ch => exact hk.out a' w' hg'
    | outgrown => exact hk.out a' w' hg')⟩
theorem satq_as {N : Nd} {f' : Fr} {S' : List Ow} (h : Ent w0 G N f S f' S') (k : SatQ P w0 G N d f' S' Q) : SatQ P w0 G N d f S Q := ⟨fun a w hg => k.out a w (h.out a w hg)⟩
end
end Go.Proofs.Ytmjfgnnefcimiaa
namespace Go.Proofs.Ytmjfgnnefcimiaa
open Go.RowKit

theorem ent_nilrow (i : Nat) {f f' : Fr} {S : List Ow} {t e : TypeId} {size : Nat} (hi : S[i]? = some (.cells t [.v (.slice none 0 0)])) (hf : FLe f f') : EntB f S f' (S.set i (.cells t [.row S.length]) ++ [.row e size 0 []]) := by
  refine ⟨fun w0 w r a hR hf1 => ?_⟩
  obtain ⟨b, us, h1, h2, h3⟩ := hR.own i _ hi
  obtain rfl := denL_vals_inv (us := [.slice none 0 0]) h3
  have hle := hR.le_new none (some (.slice none 0 0))
  have hil := hR.lt_of_blk h1
  have hR2 := hR.snoc (o := .row e size 0 []) (Below.refl _ _) (b := none) (v := some (.slice none 0 0)) nofun ⟨.slice none 0 0, by simp [Env.set], by simp [Env.set, Value.ownBlock], by simp, .inl ⟨rfl, rfl⟩⟩
  refine ⟨r.set S.length none (some (.slice none 0 0)), ?_, hf.den (hf1.mono hle), fun j b hb => ?_⟩
  · have := rel_setSame hR2 (i := i) (o := .cells t [.row S.length]) ⟨b, [.slice none 0 0], hle.blk _ _ h1, h2, by simp only [denL, CV.den]; exact ⟨_, _, rfl, by simp [Env.set], rfl⟩⟩
    rwa [List.set_append_left _ _ hil] at this
  · simp only [Env.set] at hb
    split at hb
    · cases hb
    · exact ⟨j, hb⟩
theorem ops_lt {w : World} {b off : Nat} {l : List BOp} (h : OpsAt w w.heap.size (some ⟨b, off, none⟩) l) (hl : 0 < l.length) : b < w.heap.size := by
  obtain ⟨o, ho⟩ : ∃ o, l[0]? = some o := ⟨_, List.getElem?_eq_getElem hl⟩
  exact (cells_op (G := Gs.nil) h (by simp) ho).1
theorem pure_d {o : BOp} (hf : formedB o = true) (hp : pureB o = true) : 0 ≤ o.d ∧ o.d < 28 := by
  have h1 := writes_var hf
  unfold pureB at hp
  simp only [Bool.and_eq_true, decide_eq_true_eq] at hp
  have h2 := hp.1
  unfold writes at h1 h2
  split at h1
  · rename_i hd; rw [if_pos hd] at h2; exact ⟨h2, h1⟩
  · rename_i hd; rw [if_neg hd] at h2; omega
def opsOf {l : List BOp} (pre : List (Elt l)) : List BOp := pre.map fun x => x.1.2
theorem opsOf_formed {l : List BOp} (h : ∀ o ∈ l, formedB o = true) (pre : List (Elt l)) : ∀ o ∈ opsOf pre, formedB o = true := fun o ho => by
  obtain ⟨x, _, rfl⟩ := List.mem_map.1 ho
  exact h _ (List.mem_of_getElem? x.2)
theorem opsOf_all {l : List BOp} {xs : List (Elt l)} (h : AllDown xs) : opsOf xs = l.reverse := by
  refine ops_of_places (ps := xs.map fun x => x.1.1) (by simp [opsOf]) (fun i j o hj ho => ?_) (by rw [h]; simp [downTo])
  simp only [opsOf, List.getElem?_map] at hj ho
  cases hx : xs[i]? with
  | none => rw [hx] at hj; cases hj
  | some x =>
    rw [hx] at hj ho
    simp only [Option.map_some] at hj ho
    injection hj with hj; injection ho with ho
    subst hj; subst ho
    exact x.2
theorem opsOf_snoc {l : List BOp} (pre : List (Elt l)) (x : Elt l) : opsOf (pre ++ [x]) = opsOf pre ++ [x.1.2] := by simp [opsOf]
set_option maxRecDepth 100000 in
theorem dead_pass : Pass Try.prog 19 deadAll := by
  intro b A1 A2 A3 c1 c2 c3 w hb h1 h2 h3 hc3 hm3
  refine calls_satq [.agg #[.slice A1 b.at_.length c1, .slice A2 b.pages.length c2, .slice A3 b.ops.length c3]] Try.func19 Try.ntmps19 rfl (by simp) ?_
  refine satq_seq ?_
  conv => whnf
  refine satq_seq ?_
  conv => whnf
  refine call_con rfl (by kernel_rfl) (fun r w' hR => valid_ir A1 A2 A3 c1 c2 c3 b w' hb (sl_later h2 hR.toBelow) (sl_later h3 hR.toBelow)) ?_
  conv => whnf
  refine ⟨fun hn => ?_, fun hn => ?_⟩
  · have hv : validB b = false := by simpa using hn
    have hF : deadAll b = b.ops := by unfold deadAll; rw [hv]; rfl
    conv => whnf
    refine atq_ret ?_
    conv => whnf
    refine fin_val rfl fun w' hB => ⟨A3, c3, by rw [hF], by rw [hF]; exact sl_later h3 hB, by rw [hF]; exact hc3, hm3, .inr rfl, hB⟩
  have hv : validB b = true := by simpa using hn
  have hF : deadAll b = (deadRun b.ops.reverse).out.reverse := by unfold deadAll; rw [hv]; rfl
  obtain ⟨hpos, hmax⟩ := valid_pos hv
  obtain ⟨bb, off, rfl⟩ := ops_addr h3 hpos
  have hform := valid_formed hv
  conv => whnf
  refine satq_seq ?_
  conv => whnf
  refine satq_seq ?_
  conv => whnf
  refine satq_in ?_
  refine satq_seq ?_
  conv => whnf
  refine call_backward ?_
  conv => whnf
  refine satq_block ?_
  refine satq_back (N := 38) (m := 4) (V := [.cells 32 [.v (.slice A1 b.at_.length c1), .v (.slice A2 b.pages.length c2), .v (.slice (some ⟨bb, off, none⟩) b.ops.length c3)], .cells 32 [.v (.slice none 0 0), .v (.slice none 0 0), .v (.slice none 0 0)], .cells 30 [.v (.slice none 0 0)], .cells 24 [.v (.int .u32 0)]])
    (A := [.cells 32 [.v (.slice A1 b.at_.length c1), .v (.slice A2 b.pages.length c2), .v (.slice (some ⟨bb, off, none⟩) b.ops.length c3)], .cells 32 [.v (.slice none 0 0), .v (.slice none 0 0), .v (.slice none 0 0)], .cells 30 [.row 4], .cells 24 [.v (.int .u32 0)]]) (T := [.row 53 5 0 []])
    (f0 := [(1, .p (.c (.ref 0 0))), (2, .p (.c (.ref 1 0))), (3, .p (.c (.ref 2 0))), (4, .p (.c (.ref 3 0)))]) (fa := [(1, .p (.c (.ref 0 0))), (2, .p (.c (.ref 1 0))), (3, .p (.c (.ref 2 0))), (4, .p (.c (.ref 3 0)))])
    h3 (ops_lt h3 hpos) (by omega) rfl ⟨rfl, rfl⟩ (aI rfl (aI rfl (aI rfl (aI rfl trivial)))) rfl rfl
    (fun pre => [.cells 32 [.v (.slice A1 b.at_.length c1), .v (.slice A2 b.pages.length c2), .v (.slice (some ⟨bb, off, none⟩) b.ops.length c3)], .cells 32 [.v (.slice none 0 0), .v (.slice none 0 0), .v (.slice none 0 0)], .cells 30 [.row 4], .cells 24 [.v (.int .u32 ((deadRun (opsOf pre)).live : Int))], .row 53 5 (deadRun (opsOf pre)).out.length ((deadRun (opsOf pre)).out.flatMap opC)])
    rfl rfl rfl (fun _ => rfl) (fun _ => rfl) (fun _ => rfl) (ent_nilrow 2 rfl (aI rfl (aI rfl (aI rfl (aI rfl trivial))))) rfl 2 (by omega) (fun pre => ⟨_, _, _, _, _, rfl, rfl⟩)
    (fun x => [(1, .p (.c (.ref 0 0))), (2, .p (.c (.ref 1 0))), (3, .p (.c (.ref 2 0))), (4, .p (.c (.ref 3 0))), (6, .p (.c (.ref 5 0)))]) (fun _ => rfl) ?_ ?_ ?_
  · rintro W gs ext lp pre x hgs
    match gs, hgs with
    | [g0, g1, g2, g3], _ =>
    conv => whnf
    exact ⟨rfl, ent_same rfl (aI rfl (aI rfl (aI rfl (aI rfl (aI rfl trivial))))) (aI ((aI rfl (Or.inl rfl))) (aI ((aI rfl (Or.inl rfl))) (aI ((aI rfl (Or.inl rfl))) (aI ((aI rfl (Or.inl rfl))) (aI ((aI rfl (aI rfl (aI rfl rfl)))) (aI ((aI rfl (Or.inl rfl))) trivial))))))⟩
  · rintro W gs ext lp pre x hgs hpl
    match gs, hgs with
    | [g0, g1, g2, g3], _ =>
    obtain ⟨o, ho⟩ : ∃ o, o = x.1.2 := ⟨_, rfl⟩
    have hof : formedB o = true := by rw [ho]; exact hform _ (List.mem_of_getElem? x.2)
    have hlive := deadRun_lt (opsOf_formed hform pre)
    have hlen : (deadRun (opsOf pre)).out.length ≤ pre.length := by have := deadRun_length (opsOf pre); simpa [opsOf] using this
    have hsnoc : deadRun (opsOf (pre ++ [x])) = deadStep (deadRun (opsOf pre)) o := by rw [opsOf_snoc, deadRun_snoc, ho]
    rw [hsnoc, ← ho]
    generalize deadRun (opsOf pre) = s at hlive hlen ⊢
    conv => whnf
    refine call_con rfl (by kernel_rfl) (fun r w' hR => pure_ir o w') ?_
    conv => whnf
    refine ⟨!(s.live.testBit o.d.toNat), fun hp => ?_, ?_⟩
    · obtain ⟨hd0, hd1⟩ := pure_d hof hp
      refine ⟨hd0, (s.live : Int) / 2 ^ o.d.toNat, ?_, ?_⟩
      · rw [show min o.d.toNat IntKind.u32.bits = o.d.toNat from Nat.min_eq_left (by show _ ≤ 32; omega)]
        exact Int.fdiv_eq_ediv_of_nonneg _ (by exact Int.le_of_lt (Int.pow_pos (by decide)))
      conv => whnf
      refine ⟨_, rfl, ?_⟩
      conv => whnf
      refine ⟨rfl, rfl, ?_, rfl, rfl⟩
      show one (.bool (bits .and .u32 ((s.live : Int) / 2 ^ o.d.toNat) 1 == 0)) = one (.bool (!(s.live.testBit o.d.toNat)))
      rw [bit_test _ _ hlive]
    conv => whnf
    refine ⟨fun hs => ?_, fun hs => ?_⟩
    · conv => whnf
      have he : deadStep s o = s := if_pos (by unfold deadB; simpa [cmb] using hs)
      rw [he]
      exact ⟨rfl, ent_drop trivial (aI ((aI rfl (Or.inl rfl))) (aI ((aI rfl (Or.inl rfl))) (aI ((aI rfl (Or.inl rfl))) (aI ((aI rfl (Or.inl rfl))) (aI ((aI rfl (aI rfl (aI rfl rfl)))) trivial))))) rfl rfl⟩
    have he : deadStep s o = ⟨beforeM o s.live, s.out ++ [o]⟩ := if_neg (by unfold deadB; simpa [cmb] using hs)
    rw [he]
    conv => whnf
    refine call_con rfl (by kernel_rfl) (fun r w' hR => before_opt o s.live hlive hof w') ?_
    conv => whnf
    refine appK_sound rfl ?_ rfl
    conv => whnf
    refine ⟨by omega, ?_⟩
    conv => whnf
    exact ⟨rfl, ent_drop trivial (aI ((aI rfl (Or.inl rfl))) (aI ((aI rfl (Or.inl rfl))) (aI ((aI rfl (Or.inl rfl))) (aI ((aI rfl (Or.inl rfl))) (aI ((aI rfl (aI rfl (aI (by simp) (by simp [opC]))))) trivial))))) rfl rfl⟩
  · intro D xs hxs
    refine atq_then ?_
    refine satq_seq ?_
    conv => whnf
    have hlen : (deadRun (opsOf xs)).out.length ≤ b.ops.length := by
      have := deadRun_length (opsOf xs)
      rw [opsOf_all hxs] at this ⊢
      simpa using this
    refine call_reverse 4 rfl (by omega) ?_
    conv => whnf
    refine satq_seq ?_
    conv => whnf
    refine call_with 4 rfl ?_
    conv => whnf
    refine satq_vc ?_
    conv => whnf
    refine atq_ret_mark 5 rfl ?_
    conv => whnf
    rw [opsOf_all hxs]
    refine fin_block (i := 4) (l := (deadRun b.ops.reverse).out.reverse) rfl (by simp) rfl fun w' A c e1 e2 e3 e4 e5 => ?_
    exact ⟨A, c, by rw [hF], by rw [hF]; exact e1, by rw [hF]; exact e2, e3, .inl e4, e5⟩
end Go.Proofs.Ytmjfgnnefcimiaa
namespace Go.Proofs.Ytmjfgnnefcimiaa
open Go.RowKit

theorem wrC_set (W i : Nat) {t : Nat} (h : t < 8) : setAll (killL i (List.map CV.v (wrC W))) t [CV.v (Value.bool true)] = (wrC (W ||| 2 ^ (20 + t))).map .v := by
  have e : ∀ j, (W ||| 2 ^ (20 + t)).testBit j = (W.testBit j || decide (20 + t = j)) := fun j => by rw [Nat.testBit_or, Nat.testBit_two_pow]
  simp only [wrC, e]
  rcases t with _ | _ | _ | _ | _ | _ | _ | _ | t <;> first | (exfalso; omega) | (simp [setAll, killL, CV.kill, CV.names])
/-- The first loop under way. -/
structure Ins1 (k0 : Int) where
  n : Int
  l : List BOp
  W : Nat
  k : Int
  hn : 0 ≤ n ∧ n ≤ 3
  hb : BodyOk l W false
  hl : (l.length : Int) + n ≤ 3
  hk : k0 ≤ k ∧ k + 8 * n ≤ k0 + 24
/-- Between the loops. -/
structure Ins2 (k0 : Int) where
  l : List BOp
  W : Nat
  ch : Bool
  k : Int
  hb : BodyOk l W ch
  hl : l.length ≤ 4
  hk : k0 ≤ k ∧ k ≤ k0 + 40
/-- The second loop under way. -/
structure Ins3 (k0 : Int) (W : Nat) where
  n : Int
  l : List BOp
  ch : Bool
  k : Int
  hn : 0 ≤ n ∧ n ≤ 3
  hb : BodyOk l W ch
  hl : (l.length : Int) + n ≤ 7
  hk : k0 ≤ k ∧ k + 8 * n ≤ k0 + 24
set_option maxRecDepth 100000 in
theorem instruction_walk (A : Option Addr) (m c : Nat) (xs : List Int) (k : Int) (g : Nat) (w : World) (hs : SlOld w ⟨[g], []⟩ A (xs.map (.int .i64))) (hl : xs.length = m) (hm : m ≤ 1000000) (hk : 0 ≤ k ∧ k < 900000)
    (hg : w.heap[g]? = some (.cells (mkC A m c k).toArray 124 (0, 0))) :
    Calls Try.prog 93 #[.pointer (some ⟨g, 0, none⟩)] w fun e w' => ∃ v n ys us', (∃ (l : List BOp) (W : Nat) (ch : Bool) (k' : Int), BodyOk l W ch ∧ n = l.length ∧ ys = l.flatMap opC ∧ l.length ≤ 10 ∧ us' = mkC A m c k' ∧ 0 ≤ k' ∧ k' ≤ k + 200) ∧ e = .returned v ∧ w'.ownsRow w.heap.size 53 5 v n ys ∧ w'.heap[g]? = some (.cells us'.toArray 124 (0, 0)) ∧ w.grownBy w' (some g) := by
  refine calls_own_satq [] Try.func93 Try.ntmps93 rfl (by simp) hg ?_
  refine satq_seq ?_
  conv => whnf
  refine satq_seq ?_
  conv => whnf
  refine satq_seq ?_
  conv => whnf
  refine satq_seq ?_
  conv => whnf
  refine call_take 0 rfl hs hl hm (by omega) (by omega) fun n0 n00 n01 => ?_
  conv => whnf
  refine ⟨Ins1 (k + 1), fun x => [(0, .p (.c (.ref 0 0))), (3, .p (.c (.row 2))), (4, .p (.c (.ref 1 0))), (5, one (.int .i64 x.n))],
    fun x => [.cells 124 ((mkC A m c x.k).map .v), .cells 133 ((wrC x.W).map .v), .row 53 5 x.l.length (x.l.flatMap opC)],
    fun x => x.n.toNat, ⟨⟨n0, [], 0, k + 1, by omega, BodyOk.nil, by simp; omega, by omega⟩, ent_trans (ent_row 3 53 5 rfl) (ent_same rfl (aI rfl (aI rfl (aI rfl (aI rfl trivial)))) (aI ((aI rfl (Or.inl rfl))) (aI ((aI rfl (Or.inl (by simp)))) (aI ((aI rfl (aI rfl (aI rfl rfl)))) trivial))))⟩, fun x => ?_⟩
  · obtain ⟨n, l, W, k1, hn, hb, hll, hk1⟩ := x
    dsimp only
    conv => whnf
    refine ⟨fun hc => ?_, fun hc => ?_⟩
    · have hpos : 0 < n := by simpa using hc
      conv => whnf
      refine call_take 0 rfl hs hl hm (by omega) (by omega) fun t t0 t1 => ?_
      conv => whnf
      refine call_source 0 W rfl rfl hs hl hm (by omega) fun a ha => ?_
      conv => whnf
      refine call_take 0 rfl hs hl hm (by omega) (by omega) fun s s0 s1 => ?_
      conv => whnf
      refine ⟨fun _ => ?_, fun _ => ?_⟩
      · conv => whnf
        refine ⟨_, wr64 (by omega), ?_⟩
        conv => whnf
        refine call_word 0 rfl hs hl hm (by omega) fun z hz => ?_
        conv => whnf
        refine appK_sound rfl ?_ rfl
        conv => whnf
        refine ⟨by omega, ?_⟩
        conv => whnf
        refine ⟨fun _ => ?_, fun hf => absurd hf (by simp; omega)⟩
        conv => whnf
        refine ⟨⟨by omega, by omega⟩, ?_⟩
        conv => whnf
        rw [show 0 + t.toNat * tsz Try.prog 4 = t.toNat from (Nat.zero_add _).trans (Nat.mul_one _), show Nat.ble (t.toNat + [CV.v (Value.bool true)].length) (killL 2 (List.map CV.v (wrC W))).length = true from Nat.ble_eq_true_of_le (by show t.toNat + 1 ≤ 8; omega), wrC_set W 2 (by omega)]
        conv => whnf
        refine ⟨_, wr64 (by omega), ?_⟩
        conv => whnf
        exact ⟨⟨n - 1, l ++ [⟨1, 20 + t, 0, 0, z⟩], W ||| 2 ^ (20 + t).toNat, k1 + 1 + 1 + 1 + 2, by omega, (hb.const (d := 20 + t) ⟨by omega, by omega, by omega⟩ hz).is (if_pos (by omega)) (by simp; omega), by simp; omega, by omega⟩, ent_drop (aI rfl (aI rfl (aI rfl (aI rfl trivial)))) (aI ((aI rfl (Or.inl rfl))) (aI ((aI rfl (Or.inl (congrArg (fun z => List.map CV.v (wrC (Nat.lor W (2 ^ z)))) (show 20 + t.toNat = (20 + t).toNat by omega))))) (aI ((aI rfl (aI rfl (aI (by simp) (by simp [opC]))))) trivial))) rfl rfl, by show (n - 1).toNat < n.toNat; omega⟩
      conv => whnf
      refine ⟨fun _ => ?_, fun _ => ?_⟩
      · conv => whnf
        refine call_take 0 rfl hs hl hm (by omega) (by omega) fun q q0 q1 => ?_
        conv => whnf
        refine ⟨_, wr64 (by omega), ?_⟩
        conv => whnf
        refine ⟨_, wr64 (by omega), ?_⟩
        conv => whnf
        refine call_word 0 rfl hs hl hm (by omega) fun z hz => ?_
        conv => whnf
        refine appK_sound rfl ?_ rfl
        conv => whnf
        refine ⟨by omega, ?_⟩
        conv => whnf
        refine ⟨fun _ => ?_, fun hf => absurd hf (by simp; omega)⟩
        conv => whnf
        refine ⟨⟨by omega, by omega⟩, ?_⟩
        conv => whnf
        rw [show 0 + t.toNat * tsz Try.prog 4 = t.toNat from (Nat.zero_add _).trans (Nat.mul_one _), show Nat.ble (t.toNat + [CV.v (Value.bool true)].length) (killL 2 (List.map CV.v (wrC W))).length = true from Nat.ble_eq_true_of_le (by show t.toNat + 1 ≤ 8; omega), wrC_set W 2 (by omega)]
        conv => whnf
        refine ⟨_, wr64 (by omega), ?_⟩
        conv => whnf
        exact ⟨⟨n - 1, l ++ [⟨16 + q, 20 + t, a, 0, z⟩], W ||| 2 ^ (20 + t).toNat, k1 + 1 + 1 + 1 + 1 + 2, by omega, hb.load (d := 20 + t) ⟨by omega, by omega⟩ ⟨by omega, by omega⟩ ha hz rfl, by simp; omega, by omega⟩, ent_drop (aI rfl (aI rfl (aI rfl (aI rfl trivial)))) (aI ((aI rfl (Or.inl rfl))) (aI ((aI rfl (Or.inl (congrArg (fun z => List.map CV.v (wrC (Nat.lor W (2 ^ z)))) (show 20 + t.toNat = (20 + t).toNat by omega))))) (aI ((aI rfl (aI rfl (aI (by simp) (by simp [opC]))))) trivial))) rfl rfl, by show (n - 1).toNat < n.toNat; omega⟩
      conv => whnf
      refine ⟨fun _ => ?_, fun _ => ?_⟩
      · conv => whnf
        refine appK_sound rfl ?_ rfl
        conv => whnf
        refine ⟨by omega, ?_⟩
        conv => whnf
        refine ⟨fun hf => absurd hf (by decide), fun _ => ?_⟩
        conv => whnf
        refine ⟨_, wr64 (by omega), ?_⟩
        conv => whnf
        exact ⟨⟨n - 1, l ++ [⟨21, 0, a, 0, 0⟩], W, k1 + 1 + 1 + 1, by omega, hb.guard ha rfl, by simp; omega, by omega⟩, ent_drop (aI rfl (aI rfl (aI rfl (aI rfl trivial)))) (aI ((aI rfl (Or.inl rfl))) (aI ((aI rfl (Or.inl rfl))) (aI ((aI rfl (aI rfl (aI (by simp) (by simp [opC]))))) trivial))) rfl rfl, by show (n - 1).toNat < n.toNat; omega⟩
      conv => whnf
      refine call_source 0 W rfl rfl hs hl hm (by omega) fun b hb' => ?_
      conv => whnf
      refine call_take 0 rfl hs hl hm (by omega) (by omega) fun q q0 q1 => ?_
      conv => whnf
      refine ⟨_, wr64 (by omega), ?_⟩
      conv => whnf
      refine ⟨_, wr64 (by omega), ?_⟩
      conv => whnf
      refine appK_sound rfl ?_ rfl
      conv => whnf
      · refine ⟨by omega, ?_⟩
        conv => whnf
        refine ⟨fun _ => ?_, fun hf => absurd hf (by simp; omega)⟩
        conv => whnf
        refine ⟨⟨by omega, by omega⟩, ?_⟩
        conv => whnf
        rw [show 0 + t.toNat * tsz Try.prog 4 = t.toNat from (Nat.zero_add _).trans (Nat.mul_one _), show Nat.ble (t.toNat + [CV.v (Value.bool true)].length) (killL 2 (List.map CV.v (wrC W))).length = true from Nat.ble_eq_true_of_le (by show t.toNat + 1 ≤ 8; omega), wrC_set W 2 (by omega)]
        conv => whnf
        refine ⟨_, wr64 (by omega), ?_⟩
        conv => whnf
        exact ⟨⟨n - 1, l ++ [⟨3 + q, 20 + t, a, b, 0⟩], W ||| 2 ^ (20 + t).toNat, k1 + 1 + 1 + 1 + 1 + 1, by omega, (hb.bin (c := 3 + q) (d := 20 + t) ⟨by omega, by omega⟩ ⟨by omega, by omega, by omega⟩ ha hb').is (if_pos (by omega)) (by simp; omega), by simp; omega, by omega⟩, ent_drop (aI rfl (aI rfl (aI rfl (aI rfl trivial)))) (aI ((aI rfl (Or.inl rfl))) (aI ((aI rfl (Or.inl (congrArg (fun z => List.map CV.v (wrC (Nat.lor W (2 ^ z)))) (show 20 + t.toNat = (20 + t).toNat by omega))))) (aI ((aI rfl (aI rfl (aI (by simp) (by simp [opC]))))) trivial))) rfl rfl, by show (n - 1).toNat < n.toNat; omega⟩
    · conv => whnf
      refine ⟨_, _, ent_refl, ?_⟩
      conv => whnf
      refine satq_cut (α := Ins2 k) (fun y => [(0, .p (.c (.ref 0 0))), (3, .p (.c (.row 2))), (4, .p (.c (.ref 1 0)))])
        (fun y => [.cells 124 ((mkC A m c y.k).map .v), .cells 133 ((wrC y.W).map .v), .row 53 5 y.l.length (y.l.flatMap opC)]) ?_ fun y => ?_
      · conv => whnf
        refine call_take 0 rfl hs hl hm (by omega) (by omega) fun s s0 s1 => ?_
        conv => whnf
        refine ⟨fun _ => ?_, fun _ => ?_⟩
        · conv => whnf
          refine call_source 0 W rfl rfl hs hl hm (by omega) fun a ha => ?_
          conv => whnf
          refine call_source 0 W rfl rfl hs hl hm (by omega) fun b hb' => ?_
          conv => whnf
          refine call_take 0 rfl hs hl hm (by omega) (by omega) fun q q0 q1 => ?_
          conv => whnf
          refine ⟨_, wr64 (by omega), ?_⟩
          conv => whnf
          refine call_word 0 rfl hs hl hm (by omega) fun z hz => ?_
          conv => whnf
          refine appK_sound rfl ?_ rfl
          conv => whnf
          refine ⟨by omega, ?_⟩
          conv => whnf
          exact ⟨⟨l ++ [⟨18 + q, 0, a, b, z⟩], W, true, k1 + 1 + 1 + 1 + 1 + 2, hb.store (c := 18 + q) ⟨by omega, by omega⟩ ha hb' hz rfl, by simp; omega, by omega⟩, ent_drop (aI rfl (aI rfl (aI rfl trivial))) (aI ((aI rfl (Or.inl rfl))) (aI ((aI rfl (Or.inl rfl))) (aI ((aI rfl (aI rfl (aI (by simp) (by simp [opC]))))) trivial))) rfl rfl⟩
        · conv => whnf
          exact ⟨⟨l, W, false, k1 + 1, hb, by omega, by omega⟩, ent_drop (aI rfl (aI rfl (aI rfl trivial))) (aI ((aI rfl (Or.inl rfl))) (aI ((aI rfl (Or.inl rfl))) (aI ((aI rfl (aI rfl (aI rfl rfl)))) trivial))) rfl rfl⟩
      obtain ⟨l2, W2, ch2, k2, hb2, hl2, hk2⟩ := y
      dsimp only
      refine satq_seq ?_
      conv => whnf
      refine call_take 0 rfl hs hl hm (by omega) (by omega) fun n2 n20 n21 => ?_
      conv => whnf
      refine ⟨Ins3 (k2 + 1) W2, fun x => [(0, .p (.c (.ref 0 0))), (3, .p (.c (.row 2))), (4, .p (.c (.ref 1 0))), (11, one (.int .i64 x.n))],
        fun x => [.cells 124 ((mkC A m c x.k).map .v), .cells 133 ((wrC W2).map .v), .row 53 5 x.l.length (x.l.flatMap opC)],
        fun x => x.n.toNat, ⟨⟨n2, l2, ch2, k2 + 1, by omega, hb2, by omega, by omega⟩, ent_same rfl (aI rfl (aI rfl (aI rfl (aI rfl trivial)))) (aI ((aI rfl (Or.inl rfl))) (aI ((aI rfl (Or.inl rfl))) (aI ((aI rfl (aI rfl (aI rfl rfl)))) trivial)))⟩, fun x => ?_⟩
      obtain ⟨n, l, ch, k1, hn, hb, hll, hk1⟩ := x
      dsimp only
      conv => whnf
      refine ⟨fun hc => ?_, fun hc => ?_⟩
      · have hpos : 0 < n := by simpa using hc
        conv => whnf
        refine call_take 0 rfl hs hl hm (by omega) (by omega) fun t t0 t1 => ?_
        conv => whnf
        refine call_source 0 W2 rfl rfl hs hl hm (by omega) fun a ha => ?_
        conv => whnf
        refine call_take 0 rfl hs hl hm (by omega) (by omega) fun s s0 s1 => ?_
        conv => whnf
        refine ⟨fun _ => ?_, fun _ => ?_⟩
        · conv => whnf
          refine call_word 0 rfl hs hl hm (by omega) fun z hz => ?_
          conv => whnf
          refine appK_sound rfl ?_ rfl
          conv => whnf
          (refine ⟨by omega, ?_⟩; (conv => whnf); refine ⟨_, wr64 (by omega), ?_⟩; (conv => whnf); exact ⟨⟨n - 1, l ++ [⟨1, t, 0, 0, z⟩], ch || decide (t < 20), k1 + 1 + 1 + 1 + 2, by omega, (hb.const (d := t) ⟨by omega, by omega, by omega⟩ hz).is (if_neg (by omega)) rfl, by simp; omega, by omega⟩, ent_drop (aI rfl (aI rfl (aI rfl (aI rfl trivial)))) (aI ((aI rfl (Or.inl rfl))) (aI ((aI rfl (Or.inl rfl))) (aI ((aI rfl (aI rfl (aI (by simp) (by simp [opC]))))) trivial))) rfl rfl, by show (n - 1).toNat < n.toNat; omega⟩)
        conv => whnf
        refine ⟨fun _ => ?_, fun _ => ?_⟩
        · conv => whnf
          refine appK_sound rfl ?_ rfl
          conv => whnf
          (refine ⟨by omega, ?_⟩; (conv => whnf); refine ⟨_, wr64 (by omega), ?_⟩; (conv => whnf); exact ⟨⟨n - 1, l ++ [⟨2, t, a, 0, 0⟩], ch || decide (t < 20), k1 + 1 + 1 + 1, by omega, (hb.move (d := t) ⟨by omega, by omega, by omega⟩ ha).is (if_neg (by omega)) rfl, by simp; omega, by omega⟩, ent_drop (aI rfl (aI rfl (aI rfl (aI rfl trivial)))) (aI ((aI rfl (Or.inl rfl))) (aI ((aI rfl (Or.inl rfl))) (aI ((aI rfl (aI rfl (aI (by simp) (by simp [opC]))))) trivial))) rfl rfl, by show (n - 1).toNat < n.toNat; omega⟩)
        conv => whnf
        refine call_source 0 W2 rfl rfl hs hl hm (by omega) fun b hb' => ?_
        conv => whnf
        refine call_take 0 rfl hs hl hm (by omega) (by omega) fun q q0 q1 => ?_
        conv => whnf
        refine ⟨_, wr64 (by omega), ?_⟩
        conv => whnf
        refine appK_sound rfl ?_ rfl
        conv => whnf
        (refine ⟨by omega, ?_⟩; (conv => whnf); refine ⟨_, wr64 (by omega), ?_⟩; (conv => whnf); exact ⟨⟨n - 1, l ++ [⟨3 + q, t, a, b, 0⟩], ch || decide (t < 20), k1 + 1 + 1 + 1 + 1 + 1, by omega, (hb.bin (c := 3 + q) (d := t) ⟨by omega, by omega⟩ ⟨by omega, by omega, by omega⟩ ha hb').is (if_neg (by omega)) rfl, by simp; omega, by omega⟩, ent_drop (aI rfl (aI rfl (aI rfl (aI rfl trivial)))) (aI ((aI rfl (Or.inl rfl))) (aI ((aI rfl (Or.inl rfl))) (aI ((aI rfl (aI rfl (aI (by simp) (by simp [opC]))))) trivial))) rfl rfl, by show (n - 1).toNat < n.toNat; omega⟩)
      · conv => whnf
        refine ⟨_, _, ent_refl, ?_⟩
        conv => whnf
        refine satq_vc ?_
        conv => whnf
        refine atq_ret ?_
        conv => whnf
        exact fin_own_row (us := mkC A m c k1) rfl rfl (by omega) fun w' v e1 e2 e3 => ⟨v, _, _, _, ⟨l, W2, ch, k1, hb, rfl, rfl, by omega, rfl, by omega, by omega⟩, rfl, e3, e1, e2⟩
end Go.Proofs.Ytmjfgnnefcimiaa
