/- Walks: the law's own block. Walks: the maker of blocks: take, word, source. Drawn regions in whatever order, over states that are known part by part: some operations are taken first, for the others each order is gone through. Functions that turn one block of their caller's and hand back a new row; walks cut in two. Plain: each pass of the optimizer keeps a block valid. Walks: the guest variables; sizes of accesses. -/
import Derived.Laws.BytesString
import Derived.Test.YtmjfgnnefcimiaaK1
import Derived.Test.YtmjfgnnefcimiaaK10
import Derived.Test.YtmjfgnnefcimiaaK11
import Derived.Test.YtmjfgnnefcimiaaK12
import Derived.Test.YtmjfgnnefcimiaaK14
import Derived.Test.YtmjfgnnefcimiaaK15
import Derived.Test.YtmjfgnnefcimiaaK16
import Derived.Test.YtmjfgnnefcimiaaK17
import Derived.Test.YtmjfgnnefcimiaaK18
import Derived.Test.YtmjfgnnefcimiaaK19
import Derived.Test.YtmjfgnnefcimiaaK20
import Derived.Test.YtmjfgnnefcimiaaK21
import Derived.Test.YtmjfgnnefcimiaaK3
import Derived.Test.YtmjfgnnefcimiaaK4
import Derived.Test.YtmjfgnnefcimiaaK5
namespace Go.Proofs.Ytmjfgnnefcimiaa
open Go.RowKit

def blockOps (l : List BOp) : List BOp := ⟨20, 0, 0, 0, 0⟩ :: l ++ [⟨24, 0, 0, 0, 4⟩]
set_option maxRecDepth 100000 in
theorem block_law (l : List BOp) (A : Option Addr) (c : Nat) (w : World) (hl : OpsAt w w.heap.size A l) (hn : l.length ≤ 1000) :
    Calls Try.prog 34 #[.slice A l.length c] w fun e w' => ∃ A1 A3 c3, e = .returned (.agg #[.slice A1 1 1, .slice none 0 0, .slice A3 (blockOps l).length c3]) ∧ SlAt w' w'.heap.size A1 [.int .u32 0] ∧ OpsAt w' w'.heap.size A3 (blockOps l) ∧ (blockOps l).length ≤ c3 ∧ c3 ≤ maxLen ∧ Fresh w.heap.size A1 ∧ Fresh w.heap.size A3 ∧ Below w.heap.size w w' := by
  refine calls_val [.slice A l.length c] Try.func34 Try.ntmps34 rfl (by simp) ?_
  conv => whnf
  refine opS_ent (ent_slrow (xs := opC ⟨20, 0, 0, 0, 0⟩) (f' := [(6, one (.slice A l.length c)), (2, .p (.c (.ref 0 0)))]) 1 5 5 1 rfl rfl rfl (by decide) (aI rfl (aI rfl trivial)) rfl rfl) ?_
  refine appK_sound rfl ?_ rfl
  conv => whnf
  refine ⟨l.flatMap opC, fun j u hj => by
    obtain ⟨b, off, e1, e2, e3⟩ := hl j u hj
    exact ⟨b, off, e1, e2, by simp, e3⟩, ops_length l, fun u hu => by
    obtain ⟨o, _, ho⟩ := List.mem_flatMap.1 hu
    exact opC_one u ho, by omega, ?_⟩
  conv => whnf
  refine appK_sound rfl ?_ rfl
  conv => whnf
  refine ⟨by omega, ?_⟩
  conv => whnf
  refine ⟨fun r w' u hR hd => ?_⟩
  obtain ⟨us, rfl, hl'⟩ := den_agg hd
  simp only [denL] at hl'
  obtain ⟨u1, l1, rfl, d1, u2, l2, rfl, d2, u3, l3, rfl, d3, rfl⟩ := hl'
  have d1 : CV.den r (.sl 2 0 1 1) u1 := d1
  simp only [CV.den] at d1 d2 d3
  obtain ⟨b1, hb1, rfl⟩ := d1
  subst d2
  obtain ⟨A3, c3, rfl, hs, hc, hm⟩ := hR.rowAt (i := 1) rfl d3
  obtain ⟨b1', us, e1, e2, e3⟩ := hR.own 2 (.cells 24 [.v (.int .u32 0)]) rfl
  rw [hb1] at e1; injection e1 with e1; subst e1
  obtain rfl := denL_vals_inv (us := [.int .u32 0]) e3
  have hlen : (blockOps l).length = 1 + l.length + 1 := by simp [blockOps]; omega
  rw [hlen]
  refine ⟨some ⟨b1, 0, none⟩, A3, c3, rfl, fun j u hj => ⟨b1, 0, rfl, (hR.new 2 b1 hb1).1, by simp [World.cell?, e2, hj]⟩, ?_, hc, hm, fun b off sp hA => ?_, fun b off sp hA => ?_, hR.toBelow⟩
  case refine_2 =>
    injection hA with hA; injection hA with hA; subst hA
    rcases Nat.lt_or_ge b1 w.heap.size with h1 | h1
    · have := (hR.new 2 b1 hb1).2 h1; simp at this
    · exact h1
  case refine_3 =>
    subst hA
    obtain ⟨v, hv, hob, _⟩ := hR.own 1 _ rfl
    rw [d3] at hv; injection hv with hv; subst hv
    have hb : r.blk 1 = some b := by rw [← hob]; rfl
    rcases Nat.lt_or_ge b w.heap.size with h1 | h1
    · have := (hR.new 1 b hb).2 h1; simp at this
    · exact h1
  have e : (blockOps l).flatMap opC = opC ⟨20, 0, 0, 0, 0⟩ ++ l.flatMap opC ++ opC ⟨24, 0, 0, 0, 4⟩ := by simp [blockOps]
  unfold OpsAt
  rw [e]
  exact hs
theorem view_holds {r : Env} {w w' : World} {i n : Nat} {A : Option Addr} {c : Nat} {xs : List Value} {φ : Option Addr → Prop} (hv : r.val i = some (.slice A n c)) (hb : r.blk i = none) (hs : SlAt w' w'.heap.size A xs) (hn : n ≤ c) (hc : c ≤ maxLen) (hφ : φ A) (hf : Fresh w.heap.size A) (hr : ∀ k b, r.blk k = some b → b < w.heap.size) : (Ow.view φ n xs).holds r w' i :=
  ⟨A, c, hv, hn, ⟨hc, hφ⟩, hb, fun j u hj => by
    obtain ⟨b, off, e1, e2, e3⟩ := hs j u hj
    exact ⟨b, off, e1, e2, fun k hk => by have := hr k b hk; have := hf b off none e1; omega, e3⟩⟩
def viewT (_ : Option Addr) : Prop := True
theorem call_block {w0 : World} {G : Gs} {S : List Ow} {K : AV → List Ow → Prop} (i n : Nat) (l : List BOp) (hi : S[i]? = some (.cells 53 ((l.flatMap opC).map .v))) (hl : l.length = n) (hn : n ≤ 1000)
    (hK : K (.p (.agg [.row S.length, .v (.slice none 0 0), .row (S.length + 1)])) (S ++ [.view viewT 1 [.int .u32 0]] ++ [.view viewT (blockOps l).length ((blockOps l).flatMap opC)])) : CallS Try.prog w0 G 34 [.p (.c (.sl i 0 n n))] S K := by
  refine ⟨by kernel_rfl, fun r w us hR hd => ?_⟩
  obtain ⟨u1, l1, rfl, d1, d2⟩ := hd
  obtain rfl : l1 = [] := d2
  obtain ⟨b, hb, rfl⟩ := den_sl d1
  obtain ⟨b', us, e1, e2, e3⟩ := hR.own i _ hi
  rw [hb] at e1; injection e1 with e1; subst e1
  obtain rfl := denL_vals_inv e3
  subst hl
  refine (block_law l (some ⟨b, 0, none⟩) l.length w (fun j u hj => ⟨b, 0, rfl, (hR.new i b hb).1, by simp [World.cell?, e2, hj]⟩) hn).mono fun e w' ⟨A1, A3, c3, he, h1, h3, hc, hm, f1, f3, hB⟩ => ?_
  have hr1 : ∀ k x, (r.set S.length none (some (.slice A1 1 1))).blk k = some x → x < w.heap.size := fun k x hk => by
    simp only [Env.set] at hk
    split at hk
    · cases hk
    · exact (hR.new k x hk).1
  have hR1 := hR.snoc (o := .view viewT 1 [.int .u32 0]) hB (b := none) (v := some (.slice A1 1 1)) nofun (view_holds (w := w) (by simp [Env.set]) (by simp [Env.set]) h1 (Nat.le_refl _) (by decide) trivial f1 hr1)
  have hle1 := hR.le_new none (some (.slice A1 1 1))
  have hR2 := hR1.snoc (o := .view viewT (blockOps l).length ((blockOps l).flatMap opC)) (Below.refl _ _) (b := none) (v := some (.slice A3 (blockOps l).length c3)) nofun (view_holds (w := w) (by simp [Env.set]) (by simp [Env.set]) h3 hc hm trivial f3 (fun k x hk => by
    simp only [Env.set] at hk
    split at hk
    · cases hk
    · exact hr1 k x (by simpa only [Env.set] using hk)))
  have hle2 := hR1.le_new none (some (.slice A3 (blockOps l).length c3))
  refine ⟨.p (.agg [.row S.length, .v (.slice none 0 0), .row (S.length + 1)]), _, _, _, he, ⟨[.slice A1 1 1, .slice none 0 0, .slice A3 (blockOps l).length c3], rfl, ?_⟩, hR2, hle1.trans hle2, hK⟩
  simp only [denL, CV.den]
  exact ⟨_, _, rfl, by simp [Env.set], _, _, rfl, rfl, _, _, rfl, by simp [Env.set], rfl⟩
end Go.Proofs.Ytmjfgnnefcimiaa
namespace Go.Proofs.Ytmjfgnnefcimiaa
open Go.RowKit

theorem take_range {x n : Int} (h0 : 0 < n) : 0 ≤ (x.tmod n + n).tmod n ∧ (x.tmod n + n).tmod n < n := by
  have h1 : -n < x.tmod n := by
    have := Int.lt_tmod_of_pos x h0
    omega
  have h3 : 0 ≤ x.tmod n + n := by omega
  exact ⟨Int.tmod_nonneg _ h3, Int.tmod_lt_of_pos _ h0⟩
/-- The maker's cells: the numbers, and how many have been taken. -/
abbrev mkC (A : Option Addr) (m c : Nat) (k : Int) : List Value := [.slice A m c, .int .i64 k]
set_option maxRecDepth 100000 in
theorem take_walk (A : Option Addr) (m c : Nat) (xs : List Int) (k n : Int) (g : Nat) (w : World) (hs : SlOld w ⟨[g], []⟩ A (xs.map (.int .i64))) (hl : xs.length = m) (_hm : m ≤ 1000000) (hk : 0 ≤ k ∧ k < 1000000) (hn : 0 < n ∧ n ≤ 65536)
    (hg : w.heap[g]? = some (.cells (mkC A m c k).toArray 124 (0, 0))) :
    Calls Try.prog 92 #[.pointer (some ⟨g, 0, none⟩), .int .i64 n] w fun e w' => ∃ x us', ((∃ z, x = .int .i64 z ∧ 0 ≤ z ∧ z < n) ∧ us' = mkC A m c (k + 1)) ∧ e = .returned x ∧ w'.heap[g]? = some (.cells us'.toArray 124 (0, 0)) ∧ w.grownBy w' (some g) := by
  have key : ∀ (x : Int) (w' : World), w'.heap[g]? = some (.cells (mkC A m c (k + 1)).toArray 124 (0, 0)) → w.grownBy w' (some g) → ∃ y us', ((∃ z, y = .int .i64 z ∧ 0 ≤ z ∧ z < n) ∧ us' = mkC A m c (k + 1)) ∧ Ending.returned (.int .i64 ((x.tmod n + n).tmod n)) = .returned y ∧ w'.heap[g]? = some (.cells us'.toArray 124 (0, 0)) ∧ w.grownBy w' (some g) :=
    fun x w' h1 h2 => ⟨_, _, ⟨⟨_, rfl, take_range hn.1⟩, rfl⟩, rfl, h1, h2⟩
  have hmod : ∀ x : Int, -9223372036854775808 ≤ x.tmod n + n ∧ x.tmod n + n < 9223372036854775808 := fun x => by
    have h1 : -n < x.tmod n := by have := Int.lt_tmod_of_pos x hn.1; omega
    have h2 := Int.tmod_lt_of_pos x hn.1
    omega
  refine calls_own [.int .i64 n] Try.func92 Try.ntmps92 rfl (by simp) hg ?_
  conv => whnf
  refine sat_quiet mixed (by kernel_rfl) ?_
  conv => whnf
  refine ⟨fun ht => ?_, fun ht => ?_⟩
  · have hlt : k < (m : Int) := by simpa using ht
    obtain ⟨x, hx⟩ : ∃ x, xs[k.toNat]? = some x := ⟨_, List.getElem?_eq_getElem (by omega)⟩
    obtain ⟨b, off, rfl, hb, hG, hc⟩ := hs k.toNat (.int .i64 x) (by rw [List.getElem?_map, hx]; rfl)
    conv => whnf
    refine sat_quiet mixed (by kernel_rfl) ?_
    conv => whnf
    refine ⟨⟨by omega, by omega⟩, ?_⟩
    conv => whnf
    refine ⟨.int .i64 x, cells_one hb hG (by rw [show off + k.toNat * tsz Try.prog 3 = off + k.toNat from congrArg (off + ·) (Nat.mul_one _)]; exact hc), ?_⟩
    conv => whnf
    refine ⟨k + 1, wr64 (by omega), ?_⟩
    conv => whnf
    refine ⟨by omega, _, rfl, ?_⟩
    conv => whnf
    refine ⟨_, wr64 (hmod x), ?_⟩
    conv => whnf
    refine ⟨by omega, _, rfl, ?_⟩
    conv => whnf
    exact fin_own (us := mkC (some ⟨b, off, none⟩) m c (k + 1)) rfl rfl (key x)
  · conv => whnf
    refine ⟨k + 1, wr64 (by omega), ?_⟩
    conv => whnf
    refine ⟨by omega, _, rfl, ?_⟩
    conv => whnf
    refine ⟨_, wr64 (hmod 0), ?_⟩
    conv => whnf
    refine ⟨by omega, _, rfl, ?_⟩
    conv => whnf
    exact fin_own (us := mkC A m c (k + 1)) rfl rfl (key 0)
/-- A call of take by one that owns the maker. -/
theorem call_take {w0 : World} {G : Gs} {S : List Ow} {K : AV → List Ow → Prop} (i : Nat) {A : Option Addr} {m c : Nat} {xs : List Int} {k n : Int} (hi : S[i]? = some (.cells 124 ((mkC A m c k).map .v))) (hs : SlOld w0 G A (xs.map (.int .i64))) (hl : xs.length = m) (hm : m ≤ 1000000) (hk : 0 ≤ k ∧ k < 1000000) (hn : 0 < n ∧ n ≤ 65536)
    (hK : ∀ z, 0 ≤ z → z < n → K (one (.int .i64 z)) (S.set i (.cells 124 ((mkC A m c (k + 1)).map .v)))) : CallS Try.prog w0 G 92 [.p (.c (.ref i 0)), one (.int .i64 n)] S K := by
  refine call_own (fun x us' => (∃ z, x = .int .i64 z ∧ 0 ≤ z ∧ z < n) ∧ us' = mkC A m c (k + 1)) i hi (xs := [.int .i64 n]) rfl (by kernel_rfl) (fun w g ho hg => take_walk A m c xs k n g w (ho A _ hs) hl hm hk hn hg) ?_
  rintro x us' ⟨⟨z, rfl, h0, h1⟩, rfl⟩
  exact hK z h0 h1
set_option maxRecDepth 100000 in
theorem word_walk (A : Option Addr) (m c : Nat) (xs : List Int) (k : Int) (g : Nat) (w : World) (hs : SlOld w ⟨[g], []⟩ A (xs.map (.int .i64))) (hl : xs.length = m) (hm : m ≤ 1000000) (hk : 0 ≤ k ∧ k < 999990)
    (hg : w.heap[g]? = some (.cells (mkC A m c k).toArray 124 (0, 0))) :
    Calls Try.prog 101 #[.pointer (some ⟨g, 0, none⟩)] w fun e w' => ∃ x us', ((∃ z, x = .int .u32 z ∧ word z) ∧ us' = mkC A m c (k + 2)) ∧ e = .returned x ∧ w'.heap[g]? = some (.cells us'.toArray 124 (0, 0)) ∧ w.grownBy w' (some g) := by
  have key : ∀ (x : Int) (w' : World), word x → w'.heap[g]? = some (.cells (mkC A m c (k + 1 + 1)).toArray 124 (0, 0)) → w.grownBy w' (some g) → ∃ y us', ((∃ z, y = .int .u32 z ∧ word z) ∧ us' = mkC A m c (k + 2)) ∧ Ending.returned (.int .u32 x) = .returned y ∧ w'.heap[g]? = some (.cells us'.toArray 124 (0, 0)) ∧ w.grownBy w' (some g) :=
    fun x w' h0 h1 h2 => ⟨_, _, ⟨⟨_, rfl, h0⟩, rfl⟩, rfl, by rw [show k + 2 = k + 1 + 1 by omega]; exact h1, h2⟩
  refine calls_own [] Try.func101 Try.ntmps101 rfl (by simp) hg ?_
  conv => whnf
  refine call_take 0 rfl hs hl hm (by omega) (by omega) fun z z0 z1 => ?_
  conv => whnf
  refine ⟨z, by rw [wr32]; omega, ?_⟩
  conv => whnf
  refine call_take 0 rfl hs hl hm (by omega) (by omega) fun y y0 y1 => ?_
  conv => whnf
  refine ⟨fun _ => ?_, fun _ => ?_⟩
  · conv => whnf
    refine ⟨by omega, _, rfl, ?_⟩
    conv => whnf
    exact fin_own (us := mkC A m c (k + 1 + 1)) rfl rfl fun w' h1 h2 => key _ w' (by rw [Int.tmod_eq_emod_of_nonneg z0]; unfold word; omega) h1 h2
  conv => whnf
  refine ⟨fun _ => ?_, fun _ => ?_⟩
  · conv => whnf
    refine ⟨by omega, _, rfl, ?_⟩
    conv => whnf
    refine ⟨_, wr32 _, ?_⟩
    conv => whnf
    exact fin_own (us := mkC A m c (k + 1 + 1)) rfl rfl fun w' h1 h2 => key _ w' (word_mod _) h1 h2
  conv => whnf
  refine ⟨fun _ => ?_, fun _ => ?_⟩
  · conv => whnf
    refine ⟨_, wr32 _, ?_⟩
    conv => whnf
    exact fin_own (us := mkC A m c (k + 1 + 1)) rfl rfl fun w' h1 h2 => key _ w' (word_mod _) h1 h2
  conv => whnf
  refine ⟨by omega, _, rfl, ?_⟩
  conv => whnf
  exact fin_own (us := mkC A m c (k + 1 + 1)) rfl rfl fun w' h1 h2 => key _ w' (by rw [Int.tmod_eq_emod_of_nonneg z0]; unfold word; omega) h1 h2
theorem call_word {w0 : World} {G : Gs} {S : List Ow} {K : AV → List Ow → Prop} (i : Nat) {A : Option Addr} {m c : Nat} {xs : List Int} {k : Int} (hi : S[i]? = some (.cells 124 ((mkC A m c k).map .v))) (hs : SlOld w0 G A (xs.map (.int .i64))) (hl : xs.length = m) (hm : m ≤ 1000000) (hk : 0 ≤ k ∧ k < 999990)
    (hK : ∀ z, word z → K (one (.int .u32 z)) (S.set i (.cells 124 ((mkC A m c (k + 2)).map .v)))) : CallS Try.prog w0 G 101 [.p (.c (.ref i 0))] S K := by
  refine call_own (fun x us' => (∃ z, x = .int .u32 z ∧ word z) ∧ us' = mkC A m c (k + 2)) i hi (xs := []) rfl (by kernel_rfl) (fun w g ho hg => word_walk A m c xs k g w (ho A _ hs) hl hm hk hg) ?_
  rintro x us' ⟨⟨z, rfl, h0⟩, rfl⟩
  exact hK z h0
/-- The temporaries that have been written, as bits from 20 on, as the maker keeps them. -/
abbrev wrC (W : Nat) : List Value := [.bool (W.testBit 20), .bool (W.testBit 21), .bool (W.testBit 22), .bool (W.testBit 23), .bool (W.testBit 24), .bool (W.testBit 25), .bool (W.testBit 26), .bool (W.testBit 27)]
theorem wrC_at (W : Nat) {t : Nat} (h : t < 8) : (wrC W)[t]? = some (.bool (W.testBit (20 + t))) := by
  rcases t with _ | _ | _ | _ | _ | _ | _ | _ | t <;> first | rfl | omega

set_option maxRecDepth 100000 in
theorem source_walk (A : Option Addr) (m c : Nat) (xs : List Int) (k : Int) (W : Nat) (g : Nat) (w : World) (hs : SlOld w ⟨[g], []⟩ A (xs.map (.int .i64))) (hl : xs.length = m) (hm : m ≤ 1000000) (hk : 0 ≤ k ∧ k < 999990)
    (hg : w.heap[g]? = some (.cells (mkC A m c k).toArray 124 (0, 0))) :
    Calls Try.prog 100 #[.pointer (some ⟨g, 0, none⟩), .agg (wrC W).toArray] w fun e w' => ∃ x us', ((∃ z, x = .int .i64 z ∧ srcI W z) ∧ us' = mkC A m c (k + 1)) ∧ e = .returned x ∧ w'.heap[g]? = some (.cells us'.toArray 124 (0, 0)) ∧ w.grownBy w' (some g) := by
  refine calls_own [.agg (wrC W).toArray] Try.func100 Try.ntmps100 rfl (by simp) hg ?_
  conv => whnf
  refine call_take 0 rfl hs hl hm (by omega) (by omega) fun z z0 z1 => ?_
  conv => whnf
  refine ⟨fun hz => ?_, fun hz => ?_⟩
  · have hz : z < 19 := by simpa using hz
    conv => whnf
    exact fin_own (us := mkC A m c (k + 1)) rfl rfl fun w' h1 h2 => ⟨_, _, ⟨⟨_, rfl, ⟨by omega, by omega, by omega, .inl (by omega)⟩⟩, rfl⟩, rfl, h1, h2⟩
  have hz : ¬ z < 19 := by simpa using hz
  conv => whnf
  refine ⟨z - 19, wr64 (by omega), ?_⟩
  conv => whnf
  refine ⟨⟨by omega, by omega⟩, ?_⟩
  conv => whnf
  rw [show (List.map CV.v (wrC W).toArray.toList)[0 + (z - 19).toNat * tsz Try.prog 4]? = some (.v (.bool (W.testBit (20 + (z - 19).toNat)))) by
    rw [show 0 + (z - 19).toNat * tsz Try.prog 4 = (z - 19).toNat from (Nat.zero_add _).trans (Nat.mul_one _), List.getElem?_map]
    show ((wrC W)[(z - 19).toNat]?).map CV.v = _
    rw [wrC_at W (by omega)]; rfl]
  conv => whnf
  refine ⟨fun ht => ?_, fun ht => ?_⟩
  · conv => whnf
    refine ⟨z + 1, wr64 (by omega), ?_⟩
    conv => whnf
    exact fin_own (us := mkC A m c (k + 1)) rfl rfl fun w' h1 h2 => ⟨_, _, ⟨⟨_, rfl, ⟨by omega, by omega, by omega, .inr (by rw [show (z + 1).toNat = 20 + (z - 19).toNat by omega]; exact ht)⟩⟩, rfl⟩, rfl, h1, h2⟩
  · conv => whnf
    refine ⟨z - 19, wr64 (by omega), ?_⟩
    conv => whnf
    exact fin_own (us := mkC A m c (k + 1)) rfl rfl fun w' h1 h2 => ⟨_, _, ⟨⟨_, rfl, ⟨by omega, by omega, by omega, .inl (by omega)⟩⟩, rfl⟩, rfl, h1, h2⟩
theorem call_source {w0 : World} {G : Gs} {S : List Ow} {K : AV → List Ow → Prop} (i : Nat) {A : Option Addr} {m c : Nat} {xs : List Int} {k : Int} (W : Nat) {l : List CV} (hl8 : l = (wrC W).map .v) (hi : S[i]? = some (.cells 124 ((mkC A m c k).map .v))) (hs : SlOld w0 G A (xs.map (.int .i64))) (hl : xs.length = m) (hm : m ≤ 1000000) (hk : 0 ≤ k ∧ k < 999990)
    (hK : ∀ z, srcI W z → K (one (.int .i64 z)) (S.set i (.cells 124 ((mkC A m c (k + 1)).map .v)))) : CallS Try.prog w0 G 100 [.p (.c (.ref i 0)), .p (.agg l)] S K := by
  subst hl8
  refine call_own (fun x us' => (∃ z, x = .int .i64 z ∧ srcI W z) ∧ us' = mkC A m c (k + 1)) i hi (xs := [.agg (wrC W).toArray]) rfl (by kernel_rfl) (fun w g ho hg => source_walk A m c xs k W g w (ho A _ hs) hl hm hk hg) ?_
  rintro x us' ⟨⟨z, rfl, h0⟩, rfl⟩
  exact hK z h0
end Go.Proofs.Ytmjfgnnefcimiaa
namespace Go.Proofs.Ytmjfgnnefcimiaa
open Go.RowKit
/-- How the orders are gone through: all have come; number i is taken first; number i comes up, or else what follows; nothing else comes up. -/
inductive Tr where
  | done
  | q (i : Nat) (t : Tr)
  | alt (i : Nat) (t more : Tr)
  | no
def Tr.alts : Tr → List Nat
  | .alt i _ more => i :: more.alts
  | _ => []
def Tr.depth : Tr → Nat
  | .done => 0
  | .no => 0
  | .q _ t => t.depth + 1
  | .alt _ t more => max (t.depth + 1) more.depth
def Tr.ok (ops : Array Oper) : Tr → Bool → Array Bool → Bool
  | .done, inner, listed => !inner && (Region.ready .any ops listed).isEmpty
  | .q i t, inner, listed => !inner && Region.free .any ops listed i && (Region.ready .any ops listed).contains i && t.ok ops false (listed.setIfInBounds i true)
  | .alt i t more, inner, listed => (inner || Region.ready .any ops listed == i :: more.alts) && t.ok ops false (listed.setIfInBounds i true) && more.ok ops true listed
  | .no, inner, _ => inner
section
variable (P : Program) (W : World) (N : Nd)
/-- What is taken first: it yields the same whatever comes before it. -/
def firstK (f : Fr) (T : List Ow) (o : Oper) (K : AV → Prop) : Prop :=
  match o.op with
  | .move x => forceAV (f.ev x) K
  | .assign x => forceAV (f.ev x) K
  | .fieldAddr s x k => (match f.ev x with
    | .p (.c (.ref i off)) => (match fldOff P s k with | some n => K (.p (.c (.ref i (off + n)))) | none => False)
    | _ => (match opTy P o.op with | true => qop P W Gs.nil [] (plainF f) o K | false => False))
  | .build t parts => buildK P T f t parts K
  | _ => (match opTy P o.op with | true => qop P W Gs.nil [] (plainF f) o K | false => False)
def trK (ops : Array Oper) (l : List Oper) : Tr → Fr → List Ow → (Fr → List Ow → Prop) → Prop
  | .done, f, T, K => K f T
  | .no, _, _, _ => True
  | .q i t, f, T, K => (match l[i]? with
    | none => False
    | some o => (match dstOk N.n o.dst with
      | false => False
      | true => (match guardOf ops f o with
        | some true => firstK P W f T o fun v => f.putK o.dst v fun f' => trK ops l t f' T K
        | some false => f.putK o.dst (.p (.c .any)) fun f' => trK ops l t f' T K
        | none => False)))
  | .alt i t more, f, T, K => (match l[i]? with
    | none => False
    | some o => (match guardOf ops f o with
        | some true => opK P W Gs.nil N o f T fun f' T' => trK ops l t f' T' K
        | _ => False)) ∧ trK ops l more f T K
end
section
variable {P : Program} {W : World} {N : Nd} {ops : Array Oper} {l : List Oper}
theorem firstK_sound {f : Fr} {T : List Ow} {o : Oper} {K : AV → Prop} (h : firstK P W f T o K) {r : Env} {w : World} (hR : Rel W Gs.nil T r w) {a : Act} (hf : FDen r f a) :
    ∃ v u, K v ∧ v.den r u ∧ ∀ w', Below W.heap.size W w' → (execOp a.eval o).run P w' = .ok (.value u) w' := by
  have plain : (match opTy P o.op with | true => qop P W Gs.nil [] (plainF f) o K | false => False) → ∃ v u, K v ∧ v.den r u ∧ ∀ w', Below W.heap.size W w' → (execOp a.eval o).run P w' = .ok (.value u) w' := fun h => by
    split at h
    · rename_i hty
      obtain ⟨v, u, hK, hden, hrun⟩ := qop_sound h hty (rel_none W) (plain_den hf)
      exact ⟨v, u, hK, AV.den_mono ⟨(fun i b h => by cases h), (fun i b h => by cases h)⟩ _ _ hden, hrun⟩
    · exact h.elim
  unfold firstK at h
  split at h
  · rename_i x hop
    exact ⟨_, _, forceAV_iff.1 h, hf.ev x, fun w' _ => by simp [execOp, hop]⟩
  · rename_i x hop
    exact ⟨_, _, forceAV_iff.1 h, hf.ev x, fun w' _ => by simp [execOp, hop]⟩
  · rename_i s x k hop
    split at h
    · rename_i i off he
      split at h
      · rename_i n hn
        have hx := hf.ev x
        rw [he] at hx
        obtain ⟨b, hb, hu⟩ := den_ref hx
        exact ⟨_, _, h, den_mk_ref hb, fun w' _ => by simp [execOp, hop, hu, run_fieldAt hn]⟩
      · exact h.elim
    · exact plain h
  · rename_i t parts hop
    obtain ⟨v, u, hK, hd, hrun⟩ := buildK_sound hR hf h
    exact ⟨v, u, hK, hd, fun w' _ => by simp [execOp, hop, hrun w']⟩
  · exact plain h
theorem trK_sound (hl : ∀ i : Nat, l[i]? = ops[i]?) (hns : Region.noSelect ops = true) {K : Fr → List Ow → Prop} {Q : Exit → Act → World → Prop} (hQ0 : ∀ c a w, ¬ Q (.panic c) a w) (hQ : ∀ f T a w, K f T → Good W Gs.nil N f T a w → Q .normal a w) :
    ∀ (t : Tr) (inner : Bool) (listed : Array Bool) (f : Fr) (T : List Ow) (n : Nat), t.ok ops inner listed = true → t.depth ≤ n → trK P W N ops l t f T K → ∀ a w, Good W Gs.nil N f T a w →
      (inner = false → wpAnyH P .any ops Q (fun w' => Below W.heap.size W w') n listed a w) ∧
      (∀ m, n = m + 1 → ∀ i ∈ t.alts, wpOp P ops Q i (fun a' w' => Below W.heap.size W w' ∧ wpAnyH P .any ops Q (fun w' => Below W.heap.size W w') m (listed.setIfInBounds i true) a' w') a w)
  | .done, inner, listed, f, T, n, hB, _, h, a, w, hg => by
    refine ⟨fun _ => wpAnyH_done (by simp [Tr.ok] at hB; exact hB.2) (hQ f T a w h hg) _, fun m _ i hi => by cases hi⟩
  | .no, inner, listed, f, T, n, hB, _, h, a, w, hg => by
    refine ⟨fun he => ?_, fun m _ i hi => by cases hi⟩
    simp [Tr.ok] at hB; rw [hB] at he; cases he
  | .q i t, inner, listed, f, T, n, hB, hn, h, a, w, hg => by
    refine ⟨fun _ => ?_, fun m _ i hi => by cases hi⟩
    simp only [Tr.ok, Bool.and_eq_true] at hB
    obtain ⟨⟨⟨_, hB1⟩, hB2⟩, hB3⟩ := hB
    simp only [Tr.depth] at hn
    obtain ⟨n, rfl⟩ : ∃ k, n = k + 1 := ⟨n - 1, by omega⟩
    unfold trK at h
    split at h
    · exact h.elim
    · rename_i o ho
      rw [hl] at ho
      split at h
      · exact h.elim
      · rename_i hdst
        obtain ⟨r, hR, hf, hN, hd⟩ := hg
        split at h
        · rename_i hgd
          have hw := guard_wanted hf hgd
          obtain ⟨v, u, hK, hden, hrun⟩ := firstK_sound h hR hf
          have hK := putK_iff.1 hK
          refine wpAnyH_take (v := u) ho hns hB1 hB2 (fun c a w h => absurd h (hQ0 c _ w)) (.inl ⟨hw, hrun⟩) hR.toBelow ?_
          exact (trK_sound hl hns hQ0 hQ t false _ _ T n hB3 (by omega) hK _ w ⟨r, hR, hf.put hden (by rw [hN]; exact hdst), (put_size a _ _).trans hN, (put_defers a _ _).trans hd⟩).1 rfl
        · rename_i hgd
          have hw := guard_wanted hf hgd
          have hK := putK_iff.1 h
          refine wpAnyH_take (v := undef) ho hns hB1 hB2 (fun c a w h => absurd h (hQ0 c _ w)) (.inr ⟨hw, rfl⟩) hR.toBelow ?_
          exact (trK_sound hl hns hQ0 hQ t false _ _ T n hB3 (by omega) hK _ w ⟨r, hR, hf.putAny _ (by rw [hN]; exact hdst), (put_size a _ _).trans hN, (put_defers a _ _).trans hd⟩).1 rfl
        · exact h.elim
  | .alt i t more, inner, listed, f, T, n, hB, hn, h, a, w, hg => by
    simp only [Tr.ok, Bool.and_eq_true] at hB
    obtain ⟨⟨hB1, hB2⟩, hB3⟩ := hB
    simp only [Tr.depth] at hn
    unfold trK at h
    obtain ⟨h1, h2⟩ := h
    have all : ∀ m, n = m + 1 → ∀ j ∈ (Tr.alt i t more).alts, wpOp P ops Q j (fun a' w' => Below W.heap.size W w' ∧ wpAnyH P .any ops Q (fun w' => Below W.heap.size W w') m (listed.setIfInBounds j true) a' w') a w := by
      intro m hm j hj
      simp only [Tr.alts, List.mem_cons] at hj
      rcases hj with rfl | hj
      · split at h1
        · exact h1.elim
        · rename_i o ho
          rw [hl] at ho
          obtain ⟨r, hR, hf, hN, hd⟩ := hg
          split at h1
          · rename_i hgd
            have hw := guard_wanted hf hgd
            unfold wpOp
            simp only [ho, hw, if_true]
            refine .inl (se_wp ((opK_sound h1).out r a w hR hf hN hd (fun a' w' => Below W.heap.size W w' ∧ wpAnyH P .any ops Q (fun w' => Below W.heap.size W w') m (listed.setIfInBounds j true) a' w') Q fun f' T' a' w' hk hg' => ?_) fun _ _ h => h)
            refine ⟨?_, (trK_sound hl hns hQ0 hQ t false _ f' T' m hB2 (by omega) hk a' w' hg').1 rfl⟩
            obtain ⟨r', hR', _⟩ := hg'
            exact hR'.toBelow
          · exact h1.elim
      · exact (trK_sound hl hns hQ0 hQ more true listed f T n hB3 (by omega) h2 a w hg).2 m hm j hj
    refine ⟨fun he => ?_, all⟩
    obtain ⟨m, rfl⟩ : ∃ k, n = k + 1 := ⟨n - 1, by omega⟩
    have hr : Region.ready .any ops listed = (Tr.alt i t more).alts := by
      rw [he] at hB1
      simpa [Tr.alts] using hB1
    exact wpAnyH_all hr (by simp [Tr.alts]) (all m rfl)
/-- A drawn region, by the tree of its orders. -/
theorem sat_any {id : Nat} {l : List Oper} {f : Fr} {S : List Ow} {K : Exit → Fr → List Ow → Prop} (t : Tr) (hm : P.follows .mixedOrders = true) (hns : Region.noSelect l.toArray = true) (hB : (t.ok l.toArray false (Array.replicate l.toArray.size false) && Nat.ble t.depth l.length) = true)
    (h : trK P W N l.toArray l t f S (K .normal)) : Sat none P W Gs.nil N (.region id l.toArray true) f S K := by
  refine ⟨fun n a w ⟨r, hR, hf, hN, hd⟩ => wpIn_wide.2 ?_⟩
  simp only [Bool.and_eq_true] at hB
  refine Code.wp_mono (Q := fun e a w => match e with | .normal => PostK W Gs.nil N K .normal a w | _ => False) (fun e a w h => by cases e <;> first | exact h | exact h.elim) (wp_region_held (S := fun w' => Below W.heap.size W w') hm ?_)
  have := (trK_sound (P := P) (W := W) (N := N) (Q := fun e a w => match e with | .normal => PostK W Gs.nil N K .normal a w | _ => False) (fun i => by simp) hns (fun c a w h => h) (fun f T a w hk hg => ⟨f, T, hk, hg⟩) t false _ f S l.length hB.1 (Nat.le_of_ble_eq_true hB.2) h a w.drew ⟨r, hR.drew, hf, hN, hd⟩).1 rfl
  simpa using this
end
end Go.Proofs.Ytmjfgnnefcimiaa
namespace Go.Proofs.Ytmjfgnnefcimiaa
open Go.RowKit
section
variable {w0 : World} {G : Gs} {S : List Ow} {r : Env} {w : World}
/-- The block of own entry i turned, and a new entry. -/
theorem Rel.snocG (h : Rel w0 G S r w) {i g : Nat} (hi : r.blk i = some g) {w' : World} (hg : w.grownBy w' (some g)) {o1 o : Ow} {b : Option Nat} {v : Option Value} (hnb : ∀ x, b = some x → w.heap.size ≤ x ∧ x < w'.heap.size) (ho1 : o1.holds (r.set S.length b v) w' i) (ho : o.holds (r.set S.length b v) w' S.length) :
    Rel w0 G (S.set i o1 ++ [o]) (r.set S.length b v) w' := by
  have hle := h.le_new b v
  have hil := h.lt_of_blk hi
  have hlen : (S.set i o1).length = S.length := by simp
  refine ⟨hg.os.trans h.os, hg.tape.trans h.tape, hg.output.trans h.output, Nat.le_trans h.size hg.size, fun k hk hkG => ?_, fun j o' hj => ?_, fun a c x hx hy => ?_, fun a x hx => ?_, fun a ha => ?_, fun a ha => ?_, fun a x hx => hle.blk _ _ (h.first a x hx)⟩
  · rw [hg.block k (Nat.lt_of_lt_of_le hk h.size) (fun e => by injection e with e; subst e; exact hkG ((h.new i k hi).2 hk))]
    exact h.old k hk hkG
  · rcases get_snoc hj with ⟨h1, h2⟩ | ⟨h1, h2⟩
    · by_cases hij : i = j
      · subst hij
        rw [List.getElem?_set_self hil] at h2
        injection h2 with h2; subst h2; exact ho1
      · rw [List.getElem?_set_ne hij] at h2
        refine Ow.holds_block (Ow.holds_mono hle (h.own j o' h2) (by simp only [Env.set]; rw [if_neg (by omega)]) (fun k x hk => ?_)) (fun x hx => ?_) hg.size (fun x hx hno => hg.block x hx (fun e => by injection e with e; subst e; exact hno i (hle.blk _ _ hi)))
        · simp only [Env.set] at hk
          split at hk
          · exact .inr (hnb x hk).1
          · exact .inl hk
        · simp only [Env.set] at hx
          rw [if_neg (by omega)] at hx
          exact hg.block x (h.new j x hx).1 (fun e => by injection e with e; subst e; exact hij (h.inj i j _ hi hx))
    · rw [hlen] at h1
      subst h1; subst h2; exact ho
  · simp only [Env.set] at hx hy
    split at hx <;> split at hy
    · omega
    · have h1 := (hnb x hx).1
      have h2 := (h.new _ _ hy).1
      omega
    · have h1 := (hnb x hy).1
      have h2 := (h.new _ _ hx).1
      omega
    · exact h.inj _ _ _ hx hy
  · simp only [Env.set] at hx
    split at hx
    · refine ⟨(hnb x hx).2, fun hlt => ?_⟩
      have := (hnb x hx).1
      have := h.size
      omega
    · exact ⟨Nat.lt_of_lt_of_le (h.new a x hx).1 hg.size, (h.new a x hx).2⟩
  · simp only [List.length_append, hlen, List.length_cons, List.length_nil] at ha
    simp only [Env.set]; rw [if_neg (by omega)]; exact h.outB a (by omega)
  · simp only [List.length_append, hlen, List.length_cons, List.length_nil] at ha
    simp only [Env.set]; rw [if_neg (by omega)]; exact h.outV a (by omega)
end
theorem own_new {w' : World} {B : Nat} {e : TypeId} {size n : Nat} {v : Value} {ys : List Value} (hown : w'.ownsRow B e size v n ys) : ∀ x, v.ownBlock = some x → B ≤ x ∧ x < w'.heap.size := by
  intro x hx
  rcases hown.2 with ⟨h1, _⟩ | ⟨g, cap, cur, h1, hg, hh, _⟩
  · rw [h1] at hx; cases hx
  · rw [h1] at hx; simp [Value.ownBlock] at hx; subst hx
    refine ⟨hg, ?_⟩
    rcases Nat.lt_or_ge g w'.heap.size with h2 | h2
    · exact h2
    · rw [Array.getElem?_eq_none h2] at hh; cases hh
theorem call_own_row {P : Program} {w0 : World} {G : Gs} {fid : FuncId} {S : List Ow} {K : AV → List Ow → Prop} {t : TypeId} {us : List Value} {args : List AV} {xs : List Value} (ety : TypeId) (size : Nat) (post : Nat → List Value → List Value → Prop) (i : Nat) (hi : S[i]? = some (.cells t (us.map .v))) (hx : avals args = some xs) (hok : fnOk P fid = true)
    (h : ∀ w g, OldKeep w0 G w g → w.heap[g]? = some (.cells us.toArray t (0, 0)) → Calls P fid (.pointer (some ⟨g, 0, none⟩) :: xs).toArray w fun e w' => ∃ v n ys us', post n ys us' ∧ e = .returned v ∧ w'.ownsRow w.heap.size ety size v n ys ∧ w'.heap[g]? = some (.cells us'.toArray t (0, 0)) ∧ w.grownBy w' (some g))
    (hK : ∀ n ys us', post n ys us' → K (.p (.c (.row S.length))) (S.set i (.cells t (us'.map .v)) ++ [.row ety size n ys])) : CallS P w0 G fid (.p (.c (.ref i 0)) :: args) S K := by
  refine ⟨hok, fun r w vs hR hd => ?_⟩
  obtain ⟨u1, l1, rfl, d1, d2⟩ := hd
  obtain rfl := avals_den hx d2
  obtain ⟨g, hb, rfl⟩ := den_ref d1
  obtain ⟨b', us1, e1, e2, e3⟩ := hR.own i _ hi
  rw [hb] at e1; injection e1 with e1; subst e1
  obtain rfl := denL_vals_inv e3
  refine (h w g (hR.oldKeep hb) e2).mono fun e w' ⟨v, n, ys, us', hp, he, hown, hg, hgr⟩ => ?_
  exact ⟨.p (.c (.row S.length)), v, _, r.set S.length v.ownBlock (some v), he, by simp [AV.den, Pc.den, CV.den, Env.set], hR.snocG (o1 := .cells t (us'.map .v)) (o := .row ety size n ys) hb hgr (own_new hown) ⟨g, us', (hR.le_new _ _).blk _ _ hb, hg, denL_vals us'⟩ ⟨v, by simp [Env.set], by simp [Env.set], own_base hown (Nat.zero_le _)⟩, hR.le_new _ _, hK n ys us' hp⟩
theorem fin_own_row {w0 : World} {g j : Nat} {S : List Ow} {t e : TypeId} {us : List Value} {size n : Nat} {xs : List Value} {R : Ending → World → Prop} (h0 : S[0]? = some (.cells t (us.map .v))) (hj : S[j]? = some (.row e size n xs)) (hj0 : 0 < j)
    (h : ∀ w v, w.heap[g]? = some (.cells us.toArray t (0, 0)) → w0.grownBy w (some g) → w.ownsRow w0.heap.size e size v n xs → R (.returned v) w) : Fin w0 ⟨[g], []⟩ S (.p (.c (.row j))) R := by
  refine ⟨fun r w u hR hd => ?_⟩
  have hu := den_row hd
  obtain ⟨b, us', e1, e2, e3⟩ := hR.own 0 _ h0
  have hfirst := hR.first 0 g rfl
  rw [hfirst] at e1; injection e1 with e1; subst e1
  obtain rfl := denL_vals_inv e3
  obtain ⟨v, f1, f2, f3⟩ := hR.own j _ hj
  rw [hu] at f1; injection f1 with f1; subst f1
  refine h w u e2 hR.grown ⟨f3.1, ?_⟩
  rcases f3.2 with h1 | ⟨b', cap, cur, h1, _, h2⟩
  · exact .inl h1
  · refine .inr ⟨b', cap, cur, h1, ?_, h2⟩
    have hb : r.blk j = some b' := by rw [← f2, h1]; rfl
    rcases Nat.lt_or_ge b' w0.heap.size with h3 | h3
    · have h4 := (hR.new j b' hb).2 h3
      rcases h4 with h4 | h4
      · simp at h4; subst h4
        have := hR.inj 0 j _ hfirst hb
        omega
      · cases h4
    · exact h3
section
variable {P : Program} {w0 : World} {G : Gs} {N : Nat} {c d : Code} {f : Fr} {S : List Ow} {Q : Exit → Act → World → Prop} {fn : Func} {R : Ending → World → Prop}
theorem calls_own_satq {fid : FuncId} {w : World} {g : Nat} {t : TypeId} {us : List Value} (xs : List Value) (hf : P.funcs[fid]? = some fn) (hN : fn.ntmps = N) (hb : fn.body = some c) (hle : xs.length + 1 ≤ N) (hg : w.heap[g]? = some (.cells us.toArray t (0, 0)))
    (h : SatQ P w ⟨[g], []⟩ ⟨N, []⟩ c (argFr (.p (.c (.ref 0 0)) :: xs.map fun x => AV.of x) 0) [.cells t (us.map .v)] (bodyPostM Fence.wide 10 P fn R)) : Calls P fid (.pointer (some ⟨g, 0, none⟩) :: xs).toArray w R := by
  refine callsIn_wide.1 (callsIn_of_wp_marks (n := 10) hf hb trivial (h.out _ w ⟨envOne g, rel_own1 w hg, fun i => ?_, by simp; omega, rfl⟩))
  refine argFr_get (r := envOne g) (.p (.c (.ref 0 0)) :: xs.map fun x => AV.of x) (.pointer (some ⟨g, 0, none⟩) :: xs) 0 ⟨_, _, rfl, den_mk_ref (by simp [envOne]), avdenL_of xs⟩ (fun j u hj => ?_) i
  rw [Nat.zero_add, Array.getD_eq_getD_getElem?, Array.getElem?_append_left (by simp; rcases Nat.lt_or_ge j (xs.length + 1) with h1 | h1; exact h1; rw [List.getElem?_eq_none (by simpa using h1)] at hj; cases hj)]
  have : (Value.pointer (some ⟨g, 0, none⟩) :: xs).toArray[j]? = some u := by simpa using hj
  rw [this]; rfl
/-- A walk cut in two: what follows is shown once, from states of one kind. -/
theorem satq_cut {α : Type} {N : Nd} (T : α → Fr) (U : α → List Ow) (hc : vc none P w0 G N c f S fun e f S => match e with | .normal => ∃ y, Ent w0 G N f S (T y) (U y) | e => AtQ w0 G N e f S Q) (hd : ∀ y, SatQ P w0 G N d (T y) (U y) Q) : SatQ P w0 G N (.seq c d) f S Q :=
  ⟨fun a w hg => wpIn_seq (wpIn_mono ((vc_sound (ro := none) c f S _ hc).out 10 a w hg) fun e a' w' ⟨f', S', hk, hg'⟩ => by
    cases e with
    | normal => obtain ⟨y, hy⟩ := hk; exact (hd y).out a' w' (hy.out a' w' hg')
    | exit id => exact hk.out a' w' hg'
    | goto l => exact hk.out a' w' hg'
    | ret => exact hk.out a' w' hg'
    | panic ch => exact hk.out a' w' hg'
    | outgrown => exact hk.out a' w' hg')⟩
theorem satq_as {N : Nd} {f' : Fr} {S' : List Ow} (h : Ent w0 G N f S f' S') (k : SatQ P w0 G N d f' S' Q) : SatQ P w0 G N d f S Q := ⟨fun a w hg => k.out a w (h.out a w hg)⟩
end
end Go.Proofs.Ytmjfgnnefcimiaa
namespace Go.Proofs.Ytmjfgnnefcimiaa
open Go.RowKit

/-- A step of the check, taken apart. -/
theorem ck_step {s s1 : Ck} {o : BOp} {x y : Bool} (h : ckNext s o x y = some s1) : formedB o = true ∧ placedB s o x y = true ∧ (o.code = 20 → o.n = (s.marks : Int) ∧ s1 = ⟨s.marks + 1, 0, false⟩) ∧
    (o.code ≠ 20 → (∀ v ∈ reads o, readB s v = true) ∧ s1 = ⟨s.marks, if 20 ≤ writes o then s.written ||| 2 ^ (writes o).toNat else s.written, s.changed || (stores o.code || decide (0 ≤ writes o ∧ writes o < 20))⟩) := by
  unfold ckNext at h
  by_cases hf : (formedB o && placedB s o x y) = true
  · rw [if_pos hf] at h
    simp only [Bool.and_eq_true] at hf
    refine ⟨hf.1, hf.2, fun hc => ?_, fun hc => ?_⟩
    · rw [if_pos (by simp [hc])] at h
      by_cases hn : (o.n == (s.marks : Int)) = true
      · rw [if_pos hn] at h; injection h with h; exact ⟨by simpa using hn, h.symm⟩
      · rw [if_neg hn] at h; cases h
    · rw [if_neg (by simpa using hc)] at h
      by_cases hr : (reads o).all (readB s) = true
      · rw [if_pos hr] at h; injection h with h; exact ⟨fun v hv => List.all_eq_true.1 hr v hv, h.symm⟩
      · rw [if_neg hr] at h; cases h
  · rw [if_neg hf] at h; cases h
theorem ck_mark {s : Ck} {o : BOp} {x y : Bool} (hf : formedB o = true) (hp : placedB s o x y = true) (hc : o.code = 20) (hn : o.n = (s.marks : Int)) : ckNext s o x y = some ⟨s.marks + 1, 0, false⟩ := by
  unfold ckNext
  rw [if_pos (by rw [hf, hp]; rfl), if_pos (by simp [hc]), if_pos (by simp [hn])]
theorem ck_op {s : Ck} {o : BOp} {x y : Bool} (hf : formedB o = true) (hp : placedB s o x y = true) (hc : o.code ≠ 20) (hr : ∀ v ∈ reads o, readB s v = true) :
    ckNext s o x y = some ⟨s.marks, if 20 ≤ writes o then s.written ||| 2 ^ (writes o).toNat else s.written, s.changed || (stores o.code || decide (0 ≤ writes o ∧ writes o < 20))⟩ := by
  unfold ckNext
  rw [if_pos (by rw [hf, hp]; rfl), if_neg (by simpa using hc), if_pos (List.all_eq_true.2 hr)]
theorem ck_cons {s s1 : Ck} {o : BOp} {l : List BOp} (h : ckNext s o l.isEmpty (exitNext l) = some s1) : ckRun s (o :: l) = ckRun s1 l := by
  show (match ckNext s o l.isEmpty (exitNext l) with | some s' => ckRun s' l | none => none) = _
  rw [h]
theorem ck_uncons {s s2 : Ck} {o : BOp} {l : List BOp} (h : ckRun s (o :: l) = some s2) : ∃ s1, ckNext s o l.isEmpty (exitNext l) = some s1 ∧ ckRun s1 l = some s2 := by
  change (match ckNext s o l.isEmpty (exitNext l) with | some s' => ckRun s' l | none => none) = _ at h
  cases h1 : ckNext s o l.isEmpty (exitNext l) with
  | none => rw [h1] at h; cases h
  | some s1 => rw [h1] at h; exact ⟨s1, rfl, h⟩
theorem placed_parts {s : Ck} {o : BOp} {x y : Bool} : placedB s o x y = true ↔ endsB o.code = x ∧ (o.code = 23 → y = true) ∧ (leaves o.code = true → s.changed = false) := by
  unfold placedB
  simp only [Bool.and_eq_true, Bool.not_eq_true', Bool.and_eq_false_iff, beq_iff_eq, Bool.not_eq_false', beq_eq_false_iff_ne]
  constructor
  · rintro ⟨⟨h1, h2⟩, h3⟩
    refine ⟨h1, fun e => ?_, fun e => ?_⟩
    · rcases h2 with h2 | h2
      · exact absurd e h2
      · exact h2
    · rcases h3 with h3 | h3
      · rw [e] at h3; cases h3
      · exact h3
  · rintro ⟨h1, h2, h3⟩
    refine ⟨⟨h1, ?_⟩, ?_⟩
    · by_cases e : o.code = 23
      · exact .inr (h2 e)
      · exact .inl e
    · by_cases e : leaves o.code = true
      · exact .inr (h3 e)
      · exact .inl (by simpa using e)
/-- What the check asks of what follows an operation. -/
structure Follows (l m : List BOp) : Prop where
  empty : m.isEmpty = l.isEmpty
  exit : exitNext l = true → exitNext m = true
theorem header_of {b : Blk} {l : List BOp} (h : headerB b = true) (h1 : 1 ≤ l.length) (h2 : l.length ≤ b.ops.length) (h3 : ∀ o, b.ops.head? = some o → o.code = 20 → ∃ p, l.head? = some p ∧ p.code = 20) : headerB ⟨b.at_, b.pages, l⟩ = true := by
  unfold headerB at h ⊢
  simp only [Bool.and_eq_true, decide_eq_true_eq] at h ⊢
  obtain ⟨⟨⟨k1, k2⟩, k3⟩, k4⟩ := h
  refine ⟨⟨⟨k1, k2⟩, by show 1 ≤ l.length ∧ l.length ≤ 2000; omega⟩, ?_⟩
  cases hb : b.ops with
  | nil => rw [hb] at k4; cases k4
  | cons o r =>
    rw [hb] at k4
    obtain ⟨p, hp, hc⟩ := h3 o (by rw [hb]; rfl) (by simpa using k4)
    cases l with
    | nil => cases hp
    | cons q m => injection hp with hp; subst hp; simp [hc]

/-! Fold. -/
theorem fold_nonempty : ∀ (l : List BOp) (f : Int → Option Int) {s s1 : Ck}, ckRun s l = some s1 → l ≠ [] → foldRun f l ≠ []
  | [], _, _, _, _, hl => absurd rfl hl
  | o :: l, f, s, s1, h, _ => by
    obtain ⟨s2, h1, h2⟩ := ck_uncons h
    unfold foldRun
    split
    · simp
    · rename_i hk
      refine fold_nonempty l _ h2 fun hl => ?_
      subst hl
      obtain ⟨hf, hp, _, _⟩ := ck_step h1
      have he := (placed_parts.1 hp).1
      unfold foldB at hk
      split at hk
      · simp at hk
      split at hk
      · simp at hk
      split at hk
      · simp at hk
      split at hk
      · rename_i hc
        simp only [Bool.and_eq_true, beq_iff_eq] at hc
        rw [hc.1.1] at he; cases he
      split at hk
      · rename_i hc
        simp only [Bool.and_eq_true, beq_iff_eq] at hc
        rw [hc.1] at he; cases he
      split at hk
      · simp at hk
      · simp at hk
theorem foldB_exit (f : Int → Option Int) {o : BOp} (h : o.code = 24) : foldB f o = (o, true) := by
  unfold foldB
  have hb : isBin o.code = false := by rw [h]; rfl
  have hm : memI o.code [3, 4, 6, 7, 8, 9, 10] = false := by rw [h]; rfl
  rw [hb, hm, h]
  simp
theorem fold_exit {l : List BOp} (f : Int → Option Int) (h : exitNext l = true) : exitNext (foldRun f l) = true := by
  cases l with
  | nil => cases h
  | cons o l =>
    have hc : o.code = 24 := by simpa [exitNext] using h
    unfold foldRun
    rw [foldB_exit _ hc]
    simp [exitNext, hc]
theorem placed_keep {s s1 : Ck} {o : BOp} {x y x' y' : Bool} (h : ckNext s o x y = some s1) (hx : x' = x) (hy : y = true → y' = true) : ckNext s o x' y' = some s1 := by
  subst hx
  obtain ⟨hf, hp, h1, h2⟩ := ck_step h
  obtain ⟨p1, p2, p3⟩ := placed_parts.1 hp
  have hp' : placedB s o x' y' = true := placed_parts.2 ⟨p1, fun e => hy (p2 e), p3⟩
  by_cases hc : o.code = 20
  · obtain ⟨e1, e2⟩ := h1 hc
    rw [e2]; exact ck_mark hf hp' hc e1
  · obtain ⟨e1, e2⟩ := h2 hc
    rw [e2]; exact ck_op hf hp' hc e1
/-- An operation that writes the same variable and no memory, in the place of another one. -/
theorem ck_put {s s1 : Ck} {o p : BOp} {x y y' : Bool} (h : ckNext s o x y = some s1) (hD : 2 ≤ o.code ∧ o.code ≤ 15) (hc : p.code = 1 ∨ p.code = 2) (hd : p.d = o.d) (hb : p.b = 0) (hn : p.code = 2 → p.n = 0) (ha : p.code = 1 → p.a = 0) (ha2 : p.code = 2 → p.a = o.a) : x = false ∧ ckNext s p x y' = some s1 := by
  obtain ⟨hf, hp, _, h2⟩ := ck_step h
  obtain ⟨p1, p2, p3⟩ := placed_parts.1 hp
  have hx : x = false := by
    rw [← p1]; unfold endsB; rw [decide_eq_false_iff_not]; omega
  refine ⟨hx, ?_⟩
  obtain ⟨hr, hs⟩ := h2 (by omega)
  have hDo : hasD o.code = true := by unfold hasD; rw [decide_eq_true_eq]; omega
  have hDp : hasD p.code = true := by unfold hasD; rw [decide_eq_true_eq]; omega
  have hAo : hasA o.code = true := by unfold hasA; rw [decide_eq_true_eq]; omega
  have hBp : hasB p.code = false := by unfold hasB; rw [decide_eq_false_iff_not]; omega
  have hwo : writes o = o.d := by unfold writes; rw [hDo]; rfl
  have hwp : writes p = o.d := by unfold writes; rw [hDp, if_pos rfl, hd]
  have hf' := hf
  unfold formedB at hf
  simp only [Bool.and_eq_true] at hf
  obtain ⟨⟨⟨⟨f1, f2⟩, f3⟩, f4⟩, f5⟩ := hf
  have hfp : formedB p = true := by
    unfold formedB
    simp only [Bool.and_eq_true]
    refine ⟨⟨⟨⟨by unfold isOp; rw [decide_eq_true_eq]; omega, by rw [hDp, hd]; rw [hDo] at f2; exact f2⟩, ?_⟩, by rw [hBp, hb]; rfl⟩, ?_⟩
    · rcases hc with hc | hc
      · rw [ha hc, hc]; rfl
      · rw [ha2 hc, show hasA p.code = hasA o.code by rw [hAo, hc]; rfl]; exact f3
    · rcases hc with hc | hc
      · rw [hc]; rfl
      · rw [hn hc]; simp
  have hrp : ∀ v ∈ reads p, readB s v = true := fun v hv => by
    unfold reads at hv
    rw [hBp] at hv
    rcases hc with hc | hc
    · rw [hc] at hv; simp [hasA] at hv
    · rw [hc, ha2 hc] at hv
      simp [hasA] at hv
      subst hv
      exact hr _ (by unfold reads; rw [hAo]; simp)
  have hst : stores o.code = false := by unfold stores; rw [decide_eq_false_iff_not]; omega
  have hsp : stores p.code = false := by unfold stores; rw [decide_eq_false_iff_not]; omega
  have hpl : placedB s p x y' = true := placed_parts.2 ⟨by rw [hx]; unfold endsB; rw [decide_eq_false_iff_not]; omega, fun e => by omega, fun e => by unfold leaves at e; rw [decide_eq_true_eq] at e; omega⟩
  rw [ck_op hfp hpl (by omega) hrp, hs, hwo, hwp, hst, hsp]
theorem ck_leave {s s1 : Ck} {o : BOp} {x y y' : Bool} {n : Int} (h : ckNext s o x y = some s1) (hc : o.code = 23 ∨ o.code = 25) : ckNext s ⟨24, 0, 0, 0, n⟩ true y' = some s1 := by
  obtain ⟨hf, hp, _, h2⟩ := ck_step h
  obtain ⟨hr, hs⟩ := h2 (by omega)
  have hwo : writes o = -1 := by unfold writes; rcases hc with hc | hc <;> rw [hc] <;> rfl
  have hst : stores o.code = false := by rcases hc with hc | hc <;> rw [hc] <;> rfl
  have hk := ck_op (s := s) (o := ⟨24, 0, 0, 0, n⟩) (x := true) (y := y') rfl (placed_parts.2 ⟨rfl, fun e => absurd (show (24 : Int) = 23 from e) (by decide), fun e => by cases e⟩) (show (24 : Int) ≠ 20 by decide) (fun v hv => by simp [reads, hasA, hasB] at hv)
  rw [hk, hs, hwo, hst]
  rfl
/-- What replaces an operation, for the check. -/
theorem foldB_step (f : Int → Option Int) {o : BOp} {s s1 : Ck} {x y : Bool} (h : ckNext s o x y = some s1) :
    foldB f o = (o, true) ∨ ((foldB f o).2 = true ∧ (foldB f o).1.code ≠ 24 ∧ x = false ∧ ∀ y', ckNext s (foldB f o).1 x y' = some s1) ∨ ((foldB f o).2 = true ∧ (foldB f o).1.code = 24 ∧ (o.code = 23 ∨ o.code = 25) ∧ ∀ y', ckNext s (foldB f o).1 true y' = some s1) ∨ ((foldB f o).2 = false ∧ s1 = s ∧ x = false) := by
  have hgone : o.code = 21 ∨ o.code = 23 → s1 = s ∧ x = false := fun hc => by
    obtain ⟨hf, hp, _, h2⟩ := ck_step h
    obtain ⟨p1, p2, p3⟩ := placed_parts.1 hp
    obtain ⟨hr, hs⟩ := h2 (by omega)
    have hwo : writes o = -1 := by unfold writes; rcases hc with hc | hc <;> rw [hc] <;> rfl
    have hst : stores o.code = false := by rcases hc with hc | hc <;> rw [hc] <;> rfl
    refine ⟨?_, by rw [← p1]; rcases hc with hc | hc <;> rw [hc] <;> rfl⟩
    rw [hs, hwo, hst]
    rw [if_neg (by decide), show (false || decide ((0 : Int) ≤ -1 ∧ (-1 : Int) < 20)) = false from rfl, Bool.or_false]
  unfold foldB
  by_cases c1 : (o.code == 2 && (f o.a).isSome) = true
  · rw [if_pos c1]
    simp only [Bool.and_eq_true, beq_iff_eq] at c1
    have := fun y' => ck_put (p := ⟨1, o.d, 0, 0, (f o.a).getD 0⟩) (y' := y') h (by omega) (.inl rfl) rfl rfl nofun (fun _ => rfl) nofun
    exact .inr (.inl ⟨rfl, (fun e => by cases e), (this false).1, fun y' => (this y').2⟩)
  rw [if_neg c1]
  by_cases c2 : (isBin o.code && (f o.a).isSome && (f o.b).isSome) = true
  · rw [if_pos c2]
    simp only [Bool.and_eq_true, isBin, decide_eq_true_eq] at c2
    have := fun y' => ck_put (p := ⟨1, o.d, 0, 0, wordOp o.code ((f o.a).getD 0) ((f o.b).getD 0)⟩) (y' := y') h (by omega) (.inl rfl) rfl rfl nofun (fun _ => rfl) nofun
    exact .inr (.inl ⟨rfl, (fun e => by cases e), (this false).1, fun y' => (this y').2⟩)
  rw [if_neg c2]
  by_cases c3 : ((f o.b).isSome && (f o.b).getD 0 == 0 && memI o.code [3, 4, 6, 7, 8, 9, 10]) = true
  · rw [if_pos c3]
    simp only [Bool.and_eq_true] at c3
    have hm := c3.2
    simp only [memI, List.any_cons, List.any_nil, Bool.or_false, Bool.or_eq_true, beq_iff_eq] at hm
    have := fun y' => ck_put (p := ⟨2, o.d, o.a, 0, 0⟩) (y' := y') h (by omega) (.inr rfl) rfl rfl (fun _ => rfl) nofun (fun _ => rfl)
    exact .inr (.inl ⟨rfl, (fun e => by cases e), (this false).1, fun y' => (this y').2⟩)
  rw [if_neg c3]
  by_cases c4 : (o.code == 21 && (f o.a).isSome && (f o.a).getD 0 != 0) = true
  · rw [if_pos c4]
    simp only [Bool.and_eq_true, beq_iff_eq] at c4
    exact .inr (.inr (.inr ⟨rfl, hgone (.inl c4.1.1)⟩))
  rw [if_neg c4]
  by_cases c5 : (o.code == 23 && (f o.a).isSome) = true
  · rw [if_pos c5]
    simp only [Bool.and_eq_true, beq_iff_eq] at c5
    cases hz : (f o.a).getD 0 != 0
    · exact .inr (.inr (.inr ⟨rfl, hgone (.inr c5.1)⟩))
    · exact .inr (.inr (.inl ⟨rfl, rfl, .inl c5.1, fun y' => ck_leave h (.inl c5.1)⟩))
  rw [if_neg c5]
  by_cases c6 : (o.code == 25 && (f o.a).isSome) = true
  · rw [if_pos c6]
    simp only [Bool.and_eq_true, beq_iff_eq] at c6
    exact .inr (.inr (.inl ⟨rfl, rfl, .inr c6.1, fun y' => ck_leave h (.inr c6.1)⟩))
  rw [if_neg c6]
  exact .inl rfl
theorem ck_empty {l : List BOp} (h : l.isEmpty = true) : l = [] := List.isEmpty_iff.1 h
theorem fold_follows {l : List BOp} (f : Int → Option Int) {s s1 : Ck} (h : ckRun s l = some s1) : (foldRun f l).isEmpty = l.isEmpty := by
  cases l with
  | nil => rfl
  | cons o l =>
    have := fold_nonempty (o :: l) f h (by simp)
    cases hr : foldRun f (o :: l) with
    | nil => exact absurd hr this
    | cons _ _ => rfl
theorem fold_ck : ∀ (l : List BOp) (f : Int → Option Int) {s s1 : Ck}, ckRun s l = some s1 → ∃ s2, ckRun s (foldRun f l) = some s2 ∧ s2.marks = s1.marks
  | [], f, s, s1, h => ⟨s1, h, rfl⟩
  | o :: l, f, s, s1, h => by
    obtain ⟨s2, h1, h2⟩ := ck_uncons h
    unfold foldRun
    rcases foldB_step (foldMark f o) h1 with e | ⟨e1, e2, e3, e4⟩ | ⟨e1, e2, e3, e4⟩ | ⟨e1, e2, e3⟩
    · rw [e, if_pos rfl]
      by_cases hc : (o.code == 24) = true
      · rw [if_pos hc]
        have hl : l = [] := ck_empty (by rw [← (placed_parts.1 (ck_step h1).2.1).1, show o.code = 24 by simpa using hc]; rfl)
        subst hl
        exact ⟨s1, h, rfl⟩
      · rw [if_neg hc]
        obtain ⟨s3, k1, k2⟩ := fold_ck l (foldUpd (foldMark f o) o) h2
        exact ⟨s3, by rw [ck_cons (placed_keep h1 (fold_follows _ h2) (fold_exit _))]; exact k1, k2⟩
    · rw [if_pos e1, if_neg (by simpa using e2)]
      obtain ⟨s3, k1, k2⟩ := fold_ck l (foldUpd (foldMark f o) (foldB (foldMark f o) o).1) h2
      refine ⟨s3, ?_, k2⟩
      rw [ck_cons (by rw [fold_follows _ h2]; exact e4 _)]; exact k1
    · rw [if_pos e1, if_pos (by simp [e2])]
      refine ⟨s2, by rw [ck_cons (e4 _)]; rfl, ?_⟩
      obtain ⟨_, hp, _, _⟩ := ck_step h1
      obtain ⟨p1, p2, _⟩ := placed_parts.1 hp
      rcases e3 with hc | hc
      · have hx := p2 hc
        cases l with
        | nil => cases hx
        | cons q r =>
          have hq : q.code = 24 := by simpa [exitNext] using hx
          obtain ⟨s3, h3, h4⟩ := ck_uncons h2
          obtain ⟨_, hp3, _, h5⟩ := ck_step h3
          have hr : r = [] := ck_empty (by rw [← (placed_parts.1 hp3).1, hq]; rfl)
          subst hr
          injection h4 with h4
          subst h4
          rw [(h5 (by omega)).2]
      · have hl : l = [] := ck_empty (by rw [← p1, hc]; rfl)
        subst hl
        injection h2 with h2
        rw [h2]
    · rw [if_neg (by rw [e1]; decide)]
      subst e2
      exact fold_ck l (foldMark f o) h2
theorem valid_parts {b : Blk} : validB b = true ↔ headerB b = true ∧ ∃ s, ckRun ⟨0, 0, false⟩ b.ops = some s ∧ s.marks = b.at_.length := by
  unfold validB
  rw [Bool.and_eq_true]
  constructor
  · rintro ⟨h1, h2⟩
    split at h2
    · rename_i s hs; exact ⟨h1, s, hs, by simpa using h2⟩
    · cases h2
  · rintro ⟨h1, s, h2, h3⟩
    rw [h2]
    exact ⟨h1, by simp [h3]⟩
theorem valid_of {b : Blk} {l : List BOp} (hv : validB b = true) (hne : b.ops ≠ [] → l ≠ []) (hlen : l.length ≤ b.ops.length) (hhead : ∀ o r, b.ops = o :: r → o.code = 20 → ∃ p, l.head? = some p ∧ p.code = 20) (hck : ∀ s1, ckRun ⟨0, 0, false⟩ b.ops = some s1 → ∃ s2, ckRun ⟨0, 0, false⟩ l = some s2 ∧ s2.marks = s1.marks) : validB ⟨b.at_, b.pages, l⟩ = true := by
  obtain ⟨h1, s, h2, h3⟩ := valid_parts.1 hv
  obtain ⟨s2, k1, k2⟩ := hck s h2
  have hpos := (valid_pos hv).1
  have hb : b.ops ≠ [] := fun e => by rw [e] at hpos; simp at hpos
  refine valid_parts.2 ⟨header_of h1 ?_ hlen (fun o ho hc => ?_), s2, k1, by rw [k2, h3]⟩
  · have := hne hb
    cases l with
    | nil => exact absurd rfl this
    | cons _ _ => simp
  · cases hbo : b.ops with
    | nil => exact absurd hbo hb
    | cons q r => rw [hbo] at ho; injection ho with ho; subst ho; exact hhead _ r hbo hc
theorem fold_valid {b : Blk} (hv : validB b = true) : validB (foldP b) = true := by
  unfold foldP foldAll
  rw [if_pos hv]
  obtain ⟨_, s, h2, _⟩ := valid_parts.1 hv
  refine valid_of hv (fun hb => fold_nonempty b.ops noneF h2 hb) (foldRun_length _ _) (fun o r hb hc => ?_) (fun s1 h => fold_ck b.ops noneF h)
  rw [hb]
  unfold foldRun
  rw [foldB_mark _ hc, if_pos rfl]
  exact ⟨o, rfl, hc⟩
end Go.Proofs.Ytmjfgnnefcimiaa
namespace Go.Proofs.Ytmjfgnnefcimiaa
open Go.RowKit

def guestsL (vs : List Int) : List Int := vs.take 19 ++ List.replicate (vs.length - 19) 0
end Go.Proofs.Ytmjfgnnefcimiaa
