/- Walks: the passes: Dead. Walks: the maker of blocks: an instruction. Walks piece by piece: loops, conditions, regions whose guards are known; nil cells as rows; three rows handed back. -/
import Derived.Test.YtmjfgnnefcimiaaK1
import Derived.Test.YtmjfgnnefcimiaaK10
import Derived.Test.YtmjfgnnefcimiaaK11
import Derived.Test.YtmjfgnnefcimiaaK14
import Derived.Test.YtmjfgnnefcimiaaK15
import Derived.Test.YtmjfgnnefcimiaaK16
import Derived.Test.YtmjfgnnefcimiaaK17
import Derived.Test.YtmjfgnnefcimiaaK18
import Derived.Test.YtmjfgnnefcimiaaK19
import Derived.Test.YtmjfgnnefcimiaaK2
import Derived.Test.YtmjfgnnefcimiaaK20
import Derived.Test.YtmjfgnnefcimiaaK21
import Derived.Test.YtmjfgnnefcimiaaK23
import Derived.Test.YtmjfgnnefcimiaaK3
import Derived.Test.YtmjfgnnefcimiaaK4
import Derived.Test.YtmjfgnnefcimiaaK5
namespace Go.Proofs.Ytmjfgnnefcimiaa
open Go.RowKit

theorem ent_nilrow (i : Nat) {f f' : Fr} {S : List Ow} {t e : TypeId} {size : Nat} (hi : S[i]? = some (.cells t [.v (.slice none 0 0)])) (hf : FLe f f') : EntB f S f' (S.set i (.cells t [.row S.length]) ++ [.row e size 0 []]) := by
  refine ⟨fun w0 w r a hR hf1 => ?_⟩
  obtain ⟨b, us, h1, h2, h3⟩ := hR.own i _ hi
  obtain rfl := denL_vals_inv (us := [.slice none 0 0]) h3
  have hle := hR.le_new none (some (.slice none 0 0))
  have hil := hR.lt_of_blk h1
  have hR2 := hR.snoc (o := .row e size 0 []) (Below.refl _ _) (b := none) (v := some (.slice none 0 0)) nofun ⟨.slice none 0 0, by simp [Env.set], by simp [Env.set, Value.ownBlock], by simp, .inl ⟨rfl, rfl⟩⟩
  refine ⟨r.set S.length none (some (.slice none 0 0)), ?_, hf.den (hf1.mono hle), fun j b hb => ?_⟩
  · have := rel_setSame hR2 (i := i) (o := .cells t [.row S.length]) ⟨b, [.slice none 0 0], hle.blk _ _ h1, h2, by simp only [denL, CV.den]; exact ⟨_, _, rfl, by simp [Env.set], rfl⟩⟩
    rwa [List.set_append_left _ _ hil] at this
  · simp only [Env.set] at hb
    split at hb
    · cases hb
    · exact ⟨j, hb⟩
theorem ops_lt {w : World} {b off : Nat} {l : List BOp} (h : OpsAt w w.heap.size (some ⟨b, off, none⟩) l) (hl : 0 < l.length) : b < w.heap.size := by
  obtain ⟨o, ho⟩ : ∃ o, l[0]? = some o := ⟨_, List.getElem?_eq_getElem hl⟩
  exact (cells_op (G := Gs.nil) h (by simp) ho).1
theorem pure_d {o : BOp} (hf : formedB o = true) (hp : pureB o = true) : 0 ≤ o.d ∧ o.d < 28 := by
  have h1 := writes_var hf
  unfold pureB at hp
  simp only [Bool.and_eq_true, decide_eq_true_eq] at hp
  have h2 := hp.1
  unfold writes at h1 h2
  split at h1
  · rename_i hd; rw [if_pos hd] at h2; exact ⟨h2, h1⟩
  · rename_i hd; rw [if_neg hd] at h2; omega
def opsOf {l : List BOp} (pre : List (Elt l)) : List BOp := pre.map fun x => x.1.2
theorem opsOf_formed {l : List BOp} (h : ∀ o ∈ l, formedB o = true) (pre : List (Elt l)) : ∀ o ∈ opsOf pre, formedB o = true := fun o ho => by
  obtain ⟨x, _, rfl⟩ := List.mem_map.1 ho
  exact h _ (List.mem_of_getElem? x.2)
theorem opsOf_all {l : List BOp} {xs : List (Elt l)} (h : AllDown xs) : opsOf xs = l.reverse := by
  refine ops_of_places (ps := xs.map fun x => x.1.1) (by simp [opsOf]) (fun i j o hj ho => ?_) (by rw [h]; simp [downTo])
  simp only [opsOf, List.getElem?_map] at hj ho
  cases hx : xs[i]? with
  | none => rw [hx] at hj; cases hj
  | some x =>
    rw [hx] at hj ho
    simp only [Option.map_some] at hj ho
    injection hj with hj; injection ho with ho
    subst hj; subst ho
    exact x.2
theorem opsOf_snoc {l : List BOp} (pre : List (Elt l)) (x : Elt l) : opsOf (pre ++ [x]) = opsOf pre ++ [x.1.2] := by simp [opsOf]
set_option maxRecDepth 100000 in
theorem dead_pass : Pass Try.prog 19 deadAll := by
  intro b A1 A2 A3 c1 c2 c3 w hb h1 h2 h3 hc3 hm3
  refine calls_satq [.agg #[.slice A1 b.at_.length c1, .slice A2 b.pages.length c2, .slice A3 b.ops.length c3]] Try.func19 Try.ntmps19 rfl (by simp) ?_
  refine satq_seq ?_
  conv => whnf
  refine satq_seq ?_
  conv => whnf
  refine call_con rfl (by kernel_rfl) (fun r w' hR => valid_ir A1 A2 A3 c1 c2 c3 b w' hb (sl_later h2 hR.toBelow) (sl_later h3 hR.toBelow)) ?_
  conv => whnf
  refine ⟨fun hn => ?_, fun hn => ?_⟩
  · have hv : validB b = false := by simpa using hn
    have hF : deadAll b = b.ops := by unfold deadAll; rw [hv]; rfl
    conv => whnf
    refine atq_ret ?_
    conv => whnf
    refine fin_val rfl fun w' hB => ⟨A3, c3, by rw [hF], by rw [hF]; exact sl_later h3 hB, by rw [hF]; exact hc3, hm3, .inr rfl, hB⟩
  have hv : validB b = true := by simpa using hn
  have hF : deadAll b = (deadRun b.ops.reverse).out.reverse := by unfold deadAll; rw [hv]; rfl
  obtain ⟨hpos, hmax⟩ := valid_pos hv
  obtain ⟨bb, off, rfl⟩ := ops_addr h3 hpos
  have hform := valid_formed hv
  conv => whnf
  refine satq_seq ?_
  conv => whnf
  refine satq_seq ?_
  conv => whnf
  refine satq_in ?_
  refine satq_seq ?_
  conv => whnf
  refine call_backward ?_
  conv => whnf
  refine satq_block ?_
  refine satq_back (N := 38) (m := 4) (V := [.cells 32 [.v (.slice A1 b.at_.length c1), .v (.slice A2 b.pages.length c2), .v (.slice (some ⟨bb, off, none⟩) b.ops.length c3)], .cells 32 [.v (.slice none 0 0), .v (.slice none 0 0), .v (.slice none 0 0)], .cells 30 [.v (.slice none 0 0)], .cells 24 [.v (.int .u32 0)]])
    (A := [.cells 32 [.v (.slice A1 b.at_.length c1), .v (.slice A2 b.pages.length c2), .v (.slice (some ⟨bb, off, none⟩) b.ops.length c3)], .cells 32 [.v (.slice none 0 0), .v (.slice none 0 0), .v (.slice none 0 0)], .cells 30 [.row 4], .cells 24 [.v (.int .u32 0)]]) (T := [.row 53 5 0 []])
    (f0 := [(1, .p (.c (.ref 0 0))), (2, .p (.c (.ref 1 0))), (3, .p (.c (.ref 2 0))), (4, .p (.c (.ref 3 0)))]) (fa := [(1, .p (.c (.ref 0 0))), (2, .p (.c (.ref 1 0))), (3, .p (.c (.ref 2 0))), (4, .p (.c (.ref 3 0)))])
    h3 (ops_lt h3 hpos) (by omega) rfl ⟨rfl, rfl⟩ (aI rfl (aI rfl (aI rfl (aI rfl trivial)))) rfl rfl
    (fun pre => [.cells 32 [.v (.slice A1 b.at_.length c1), .v (.slice A2 b.pages.length c2), .v (.slice (some ⟨bb, off, none⟩) b.ops.length c3)], .cells 32 [.v (.slice none 0 0), .v (.slice none 0 0), .v (.slice none 0 0)], .cells 30 [.row 4], .cells 24 [.v (.int .u32 ((deadRun (opsOf pre)).live : Int))], .row 53 5 (deadRun (opsOf pre)).out.length ((deadRun (opsOf pre)).out.flatMap opC)])
    rfl rfl rfl (fun _ => rfl) (fun _ => rfl) (fun _ => rfl) (ent_nilrow 2 rfl (aI rfl (aI rfl (aI rfl (aI rfl trivial))))) rfl 2 (by omega) (fun pre => ⟨_, _, _, _, _, rfl, rfl⟩)
    (fun x => [(1, .p (.c (.ref 0 0))), (2, .p (.c (.ref 1 0))), (3, .p (.c (.ref 2 0))), (4, .p (.c (.ref 3 0))), (6, .p (.c (.ref 5 0)))]) (fun _ => rfl) ?_ ?_ ?_
  · rintro W gs ext lp pre x hgs
    match gs, hgs with
    | [g0, g1, g2, g3], _ =>
    conv => whnf
    exact ⟨rfl, ent_same rfl (aI rfl (aI rfl (aI rfl (aI rfl (aI rfl trivial))))) (aI ((aI rfl (Or.inl rfl))) (aI ((aI rfl (Or.inl rfl))) (aI ((aI rfl (Or.inl rfl))) (aI ((aI rfl (Or.inl rfl))) (aI ((aI rfl (aI rfl (aI rfl rfl)))) (aI ((aI rfl (Or.inl rfl))) trivial))))))⟩
  · rintro W gs ext lp pre x hgs hpl
    match gs, hgs with
    | [g0, g1, g2, g3], _ =>
    obtain ⟨o, ho⟩ : ∃ o, o = x.1.2 := ⟨_, rfl⟩
    have hof : formedB o = true := by rw [ho]; exact hform _ (List.mem_of_getElem? x.2)
    have hlive := deadRun_lt (opsOf_formed hform pre)
    have hlen : (deadRun (opsOf pre)).out.length ≤ pre.length := by have := deadRun_length (opsOf pre); simpa [opsOf] using this
    have hsnoc : deadRun (opsOf (pre ++ [x])) = deadStep (deadRun (opsOf pre)) o := by rw [opsOf_snoc, deadRun_snoc, ho]
    rw [hsnoc, ← ho]
    generalize deadRun (opsOf pre) = s at hlive hlen ⊢
    conv => whnf
    refine call_con rfl (by kernel_rfl) (fun r w' hR => pure_ir o w') ?_
    conv => whnf
    refine ⟨!(s.live.testBit o.d.toNat), fun hp => ?_, ?_⟩
    · obtain ⟨hd0, hd1⟩ := pure_d hof hp
      refine ⟨hd0, (s.live : Int) / 2 ^ o.d.toNat, ?_, ?_⟩
      · rw [show min o.d.toNat IntKind.u32.bits = o.d.toNat from Nat.min_eq_left (by show _ ≤ 32; omega)]
        exact Int.fdiv_eq_ediv_of_nonneg _ (by exact Int.le_of_lt (Int.pow_pos (by decide)))
      conv => whnf
      refine ⟨_, rfl, ?_⟩
      conv => whnf
      refine ⟨rfl, rfl, ?_, rfl, rfl⟩
      show one (.bool (bits .and .u32 ((s.live : Int) / 2 ^ o.d.toNat) 1 == 0)) = one (.bool (!(s.live.testBit o.d.toNat)))
      rw [bit_test _ _ hlive]
    conv => whnf
    refine ⟨fun hs => ?_, fun hs => ?_⟩
    · conv => whnf
      have he : deadStep s o = s := if_pos (by unfold deadB; simpa [cmb] using hs)
      rw [he]
      exact ⟨rfl, ent_drop trivial (aI ((aI rfl (Or.inl rfl))) (aI ((aI rfl (Or.inl rfl))) (aI ((aI rfl (Or.inl rfl))) (aI ((aI rfl (Or.inl rfl))) (aI ((aI rfl (aI rfl (aI rfl rfl)))) trivial))))) rfl rfl⟩
    have he : deadStep s o = ⟨beforeM o s.live, s.out ++ [o]⟩ := if_neg (by unfold deadB; simpa [cmb] using hs)
    rw [he]
    conv => whnf
    refine call_con rfl (by kernel_rfl) (fun r w' hR => before_opt o s.live hlive hof w') ?_
    conv => whnf
    refine appK_sound rfl ?_ rfl
    conv => whnf
    refine ⟨by omega, ?_⟩
    conv => whnf
    exact ⟨rfl, ent_drop trivial (aI ((aI rfl (Or.inl rfl))) (aI ((aI rfl (Or.inl rfl))) (aI ((aI rfl (Or.inl rfl))) (aI ((aI rfl (Or.inl rfl))) (aI ((aI rfl (aI rfl (aI (by simp) (by simp [opC]))))) trivial))))) rfl rfl⟩
  · intro D xs hxs
    refine atq_then ?_
    refine satq_seq ?_
    conv => whnf
    have hlen : (deadRun (opsOf xs)).out.length ≤ b.ops.length := by
      have := deadRun_length (opsOf xs)
      rw [opsOf_all hxs] at this ⊢
      simpa using this
    refine call_reverse 4 rfl (by omega) ?_
    conv => whnf
    refine satq_seq ?_
    conv => whnf
    refine call_with 4 rfl ?_
    conv => whnf
    refine satq_vc ?_
    conv => whnf
    refine atq_ret_mark 5 rfl ?_
    conv => whnf
    rw [opsOf_all hxs]
    refine fin_block (i := 4) (l := (deadRun b.ops.reverse).out.reverse) rfl (by simp) rfl fun w' A c e1 e2 e3 e4 e5 => ?_
    exact ⟨A, c, by rw [hF], by rw [hF]; exact e1, by rw [hF]; exact e2, e3, .inl e4, e5⟩
end Go.Proofs.Ytmjfgnnefcimiaa
namespace Go.Proofs.Ytmjfgnnefcimiaa
open Go.RowKit

theorem wrC_set (W i : Nat) {t : Nat} (h : t < 8) : setAll (killL i (List.map CV.v (wrC W))) t [CV.v (Value.bool true)] = (wrC (W ||| 2 ^ (20 + t))).map .v := by
  have e : ∀ j, (W ||| 2 ^ (20 + t)).testBit j = (W.testBit j || decide (20 + t = j)) := fun j => by rw [Nat.testBit_or, Nat.testBit_two_pow]
  simp only [wrC, e]
  rcases t with _ | _ | _ | _ | _ | _ | _ | _ | t <;> first | (exfalso; omega) | (simp [setAll, killL, CV.kill, CV.names])
/-- The first loop under way. -/
structure Ins1 (k0 : Int) where
  n : Int
  l : List BOp
  W : Nat
  k : Int
  hn : 0 ≤ n ∧ n ≤ 3
  hb : BodyOk l W false
  hl : (l.length : Int) + n ≤ 3
  hk : k0 ≤ k ∧ k + 8 * n ≤ k0 + 24
/-- Between the loops. -/
structure Ins2 (k0 : Int) where
  l : List BOp
  W : Nat
  ch : Bool
  k : Int
  hb : BodyOk l W ch
  hl : l.length ≤ 4
  hk : k0 ≤ k ∧ k ≤ k0 + 40
/-- The second loop under way. -/
structure Ins3 (k0 : Int) (W : Nat) where
  n : Int
  l : List BOp
  ch : Bool
  k : Int
  hn : 0 ≤ n ∧ n ≤ 3
  hb : BodyOk l W ch
  hl : (l.length : Int) + n ≤ 7
  hk : k0 ≤ k ∧ k + 8 * n ≤ k0 + 24
set_option maxRecDepth 100000 in
theorem instruction_walk (A : Option Addr) (m c : Nat) (xs : List Int) (k : Int) (g : Nat) (w : World) (hs : SlOld w ⟨[g], []⟩ A (xs.map (.int .i64))) (hl : xs.length = m) (hm : m ≤ 1000000) (hk : 0 ≤ k ∧ k < 900000)
    (hg : w.heap[g]? = some (.cells (mkC A m c k).toArray 124 (0, 0))) :
    Calls Try.prog 93 #[.pointer (some ⟨g, 0, none⟩)] w fun e w' => ∃ v n ys us', (∃ (l : List BOp) (W : Nat) (ch : Bool) (k' : Int), BodyOk l W ch ∧ n = l.length ∧ ys = l.flatMap opC ∧ l.length ≤ 10 ∧ us' = mkC A m c k' ∧ 0 ≤ k' ∧ k' ≤ k + 200) ∧ e = .returned v ∧ w'.ownsRow w.heap.size 53 5 v n ys ∧ w'.heap[g]? = some (.cells us'.toArray 124 (0, 0)) ∧ w.grownBy w' (some g) := by
  refine calls_own_satq [] Try.func93 Try.ntmps93 rfl (by simp) hg ?_
  refine satq_seq ?_
  conv => whnf
  refine satq_seq ?_
  conv => whnf
  refine satq_seq ?_
  conv => whnf
  refine satq_seq ?_
  conv => whnf
  refine call_take 0 rfl hs hl hm (by omega) (by omega) fun n0 n00 n01 => ?_
  conv => whnf
  refine ⟨Ins1 (k + 1), fun x => [(0, .p (.c (.ref 0 0))), (3, .p (.c (.row 2))), (4, .p (.c (.ref 1 0))), (5, one (.int .i64 x.n))],
    fun x => [.cells 124 ((mkC A m c x.k).map .v), .cells 133 ((wrC x.W).map .v), .row 53 5 x.l.length (x.l.flatMap opC)],
    fun x => x.n.toNat, ⟨⟨n0, [], 0, k + 1, by omega, BodyOk.nil, by simp; omega, by omega⟩, ent_trans (ent_row 3 53 5 rfl) (ent_same rfl (aI rfl (aI rfl (aI rfl (aI rfl trivial)))) (aI ((aI rfl (Or.inl rfl))) (aI ((aI rfl (Or.inl (by simp)))) (aI ((aI rfl (aI rfl (aI rfl rfl)))) trivial))))⟩, fun x => ?_⟩
  · obtain ⟨n, l, W, k1, hn, hb, hll, hk1⟩ := x
    dsimp only
    conv => whnf
    refine ⟨fun hc => ?_, fun hc => ?_⟩
    · have hpos : 0 < n := by simpa using hc
      conv => whnf
      refine call_take 0 rfl hs hl hm (by omega) (by omega) fun t t0 t1 => ?_
      conv => whnf
      refine call_source 0 W rfl rfl hs hl hm (by omega) fun a ha => ?_
      conv => whnf
      refine call_take 0 rfl hs hl hm (by omega) (by omega) fun s s0 s1 => ?_
      conv => whnf
      refine ⟨fun _ => ?_, fun _ => ?_⟩
      · conv => whnf
        refine ⟨_, wr64 (by omega), ?_⟩
        conv => whnf
        refine call_word 0 rfl hs hl hm (by omega) fun z hz => ?_
        conv => whnf
        refine appK_sound rfl ?_ rfl
        conv => whnf
        refine ⟨by omega, ?_⟩
        conv => whnf
        refine ⟨fun _ => ?_, fun hf => absurd hf (by simp; omega)⟩
        conv => whnf
        refine ⟨⟨by omega, by omega⟩, ?_⟩
        conv => whnf
        rw [show 0 + t.toNat * tsz Try.prog 4 = t.toNat from (Nat.zero_add _).trans (Nat.mul_one _), show Nat.ble (t.toNat + [CV.v (Value.bool true)].length) (killL 2 (List.map CV.v (wrC W))).length = true from Nat.ble_eq_true_of_le (by show t.toNat + 1 ≤ 8; omega), wrC_set W 2 (by omega)]
        conv => whnf
        refine ⟨_, wr64 (by omega), ?_⟩
        conv => whnf
        exact ⟨⟨n - 1, l ++ [⟨1, 20 + t, 0, 0, z⟩], W ||| 2 ^ (20 + t).toNat, k1 + 1 + 1 + 1 + 2, by omega, (hb.const (d := 20 + t) ⟨by omega, by omega, by omega⟩ hz).is (if_pos (by omega)) (by simp; omega), by simp; omega, by omega⟩, ent_drop (aI rfl (aI rfl (aI rfl (aI rfl trivial)))) (aI ((aI rfl (Or.inl rfl))) (aI ((aI rfl (Or.inl (congrArg (fun z => List.map CV.v (wrC (Nat.lor W (2 ^ z)))) (show 20 + t.toNat = (20 + t).toNat by omega))))) (aI ((aI rfl (aI rfl (aI (by simp) (by simp [opC]))))) trivial))) rfl rfl, by show (n - 1).toNat < n.toNat; omega⟩
      conv => whnf
      refine ⟨fun _ => ?_, fun _ => ?_⟩
      · conv => whnf
        refine call_take 0 rfl hs hl hm (by omega) (by omega) fun q q0 q1 => ?_
        conv => whnf
        refine ⟨_, wr64 (by omega), ?_⟩
        conv => whnf
        refine ⟨_, wr64 (by omega), ?_⟩
        conv => whnf
        refine call_word 0 rfl hs hl hm (by omega) fun z hz => ?_
        conv => whnf
        refine appK_sound rfl ?_ rfl
        conv => whnf
        refine ⟨by omega, ?_⟩
        conv => whnf
        refine ⟨fun _ => ?_, fun hf => absurd hf (by simp; omega)⟩
        conv => whnf
        refine ⟨⟨by omega, by omega⟩, ?_⟩
        conv => whnf
        rw [show 0 + t.toNat * tsz Try.prog 4 = t.toNat from (Nat.zero_add _).trans (Nat.mul_one _), show Nat.ble (t.toNat + [CV.v (Value.bool true)].length) (killL 2 (List.map CV.v (wrC W))).length = true from Nat.ble_eq_true_of_le (by show t.toNat + 1 ≤ 8; omega), wrC_set W 2 (by omega)]
        conv => whnf
        refine ⟨_, wr64 (by omega), ?_⟩
        conv => whnf
        exact ⟨⟨n - 1, l ++ [⟨16 + q, 20 + t, a, 0, z⟩], W ||| 2 ^ (20 + t).toNat, k1 + 1 + 1 + 1 + 1 + 2, by omega, hb.load (d := 20 + t) ⟨by omega, by omega⟩ ⟨by omega, by omega⟩ ha hz rfl, by simp; omega, by omega⟩, ent_drop (aI rfl (aI rfl (aI rfl (aI rfl trivial)))) (aI ((aI rfl (Or.inl rfl))) (aI ((aI rfl (Or.inl (congrArg (fun z => List.map CV.v (wrC (Nat.lor W (2 ^ z)))) (show 20 + t.toNat = (20 + t).toNat by omega))))) (aI ((aI rfl (aI rfl (aI (by simp) (by simp [opC]))))) trivial))) rfl rfl, by show (n - 1).toNat < n.toNat; omega⟩
      conv => whnf
      refine ⟨fun _ => ?_, fun _ => ?_⟩
      · conv => whnf
        refine appK_sound rfl ?_ rfl
        conv => whnf
        refine ⟨by omega, ?_⟩
        conv => whnf
        refine ⟨fun hf => absurd hf (by decide), fun _ => ?_⟩
        conv => whnf
        refine ⟨_, wr64 (by omega), ?_⟩
        conv => whnf
        exact ⟨⟨n - 1, l ++ [⟨21, 0, a, 0, 0⟩], W, k1 + 1 + 1 + 1, by omega, hb.guard ha rfl, by simp; omega, by omega⟩, ent_drop (aI rfl (aI rfl (aI rfl (aI rfl trivial)))) (aI ((aI rfl (Or.inl rfl))) (aI ((aI rfl (Or.inl rfl))) (aI ((aI rfl (aI rfl (aI (by simp) (by simp [opC]))))) trivial))) rfl rfl, by show (n - 1).toNat < n.toNat; omega⟩
      conv => whnf
      refine call_source 0 W rfl rfl hs hl hm (by omega) fun b hb' => ?_
      conv => whnf
      refine call_take 0 rfl hs hl hm (by omega) (by omega) fun q q0 q1 => ?_
      conv => whnf
      refine ⟨_, wr64 (by omega), ?_⟩
      conv => whnf
      refine ⟨_, wr64 (by omega), ?_⟩
      conv => whnf
      refine appK_sound rfl ?_ rfl
      conv => whnf
      · refine ⟨by omega, ?_⟩
        conv => whnf
        refine ⟨fun _ => ?_, fun hf => absurd hf (by simp; omega)⟩
        conv => whnf
        refine ⟨⟨by omega, by omega⟩, ?_⟩
        conv => whnf
        rw [show 0 + t.toNat * tsz Try.prog 4 = t.toNat from (Nat.zero_add _).trans (Nat.mul_one _), show Nat.ble (t.toNat + [CV.v (Value.bool true)].length) (killL 2 (List.map CV.v (wrC W))).length = true from Nat.ble_eq_true_of_le (by show t.toNat + 1 ≤ 8; omega), wrC_set W 2 (by omega)]
        conv => whnf
        refine ⟨_, wr64 (by omega), ?_⟩
        conv => whnf
        exact ⟨⟨n - 1, l ++ [⟨3 + q, 20 + t, a, b, 0⟩], W ||| 2 ^ (20 + t).toNat, k1 + 1 + 1 + 1 + 1 + 1, by omega, (hb.bin (c := 3 + q) (d := 20 + t) ⟨by omega, by omega⟩ ⟨by omega, by omega, by omega⟩ ha hb').is (if_pos (by omega)) (by simp; omega), by simp; omega, by omega⟩, ent_drop (aI rfl (aI rfl (aI rfl (aI rfl trivial)))) (aI ((aI rfl (Or.inl rfl))) (aI ((aI rfl (Or.inl (congrArg (fun z => List.map CV.v (wrC (Nat.lor W (2 ^ z)))) (show 20 + t.toNat = (20 + t).toNat by omega))))) (aI ((aI rfl (aI rfl (aI (by simp) (by simp [opC]))))) trivial))) rfl rfl, by show (n - 1).toNat < n.toNat; omega⟩
    · conv => whnf
      refine ⟨_, _, ent_refl, ?_⟩
      conv => whnf
      refine satq_cut (α := Ins2 k) (fun y => [(0, .p (.c (.ref 0 0))), (3, .p (.c (.row 2))), (4, .p (.c (.ref 1 0)))])
        (fun y => [.cells 124 ((mkC A m c y.k).map .v), .cells 133 ((wrC y.W).map .v), .row 53 5 y.l.length (y.l.flatMap opC)]) ?_ fun y => ?_
      · conv => whnf
        refine call_take 0 rfl hs hl hm (by omega) (by omega) fun s s0 s1 => ?_
        conv => whnf
        refine ⟨fun _ => ?_, fun _ => ?_⟩
        · conv => whnf
          refine call_source 0 W rfl rfl hs hl hm (by omega) fun a ha => ?_
          conv => whnf
          refine call_source 0 W rfl rfl hs hl hm (by omega) fun b hb' => ?_
          conv => whnf
          refine call_take 0 rfl hs hl hm (by omega) (by omega) fun q q0 q1 => ?_
          conv => whnf
          refine ⟨_, wr64 (by omega), ?_⟩
          conv => whnf
          refine call_word 0 rfl hs hl hm (by omega) fun z hz => ?_
          conv => whnf
          refine appK_sound rfl ?_ rfl
          conv => whnf
          refine ⟨by omega, ?_⟩
          conv => whnf
          exact ⟨⟨l ++ [⟨18 + q, 0, a, b, z⟩], W, true, k1 + 1 + 1 + 1 + 1 + 2, hb.store (c := 18 + q) ⟨by omega, by omega⟩ ha hb' hz rfl, by simp; omega, by omega⟩, ent_drop (aI rfl (aI rfl (aI rfl trivial))) (aI ((aI rfl (Or.inl rfl))) (aI ((aI rfl (Or.inl rfl))) (aI ((aI rfl (aI rfl (aI (by simp) (by simp [opC]))))) trivial))) rfl rfl⟩
        · conv => whnf
          exact ⟨⟨l, W, false, k1 + 1, hb, by omega, by omega⟩, ent_drop (aI rfl (aI rfl (aI rfl trivial))) (aI ((aI rfl (Or.inl rfl))) (aI ((aI rfl (Or.inl rfl))) (aI ((aI rfl (aI rfl (aI rfl rfl)))) trivial))) rfl rfl⟩
      obtain ⟨l2, W2, ch2, k2, hb2, hl2, hk2⟩ := y
      dsimp only
      refine satq_seq ?_
      conv => whnf
      refine call_take 0 rfl hs hl hm (by omega) (by omega) fun n2 n20 n21 => ?_
      conv => whnf
      refine ⟨Ins3 (k2 + 1) W2, fun x => [(0, .p (.c (.ref 0 0))), (3, .p (.c (.row 2))), (4, .p (.c (.ref 1 0))), (11, one (.int .i64 x.n))],
        fun x => [.cells 124 ((mkC A m c x.k).map .v), .cells 133 ((wrC W2).map .v), .row 53 5 x.l.length (x.l.flatMap opC)],
        fun x => x.n.toNat, ⟨⟨n2, l2, ch2, k2 + 1, by omega, hb2, by omega, by omega⟩, ent_same rfl (aI rfl (aI rfl (aI rfl (aI rfl trivial)))) (aI ((aI rfl (Or.inl rfl))) (aI ((aI rfl (Or.inl rfl))) (aI ((aI rfl (aI rfl (aI rfl rfl)))) trivial)))⟩, fun x => ?_⟩
      obtain ⟨n, l, ch, k1, hn, hb, hll, hk1⟩ := x
      dsimp only
      conv => whnf
      refine ⟨fun hc => ?_, fun hc => ?_⟩
      · have hpos : 0 < n := by simpa using hc
        conv => whnf
        refine call_take 0 rfl hs hl hm (by omega) (by omega) fun t t0 t1 => ?_
        conv => whnf
        refine call_source 0 W2 rfl rfl hs hl hm (by omega) fun a ha => ?_
        conv => whnf
        refine call_take 0 rfl hs hl hm (by omega) (by omega) fun s s0 s1 => ?_
        conv => whnf
        refine ⟨fun _ => ?_, fun _ => ?_⟩
        · conv => whnf
          refine call_word 0 rfl hs hl hm (by omega) fun z hz => ?_
          conv => whnf
          refine appK_sound rfl ?_ rfl
          conv => whnf
          (refine ⟨by omega, ?_⟩; (conv => whnf); refine ⟨_, wr64 (by omega), ?_⟩; (conv => whnf); exact ⟨⟨n - 1, l ++ [⟨1, t, 0, 0, z⟩], ch || decide (t < 20), k1 + 1 + 1 + 1 + 2, by omega, (hb.const (d := t) ⟨by omega, by omega, by omega⟩ hz).is (if_neg (by omega)) rfl, by simp; omega, by omega⟩, ent_drop (aI rfl (aI rfl (aI rfl (aI rfl trivial)))) (aI ((aI rfl (Or.inl rfl))) (aI ((aI rfl (Or.inl rfl))) (aI ((aI rfl (aI rfl (aI (by simp) (by simp [opC]))))) trivial))) rfl rfl, by show (n - 1).toNat < n.toNat; omega⟩)
        conv => whnf
        refine ⟨fun _ => ?_, fun _ => ?_⟩
        · conv => whnf
          refine appK_sound rfl ?_ rfl
          conv => whnf
          (refine ⟨by omega, ?_⟩; (conv => whnf); refine ⟨_, wr64 (by omega), ?_⟩; (conv => whnf); exact ⟨⟨n - 1, l ++ [⟨2, t, a, 0, 0⟩], ch || decide (t < 20), k1 + 1 + 1 + 1, by omega, (hb.move (d := t) ⟨by omega, by omega, by omega⟩ ha).is (if_neg (by omega)) rfl, by simp; omega, by omega⟩, ent_drop (aI rfl (aI rfl (aI rfl (aI rfl trivial)))) (aI ((aI rfl (Or.inl rfl))) (aI ((aI rfl (Or.inl rfl))) (aI ((aI rfl (aI rfl (aI (by simp) (by simp [opC]))))) trivial))) rfl rfl, by show (n - 1).toNat < n.toNat; omega⟩)
        conv => whnf
        refine call_source 0 W2 rfl rfl hs hl hm (by omega) fun b hb' => ?_
        conv => whnf
        refine call_take 0 rfl hs hl hm (by omega) (by omega) fun q q0 q1 => ?_
        conv => whnf
        refine ⟨_, wr64 (by omega), ?_⟩
        conv => whnf
        refine appK_sound rfl ?_ rfl
        conv => whnf
        (refine ⟨by omega, ?_⟩; (conv => whnf); refine ⟨_, wr64 (by omega), ?_⟩; (conv => whnf); exact ⟨⟨n - 1, l ++ [⟨3 + q, t, a, b, 0⟩], ch || decide (t < 20), k1 + 1 + 1 + 1 + 1 + 1, by omega, (hb.bin (c := 3 + q) (d := t) ⟨by omega, by omega⟩ ⟨by omega, by omega, by omega⟩ ha hb').is (if_neg (by omega)) rfl, by simp; omega, by omega⟩, ent_drop (aI rfl (aI rfl (aI rfl (aI rfl trivial)))) (aI ((aI rfl (Or.inl rfl))) (aI ((aI rfl (Or.inl rfl))) (aI ((aI rfl (aI rfl (aI (by simp) (by simp [opC]))))) trivial))) rfl rfl, by show (n - 1).toNat < n.toNat; omega⟩)
      · conv => whnf
        refine ⟨_, _, ent_refl, ?_⟩
        conv => whnf
        refine satq_vc ?_
        conv => whnf
        refine atq_ret ?_
        conv => whnf
        exact fin_own_row (us := mkC A m c k1) rfl rfl (by omega) fun w' v e1 e2 e3 => ⟨v, _, _, _, ⟨l, W2, ch, k1, hb, rfl, rfl, by omega, rfl, by omega, by omega⟩, rfl, e3, e1, e2⟩
end Go.Proofs.Ytmjfgnnefcimiaa
namespace Go.Proofs.Ytmjfgnnefcimiaa
open Go.RowKit
/-- A list of operations whose guards are known. -/
def guardedK (P : Program) (W : World) (G : Gs) (N : Nd) (ops : Array Oper) : List Oper → Fr → List Ow → (Fr → List Ow → Prop) → Prop
  | [], f, S, K => K f S
  | o :: l, f, S, K => (match guardOf ops f o with
    | some true => opK P W G N o f S fun f' S' => guardedK P W G N ops l f' S' K
    | some false => (match dstOk N.n o.dst with
      | true => f.putK o.dst (.p (.c .any)) fun f' => guardedK P W G N ops l f' S K
      | false => False)
    | none => False)
section
variable {P : Program} {w0 : World} {G : Gs} {N : Nd} {c d : Code} {f : Fr} {S : List Ow} {Q : Exit → Act → World → Prop}
theorem guardedK_sound {ops : Array Oper} {Q : Act → World → Prop} : ∀ (l : List Oper) (f : Fr) (S : List Ow) (K : Fr → List Ow → Prop), guardedK P w0 G N ops l f S K → (∀ f' S' a' w', K f' S' → Good w0 G N f' S' a' w' → Q a' w') →
    ∀ a w, Good w0 G N f S a w → seL P ops Q l a w
  | [], f, S, K, h, hK, a, w, hg => hK _ _ _ _ h hg
  | o :: l, f, S, K, h, hK, a, w, hg => by
    obtain ⟨r, hR, hf, hN, hd⟩ := hg
    unfold guardedK at h
    split at h
    · rename_i hgd
      have hw := guard_wanted hf hgd
      unfold seL
      rw [if_pos hw]
      exact (opK_sound h).out r a w hR hf hN hd _ (fun _ _ _ => True) fun f' S' a' w' hk hg' => guardedK_sound l f' S' K hk hK a' w' hg'
    · rename_i hgd
      have hw := guard_wanted hf hgd
      split at h
      · rename_i hdst
        have hk := putK_iff.1 h
        unfold seL
        rw [if_neg (by rw [hw]; decide)]
        exact guardedK_sound l _ S K hk hK _ w ⟨r, hR, hf.putAny _ (by rw [hN]; exact hdst), (put_size a _ _).trans hN, (put_defers a _ _).trans hd⟩
      · exact h.elim
    · exact h.elim
theorem satq_region {id : Nat} {ops : Array Oper} (h : guardedK P w0 G N ops ops.toList f S fun f' S' => AtQ w0 G N .normal f' S' Q) : SatQ P w0 G N (.region id ops false) f S Q :=
  ⟨fun a w hg => wpIn_region_list (seL_wpIn none 10 (guardedK_sound _ f S _ h (fun _f' _S' a' w' hk hg' => hk.out a' w' hg') a w hg))⟩
theorem satq_cond {x : Operand} {t : Bool} (ht : f.ev x = one (.bool t)) (h1 : t = true → SatQ P w0 G N c f S Q) (h2 : t = false → SatQ P w0 G N d f S Q) : SatQ P w0 G N (.cond x c d) f S Q := by
  refine ⟨fun a w hg => ?_⟩
  obtain ⟨r, hR, hf, hN, hd⟩ := hg
  have hc := hf.ev x
  rw [ht] at hc
  have hc := den_v hc
  exact wpIn_cond_split hc (fun e => (h1 e).out a w ⟨r, hR, hf, hN, hd⟩) (fun e => (h2 e).out a w ⟨r, hR, hf, hN, hd⟩)
theorem satq_skip (h : AtQ w0 G N .normal f S Q) : SatQ P w0 G N .skip f S Q := ⟨fun a w hg => wpIn_skip (h.out a w hg)⟩
/-- Ahead of what follows. -/
theorem atq_on {d : Code} (h : SatQ P w0 G N d f S Q) : AtQ w0 G N .normal f S (Exit.then (d.wpIn Fence.wide 10 P Q) Q) := ⟨fun a w hg => h.out a w hg⟩
theorem atq_exit {id : Nat} (h : AtQ w0 G N .normal f S Q) : AtQ w0 G N (.exit id) f S (Exit.inBlock id Q) := ⟨fun a w hg => by
  show (if id = id then Q .normal a w else _)
  rw [if_pos rfl]; exact h.out a w hg⟩
theorem atq_block {id : Nat} (h : AtQ w0 G N .normal f S Q) : AtQ w0 G N .normal f S (Exit.inBlock id Q) := ⟨fun a w hg => h.out a w hg⟩
/-- A walk cut in two: what follows is shown once, from states of one kind. -/
def MidQ {α : Type} (w0 : World) (G : Gs) (N : Nd) (T : α → Fr) (U : α → List Ow) (Q : Exit → Act → World → Prop) : Exit → Act → World → Prop := fun e a w => match e with
  | .normal => ∃ y, Good w0 G N (T y) (U y) a w
  | e => Q e a w
theorem satq_mid {α : Type} (T : α → Fr) (U : α → List Ow) (hc : SatQ P w0 G N c f S (MidQ w0 G N T U Q)) (hd : ∀ y, SatQ P w0 G N d (T y) (U y) Q) : SatQ P w0 G N (.seq c d) f S Q :=
  satq_in ⟨fun a w hg => wpIn_mono (hc.out a w hg) fun e a' w' hq => by
    cases e with
    | normal => obtain ⟨y, hy⟩ := hq; exact (hd y).out a' w' hy
    | exit id => exact hq
    | goto l => exact hq
    | ret => exact hq
    | panic ch => exact hq
    | outgrown => exact hq⟩
theorem atq_mid {α : Type} {T : α → Fr} {U : α → List Ow} (y : α) (h : Ent w0 G N f S (T y) (U y)) : AtQ w0 G N .normal f S (MidQ w0 G N T U Q) := ⟨fun a w hg => ⟨y, h.out a w hg⟩⟩
/-- What a round of a loop comes to. -/
def RoundQ {α : Type} (w0 : World) (G : Gs) (N : Nd) (T : α → Fr) (U : α → List Ow) (m : α → Nat) (n : Nat) (Q : Exit → Act → World → Prop) : Exit → Act → World → Prop := fun e a w => match e with
  | .normal => ∃ y, Good w0 G N (T y) (U y) a w ∧ m y < n
  | e => Q e a w
theorem atq_next {α : Type} {T : α → Fr} {U : α → List Ow} {m : α → Nat} {n : Nat} (y : α) (h : Ent w0 G N f S (T y) (U y)) (hm : m y < n) : AtQ w0 G N .normal f S (RoundQ w0 G N T U m n Q) := ⟨fun a w hg => ⟨y, h.out a w hg, hm⟩⟩
theorem atq_out {α : Type} {T : α → Fr} {U : α → List Ow} {m : α → Nat} {n : Nat} {id : Nat} (h : AtQ w0 G N (.exit id) f S Q) : AtQ w0 G N (.exit id) f S (RoundQ w0 G N T U m n Q) := ⟨fun a w hg => h.out a w hg⟩
theorem satq_loop {α : Type} (T : α → Fr) (U : α → List Ow) (m : α → Nat) (x0 : α) (h0 : Ent w0 G N f S (T x0) (U x0)) (hround : ∀ x, SatQ P w0 G N c (T x) (U x) (RoundQ w0 G N T U m (m x) Q)) : SatQ P w0 G N (.loop c) f S Q := by
  refine ⟨fun a w hg => ?_⟩
  intro b k cs hro hb hr
  have key : ∀ (n : Nat) (x : α), m x = n → ∀ a w, Good w0 G N (T x) (U x) a w → ∃ e a' w', Q e a' w' ∧ ArrivesIn (Machine.fenced P Fence.wide) P (lone (b.atR a (.code c :: .inLoop c :: k)) cs w) b k cs e a' w' := by
    intro n
    induction n using Nat.strongRecOn with
    | _ n ih =>
      intro x hx a w hg
      obtain ⟨e, a', w', hq, harr⟩ := (hround x).out a w hg b (.inLoop c :: k) cs hro hb hr
      cases e with
      | normal =>
        obtain ⟨y, hgy, hlt⟩ := hq
        obtain ⟨e2, a2, w2, hq2, harr2⟩ := ih (m y) (by omega) y rfl a' w' hgy
        exact ⟨e2, a2, w2, hq2, .of_steps (StepsIn.trans harr (.one (fenced_calm hb hr rfl) stepR_inLoop)) harr2⟩
      | exit id => exact ⟨_, a', w', hq, .pass (x := .inLoop c) rfl (fun _ _ => .inl (by simp)) harr⟩
      | goto l => exact ⟨_, a', w', hq, .pass (x := .inLoop c) rfl (fun _ _ => .inl (by simp)) harr⟩
      | ret => exact ⟨_, a', w', hq, .pass (x := .inLoop c) rfl (fun _ _ => .inl (by simp)) harr⟩
      | panic ch => exact ⟨_, a', w', hq, .pass (x := .inLoop c) rfl (fun _ _ => .inl (by simp)) harr⟩
      | outgrown => exact ⟨_, a', w', hq, .pass (x := .inLoop c) rfl (fun _ _ => .inl (by simp)) harr⟩
  obtain ⟨e, a', w', hq, harr⟩ := key _ x0 rfl a w (h0.out a w hg)
  exact ⟨e, a', w', hq, .of_steps (.one (fenced_calm hb hr rfl) stepR_loop) harr⟩
/-- A cell that holds nil is a row of the call's own, of no elements. -/
theorem ent_cellrow (i j : Nat) (e : TypeId) (size : Nat) {t : TypeId} {l : List CV} {f' : Fr} (hi : S[i]? = some (.cells t l)) (hj : l[j]? = some (.v (.slice none 0 0))) (hf : FLe f f') : Ent w0 G N f S f' (S.set i (.cells t (l.set j (.row S.length))) ++ [.row e size 0 []]) := ⟨fun a w ⟨r, hR, hd, hN, hdf⟩ => by
  obtain ⟨b, us, h1, h2, h3⟩ := hR.own i _ hi
  have hle := hR.le_new none (some (.slice none 0 0))
  have hil := hR.lt_of_blk h1
  have hR2 := hR.snoc (o := .row e size 0 []) (Below.refl _ _) (b := none) (v := some (.slice none 0 0)) nofun ⟨.slice none 0 0, by simp [Env.set], by simp [Env.set, Value.ownBlock], by simp, .inl ⟨rfl, rfl⟩⟩
  refine ⟨r.set S.length none (some (.slice none 0 0)), ?_, hf.den (hd.mono hle), hN, hdf⟩
  obtain ⟨u, hu, hdu⟩ := denL_at h3 hj
  simp only [CV.den] at hdu; subst hdu
  have hus : us = us.set j (.slice none 0 0) := by
    refine List.ext_getElem? fun k => ?_
    rw [List.getElem?_set]
    split
    · rename_i hk; subst hk
      split
      · exact hu
      · rename_i hlt; rw [List.getElem?_eq_none (by omega)] at hu; cases hu
    · rfl
  have := rel_setSame hR2 (i := i) (o := .cells t (l.set j (.row S.length))) ⟨b, us, hle.blk _ _ h1, h2, by rw [hus]; exact denL_set j (denL_mono hle _ _ h3) (by simp [CV.den, Env.set])⟩
  rwa [List.set_append_left _ _ hil] at this⟩
end
/-- Several new entries at once. -/
theorem Rel.snocs {w0 : World} {G : Gs} {S : List Ow} {r : Env} {w w' : World} (h : Rel w0 G S r w) (hb : Below w.heap.size w w') (T : List Ow) (r' : Env) (hle : ∀ i, i < S.length → r'.blk i = r.blk i ∧ r'.val i = r.val i) (hnb : ∀ i x, S.length ≤ i → r'.blk i = some x → w.heap.size ≤ x ∧ x < w'.heap.size) (hinj : ∀ i j x, S.length ≤ i → S.length ≤ j → r'.blk i = some x → r'.blk j = some x → i = j)
    (hout : ∀ i, S.length + T.length ≤ i → r'.blk i = none ∧ r'.val i = none) (ho : ∀ (j : Nat) (o : Ow), T[j]? = some o → o.holds r' w' (S.length + j)) : Rel w0 G (S ++ T) r' w' ∧ r.le r' := by
  have h' := h.below hb
  have hleB : ∀ i x, r.blk i = some x → r'.blk i = some x := fun i x hx => by
    rcases Nat.lt_or_ge i S.length with h1 | h1
    · rw [(hle i h1).1]; exact hx
    · rw [h.outB i h1] at hx; cases hx
  have hleV : ∀ i x, r.val i = some x → r'.val i = some x := fun i x hx => by
    rcases Nat.lt_or_ge i S.length with h1 | h1
    · rw [(hle i h1).2]; exact hx
    · rw [h.outV i h1] at hx; cases hx
  have hle' : r.le r' := ⟨hleB, hleV⟩
  refine ⟨⟨h'.os, h'.tape, h'.output, h'.size, h'.old, fun i o' hi => ?_, fun i j x hx hy => ?_, fun i x hx => ?_, fun i hi => ?_, fun i hi => ?_, fun i g hg => hleB i g (h.first i g hg)⟩, hle'⟩
  · rcases Nat.lt_or_ge i S.length with h1 | h1
    · rw [List.getElem?_append_left h1] at hi
      refine Ow.holds_block (Ow.holds_mono hle' (h.own i o' hi) (hle i h1).1 (fun k x hk => ?_)) (fun x hx => hb.block x ?_) hb.size (fun x hx _ => hb.block x hx)
      · rcases Nat.lt_or_ge k S.length with h2 | h2
        · left; rw [← (hle k h2).1]; exact hk
        · exact .inr (hnb k x h2 hk).1
      · rw [(hle i h1).1] at hx; exact (h.new i x hx).1
    · rw [List.getElem?_append_right h1] at hi
      have := ho (i - S.length) o' hi
      rwa [show S.length + (i - S.length) = i by omega] at this
  · rcases Nat.lt_or_ge i S.length with h1 | h1 <;> rcases Nat.lt_or_ge j S.length with h2 | h2
    · rw [(hle i h1).1] at hx; rw [(hle j h2).1] at hy; exact h.inj _ _ _ hx hy
    · rw [(hle i h1).1] at hx
      have := (h.new i x hx).1
      have := (hnb j x h2 hy).1
      omega
    · rw [(hle j h2).1] at hy
      have := (h.new j x hy).1
      have := (hnb i x h1 hx).1
      omega
    · exact hinj i j x h1 h2 hx hy
  · rcases Nat.lt_or_ge i S.length with h1 | h1
    · rw [(hle i h1).1] at hx; exact h'.new i x hx
    · have := hnb i x h1 hx
      refine ⟨this.2, fun hlt => ?_⟩
      have := h.size
      omega
  · exact (hout i (by simpa using hi)).1
  · exact (hout i (by simpa using hi)).2
/-- Three rows handed back in new memory. -/
structure Rows3 (B : Nat) (w' : World) (v1 v2 v3 : Value) (b : Blk) : Prop where
  at_ : w'.ownsRow B 24 1 v1 b.at_.length (b.at_.map (.int .u32))
  pages : w'.ownsRow B 3 1 v2 b.pages.length (b.pages.map (.int .i64))
  ops : w'.ownsRow B 53 5 v3 b.ops.length (b.ops.flatMap opC)
  d12 : ∀ x, v1.ownBlock = some x → v2.ownBlock ≠ some x
  d13 : ∀ x, v1.ownBlock = some x → v3.ownBlock ≠ some x
  d23 : ∀ x, v2.ownBlock = some x → v3.ownBlock ≠ some x
def env3 (r : Env) (n : Nat) (v1 v2 v3 : Value) : Env := ⟨fun i => if i < n then r.blk i else if i = n then v1.ownBlock else if i = n + 1 then v2.ownBlock else if i = n + 2 then v3.ownBlock else Option.none, fun i => if i < n then r.val i else if i = n then some v1 else if i = n + 1 then some v2 else if i = n + 2 then some v3 else Option.none⟩
theorem env3_hi {r : Env} {n : Nat} {v1 v2 v3 : Value} {i x : Nat} (hi : n ≤ i) (h : (env3 r n v1 v2 v3).blk i = some x) : (i = n ∧ v1.ownBlock = some x) ∨ (i = n + 1 ∧ v2.ownBlock = some x) ∨ (i = n + 2 ∧ v3.ownBlock = some x) := by
  simp only [env3] at h
  rw [if_neg (by omega)] at h
  split at h
  · exact .inl ⟨‹_›, h⟩
  · split at h
    · exact .inr (.inl ⟨‹_›, h⟩)
    · split at h
      · exact .inr (.inr ⟨‹_›, h⟩)
      · cases h
/-- What three rows are that a call hands back. -/
abbrev blkRows (b : Blk) : List Ow := [.row 24 1 b.at_.length (b.at_.map (.int .u32)), .row 3 1 b.pages.length (b.pages.map (.int .i64)), .row 53 5 b.ops.length (b.ops.flatMap opC)]
theorem Rel.rows3 {w0 : World} {G : Gs} {S : List Ow} {r : Env} {w w' : World} (h : Rel w0 G S r w) (hb : Below w.heap.size w w') {v1 v2 v3 : Value} {b : Blk} (h3 : Rows3 w.heap.size w' v1 v2 v3 b) : Rel w0 G (S ++ blkRows b) (env3 r S.length v1 v2 v3) w' ∧ r.le (env3 r S.length v1 v2 v3) ∧ (env3 r S.length v1 v2 v3).val S.length = some v1 ∧ (env3 r S.length v1 v2 v3).val (S.length + 1) = some v2 ∧ (env3 r S.length v1 v2 v3).val (S.length + 2) = some v3 := by
  have hv1 : (env3 r S.length v1 v2 v3).val S.length = some v1 := by simp [env3]
  have hv2 : (env3 r S.length v1 v2 v3).val (S.length + 1) = some v2 := by simp only [env3]; rw [if_neg (by omega), if_neg (by omega), if_pos trivial]
  have hv3 : (env3 r S.length v1 v2 v3).val (S.length + 2) = some v3 := by simp only [env3]; rw [if_neg (by omega), if_neg (by omega), if_neg (by omega), if_pos trivial]
  have hb1 : (env3 r S.length v1 v2 v3).blk S.length = v1.ownBlock := by simp [env3]
  have hb2 : (env3 r S.length v1 v2 v3).blk (S.length + 1) = v2.ownBlock := by simp only [env3]; rw [if_neg (by omega), if_neg (by omega), if_pos trivial]
  have hb3 : (env3 r S.length v1 v2 v3).blk (S.length + 2) = v3.ownBlock := by simp only [env3]; rw [if_neg (by omega), if_neg (by omega), if_neg (by omega), if_pos trivial]
  have := h.snocs hb (blkRows b) (env3 r S.length v1 v2 v3) (fun i hi => by simp only [env3]; rw [if_pos hi, if_pos hi]; exact ⟨rfl, rfl⟩) (fun i x hi hx => ?_) (fun i j x hi hj hx hy => ?_) (fun i hi => ?_) (fun j o hj => ?_)
  · exact ⟨this.1, this.2, hv1, hv2, hv3⟩
  · rcases env3_hi hi hx with ⟨_, e⟩ | ⟨_, e⟩ | ⟨_, e⟩
    · exact own_new h3.at_ x e
    · exact own_new h3.pages x e
    · exact own_new h3.ops x e
  · rcases env3_hi hi hx with ⟨e1, e⟩ | ⟨e1, e⟩ | ⟨e1, e⟩ <;> rcases env3_hi hj hy with ⟨e2, e'⟩ | ⟨e2, e'⟩ | ⟨e2, e'⟩
    · omega
    · exact absurd e' (h3.d12 x e)
    · exact absurd e' (h3.d13 x e)
    · exact absurd e (h3.d12 x e')
    · omega
    · exact absurd e' (h3.d23 x e)
    · exact absurd e (h3.d13 x e')
    · exact absurd e (h3.d23 x e')
    · omega
  · simp only [List.length_cons, List.length_nil] at hi
    simp only [env3]
    rw [if_neg (by omega), if_neg (by omega), if_neg (by omega), if_neg (by omega), if_neg (by omega), if_neg (by omega), if_neg (by omega), if_neg (by omega)]
    exact ⟨rfl, rfl⟩
  · rcases j with _ | _ | _ | j
    · simp at hj; subst hj; exact ⟨v1, hv1, hb1.symm, own_base h3.at_ (Nat.zero_le _)⟩
    · simp at hj; subst hj; exact ⟨v2, hv2, hb2.symm, own_base h3.pages (Nat.zero_le _)⟩
    · simp at hj; subst hj; exact ⟨v3, hv3, hb3.symm, own_base h3.ops (Nat.zero_le _)⟩
    · simp at hj
/-- A call that hands back a block in new memory: as rows. -/
theorem call_blk {P : Program} {w0 : World} {G : Gs} {fid : FuncId} {args : List AV} {S : List Ow} {K : AV → List Ow → Prop} (post : Blk → Prop) (hok : fnOk P fid = true)
    (h : ∀ r w us, Rel w0 G S r w → avdenL r args us → Calls P fid us.toArray w fun en w' => ∃ b v1 v2 v3, post b ∧ en = .returned (.agg #[v1, v2, v3]) ∧ Rows3 w.heap.size w' v1 v2 v3 b ∧ Below w.heap.size w w')
    (hK : ∀ b, post b → K (.p (.agg [.row S.length, .row (S.length + 1), .row (S.length + 2)])) (S ++ blkRows b)) : CallS P w0 G fid args S K := by
  refine ⟨hok, fun r w us hR hd => ?_⟩
  refine (h r w us hR hd).mono fun en w' ⟨b, v1, v2, v3, hp, he, h3, hB⟩ => ?_
  obtain ⟨k1, k2, k3, k4, k5⟩ := hR.rows3 hB h3
  refine ⟨.p (.agg [.row S.length, .row (S.length + 1), .row (S.length + 2)]), _, _, _, he, ⟨[v1, v2, v3], rfl, ?_⟩, k1, k2, hK b hp⟩
  simp only [denL, CV.den]
  exact ⟨_, _, rfl, k3, _, _, rfl, k4, _, _, rfl, k5, rfl⟩
/-- A slice that is a row, or all of a built one. -/
def RowLike (S : List Ow) (x : CV) (i : Nat) (e : TypeId) (size n : Nat) (xs : List Value) : Prop :=
  (x = .row i ∧ S[i]? = some (.row e size n xs)) ∨ (x = .sl i 0 n n ∧ S[i]? = some (.cells e (xs.map .v)) ∧ xs.length = n * size ∧ n ≤ maxLen)
theorem rowLike_at {w0 w : World} {S : List Ow} {r : Env} (hR : Rel w0 Gs.nil S r w) {x : CV} {i : Nat} {e : TypeId} {size n : Nat} {xs : List Value} (h : RowLike S x i e size n xs) {u : Value} (hd : x.den r u) : w.ownsRow w0.heap.size e size u n xs ∧ u.ownBlock = r.blk i := by
  have hnew : ∀ g, r.blk i = some g → w0.heap.size ≤ g := fun g hg => by
    rcases Nat.lt_or_ge g w0.heap.size with h3 | h3
    · have := (hR.new i g hg).2 h3; simp at this
    · exact h3
  rcases h with ⟨rfl, hi⟩ | ⟨rfl, hi, hl, hn⟩
  · simp only [CV.den] at hd
    obtain ⟨v, f1, f2, f3⟩ := hR.own i _ hi
    rw [hd] at f1; injection f1 with f1; subst f1
    refine ⟨⟨f3.1, ?_⟩, f2⟩
    rcases f3.2 with h1 | ⟨b', cap, cur, h1, _, h2⟩
    · exact .inl h1
    · exact .inr ⟨b', cap, cur, h1, hnew b' (by rw [← f2, h1]; rfl), h2⟩
  · simp only [CV.den] at hd
    obtain ⟨b, hb, rfl⟩ := hd
    obtain ⟨b', us, e1, e2, e3⟩ := hR.own i _ hi
    rw [hb] at e1; injection e1 with e1; subst e1
    obtain rfl := denL_vals_inv e3
    exact ⟨⟨hl, .inr ⟨b, n, us.toArray, rfl, hnew b hb, e2, Nat.le_refl _, hn, by simpa using hl, by simp [← hl]⟩⟩, hb.symm⟩
/-- The end of a function that hands back a block in new memory. -/
theorem fin_rows3 {w0 : World} {S : List Ow} {x1 x2 x3 : CV} {R : Ending → World → Prop} (i1 i2 i3 : Nat) (b : Blk) (h12 : i1 ≠ i2) (h13 : i1 ≠ i3) (h23 : i2 ≠ i3) (h1 : RowLike S x1 i1 24 1 b.at_.length (b.at_.map (.int .u32))) (h2 : RowLike S x2 i2 3 1 b.pages.length (b.pages.map (.int .i64))) (h3 : RowLike S x3 i3 53 5 b.ops.length (b.ops.flatMap opC))
    (h : ∀ w v1 v2 v3, Rows3 w0.heap.size w v1 v2 v3 b → Below w0.heap.size w0 w → R (.returned (.agg #[v1, v2, v3])) w) : Fin w0 Gs.nil S (.p (.agg [x1, x2, x3])) R := by
  refine ⟨fun r w u hR hd => ?_⟩
  obtain ⟨us, rfl, hl⟩ := den_agg hd
  simp only [denL] at hl
  obtain ⟨u1, l1, rfl, d1, u2, l2, rfl, d2, u3, l3, rfl, d3, rfl⟩ := hl
  obtain ⟨o1, b1⟩ := rowLike_at hR h1 d1
  obtain ⟨o2, b2⟩ := rowLike_at hR h2 d2
  obtain ⟨o3, b3⟩ := rowLike_at hR h3 d3
  refine h w u1 u2 u3 ⟨o1, o2, o3, fun x hx hy => ?_, fun x hx hy => ?_, fun x hx hy => ?_⟩ hR.toBelow
  · rw [b1] at hx; rw [b2] at hy; exact h12 (hR.inj _ _ _ hx hy)
  · rw [b1] at hx; rw [b3] at hy; exact h13 (hR.inj _ _ _ hx hy)
  · rw [b2] at hx; rw [b3] at hy; exact h23 (hR.inj _ _ _ hx hy)
end Go.Proofs.Ytmjfgnnefcimiaa
