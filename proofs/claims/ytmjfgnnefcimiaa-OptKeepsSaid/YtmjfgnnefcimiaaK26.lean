/- Walks: the maker of blocks: Made of layer 12. Walks: the reference's memory: check, Load. Walks: the reference's memory: Load. Drawn regions over objects: what is taken first, trees of orders, and sets of what has come: each state between is known, in whatever order it was come to. Walks: Opt. Walks: the maker of blocks: Made of layer 15. Walks: the reference's memory: Store. -/
import Derived.Test.YtmjfgnnefcimiaaK1
import Derived.Test.YtmjfgnnefcimiaaK10
import Derived.Test.YtmjfgnnefcimiaaK11
import Derived.Test.YtmjfgnnefcimiaaK12
import Derived.Test.YtmjfgnnefcimiaaK14
import Derived.Test.YtmjfgnnefcimiaaK15
import Derived.Test.YtmjfgnnefcimiaaK16
import Derived.Test.YtmjfgnnefcimiaaK17
import Derived.Test.YtmjfgnnefcimiaaK18
import Derived.Test.YtmjfgnnefcimiaaK19
import Derived.Test.YtmjfgnnefcimiaaK2
import Derived.Test.YtmjfgnnefcimiaaK20
import Derived.Test.YtmjfgnnefcimiaaK21
import Derived.Test.YtmjfgnnefcimiaaK23
import Derived.Test.YtmjfgnnefcimiaaK24
import Derived.Test.YtmjfgnnefcimiaaK25
import Derived.Test.YtmjfgnnefcimiaaK3
import Derived.Test.YtmjfgnnefcimiaaK4
import Derived.Test.YtmjfgnnefcimiaaK5
namespace Go.Proofs.Ytmjfgnnefcimiaa
open Go.RowKit

theorem call_instr {w0 : World} {G : Gs} {S : List Ow} {K : AV → List Ow → Prop} (i : Nat) {A : Option Addr} {m c : Nat} {xs : List Int} {k : Int} (hi : S[i]? = some (.cells 124 ((mkC A m c k).map .v))) (hs : SlOld w0 G A (xs.map (.int .i64))) (hl : xs.length = m) (hm : m ≤ 1000000) (hk : 0 ≤ k ∧ k < 900000)
    (hK : ∀ (l : List BOp) (W : Nat) (ch : Bool) (k' : Int), BodyOk l W ch → l.length ≤ 10 → 0 ≤ k' → k' ≤ k + 200 → K (.p (.c (.row S.length))) (S.set i (.cells 124 ((mkC A m c k').map .v)) ++ [.row 53 5 l.length (l.flatMap opC)])) : CallS Try.prog w0 G 93 [.p (.c (.ref i 0))] S K := by
  refine call_own_row 53 5 (fun n ys us' => ∃ (l : List BOp) (W : Nat) (ch : Bool) (k' : Int), BodyOk l W ch ∧ n = l.length ∧ ys = l.flatMap opC ∧ l.length ≤ 10 ∧ us' = mkC A m c k' ∧ 0 ≤ k' ∧ k' ≤ k + 200) i hi (xs := []) rfl (by kernel_rfl) (fun w g ho hg => instruction_walk A m c xs k g w (ho A _ hs) hl hm hk hg) ?_
  rintro n ys us' ⟨l, W, ch, k', hb, rfl, rfl, hll, rfl, h0, h1⟩
  exact hK l W ch k' hb hll h0 h1
theorem ops_one (l : List BOp) : ∀ u ∈ l.flatMap opC, u.oneCell' = true := fun u hu => by
  obtain ⟨o, _, ho⟩ := List.mem_flatMap.1 hu
  exact opC_one u ho
/-- The instructions under way. -/
structure MadeSt (n : Int) (k0 : Int) where
  i : Nat
  ats : List Int
  ops : List BOp
  W : Nat
  ch : Bool
  k : Int
  hi : (i : Int) ≤ n
  hats : ∀ x ∈ ats, word x
  hatl : ats.length = i
  pre : PreOk ops i W ch
  hlen : ops.length ≤ 11 * i
  hk : 0 ≤ k ∧ k ≤ k0 + 210 * i
set_option maxRecDepth 100000 in
theorem made12_walk (A : Option Addr) (m c : Nat) (xs : List Int) (w : World) (hs : SlAt w w.heap.size A (xs.map (.int .i64))) (hl : xs.length = m) (hm : m ≤ 1000000) :
    Calls Try.prog 68 #[.slice A m c] w fun e w' => ∃ b v1 v2 v3, MadeOk b ∧ e = .returned (.agg #[v1, v2, v3]) ∧ Rows3 w.heap.size w' v1 v2 v3 b ∧ Below w.heap.size w w' := by
  have hs0 : SlOld w Gs.nil A (xs.map (.int .i64)) := fun j u hj => by
    obtain ⟨b, off, e1, e2, e3⟩ := hs j u hj
    exact ⟨b, off, e1, e2, by simp, e3⟩
  refine calls_satq [.slice A m c] Try.func68 Try.ntmps68 rfl (by simp) ?_
  refine satq_seq ?_
  conv => whnf
  refine satq_seq ?_
  conv => whnf
  refine satq_seq ?_
  conv => whnf
  refine call_take 1 rfl hs0 hl hm (by omega) (by omega) fun z z0 z1 => ?_
  conv => whnf
  refine ⟨1 + z, wr64 (by omega), ?_⟩
  conv => whnf
  refine satq_seq ?_
  conv => whnf
  refine call_take 1 rfl hs0 hl hm (by omega) (by omega) fun y y0 y1 => ?_
  conv => whnf
  refine ⟨y, by rw [wr32]; omega, ?_⟩
  conv => whnf
  refine ⟨y * 8, by rw [wr32]; omega, ?_⟩
  conv => whnf
  refine satq_seq ?_
  conv => whnf
  refine ⟨by omega, y * 8 / 256, by rw [Int.tdiv_eq_ediv_of_nonneg (by omega), wr32]; omega, ?_⟩
  conv => whnf
  refine ⟨y * 8 / 256, wr64 (by omega), ?_⟩
  conv => whnf
  obtain ⟨n, hn, hn0, hn1⟩ : ∃ n, n = 1 + z ∧ 1 ≤ n ∧ n ≤ 12 := ⟨_, rfl, by omega, by omega⟩
  rw [← hn]
  obtain ⟨at0, hat, hat0, hat1⟩ : ∃ a, a = y * 8 ∧ 0 ≤ a ∧ a < 4096 := ⟨_, rfl, by omega, by omega⟩
  rw [← hat]
  obtain ⟨p, hp, hp0, hp1⟩ : ∃ p, p = at0 / 256 ∧ 0 ≤ p ∧ p < 4096 := ⟨_, rfl, by omega, by omega⟩
  rw [← hp]
  clear hn hat hp
  refine satq_in ?_
  refine satq_seq ?_
  conv => whnf
  refine satq_block ?_
  refine satq_loop (α := MadeSt n 2) (fun x => [(2, .p (.c (.ref 0 0))), (3, .p (.c (.ref 1 0))), (4, one (.int .i64 n)), (5, one (.int .u32 at0)), (6, .p (.c (.ref 3 0))), (7, one (.int .i64 (x.i : Int)))])
    (fun x => [.cells 32 [.v (.slice none 0 0), .v (.slice none 0 0), .v (.slice none 0 0)], .cells 124 ((mkC A m c x.k).map .v), .cells 3 [.v (.int .i64 p)], .cells 32 [.row 4, .sl 2 0 1 1, .row 5], .row 24 1 x.ats.length (x.ats.map (.int .u32)), .row 53 5 x.ops.length (x.ops.flatMap opC)])
    (fun x => (n - x.i).toNat) ⟨0, [], [], 0, false, 2, by omega, nofun, rfl, PreOk.nil, by simp, by omega⟩
    (ent_trans (ent_cellrow 3 0 24 1 rfl rfl (f' := [(2, .p (.c (.ref 0 0))), (3, .p (.c (.ref 1 0))), (4, one (.int .i64 n)), (5, one (.int .u32 at0)), (6, .p (.c (.ref 3 0))), (7, one (.int .i64 0))]) (aI rfl (aI rfl (aI rfl (aI rfl (aI rfl (aI rfl trivial))))))) (ent_trans (ent_cellrow 3 2 53 5 rfl rfl (f' := [(2, .p (.c (.ref 0 0))), (3, .p (.c (.ref 1 0))), (4, one (.int .i64 n)), (5, one (.int .u32 at0)), (6, .p (.c (.ref 3 0))), (7, one (.int .i64 0))]) (aI rfl (aI rfl (aI rfl (aI rfl (aI rfl (aI rfl trivial))))))) (ent_same rfl (aI rfl (aI rfl (aI rfl (aI rfl (aI rfl (aI rfl trivial)))))) (aI ((aI rfl (Or.inl rfl))) (aI ((aI rfl (Or.inl rfl))) (aI ((aI rfl (Or.inl rfl))) (aI ((aI rfl (Or.inl rfl))) (aI ((aI rfl (aI rfl (aI rfl rfl)))) (aI ((aI rfl (aI rfl (aI rfl rfl)))) trivial))))))))) fun x => ?_
  obtain ⟨i, ats, ops, W, ch, k, hi, hats, hatl, pre, hlen, hk⟩ := x
  dsimp only
  refine satq_seq ?_
  conv => whnf
  refine ⟨fun hc => ?_, fun hc => ?_⟩
  · have hlt : (i : Int) < n := by simpa using hc
    conv => whnf
    refine satq_mid (α := { y : MadeSt n 2 // y.i = i + 1 }) (fun y => [(2, .p (.c (.ref 0 0))), (3, .p (.c (.ref 1 0))), (4, one (.int .i64 n)), (5, one (.int .u32 at0)), (6, .p (.c (.ref 3 0))), (7, one (.int .i64 (i : Int)))])
      (fun y => [.cells 32 [.v (.slice none 0 0), .v (.slice none 0 0), .v (.slice none 0 0)], .cells 124 ((mkC A m c y.1.k).map .v), .cells 3 [.v (.int .i64 p)], .cells 32 [.row 4, .sl 2 0 1 1, .row 5], .row 24 1 y.1.ats.length (y.1.ats.map (.int .u32)), .row 53 5 y.1.ops.length (y.1.ops.flatMap opC)]) ?_ fun y => ?_
    · refine satq_block ?_
      refine satq_seq ?_
      conv => whnf
      refine ⟨_, wr64 (by omega), ?_⟩
      conv => whnf
      refine ⟨_, wr32 _, ?_⟩
      conv => whnf
      refine ⟨_, wr32 _, ?_⟩
      conv => whnf
      refine appK_sound rfl ?_ rfl
      conv => whnf
      refine ⟨by omega, ?_⟩
      conv => whnf
      refine satq_seq ?_
      conv => whnf
      refine ⟨(i : Int), by rw [wr32]; omega, ?_⟩
      conv => whnf
      refine appK_sound rfl ?_ rfl
      conv => whnf
      refine ⟨by omega, ?_⟩
      conv => whnf
      obtain ⟨ats2, hats2⟩ : ∃ l, l = ats ++ [(at0 + 4 * (i : Int) % 4294967296) % 4294967296] := ⟨_, rfl⟩
      have hatsw : ∀ x ∈ ats2, word x := by
        intro x hx
        rw [hats2] at hx
        rcases List.mem_append.1 hx with hx | hx
        · exact hats x hx
        · simp at hx; subst hx; exact word_mod _
      have hatsl : ats2.length = i + 1 := by rw [hats2]; simp [hatl]
      have pre2 := pre.mark (by omega)
      refine satq_mid (α := { y : Int × Bool // k ≤ y.1 ∧ y.1 ≤ k + 1 }) (fun y => [(2, .p (.c (.ref 0 0))), (3, .p (.c (.ref 1 0))), (4, one (.int .i64 n)), (5, one (.int .u32 at0)), (6, .p (.c (.ref 3 0))), (7, one (.int .i64 (i : Int))), (55, one (.bool y.1.2))])
        (fun y => [.cells 32 [.v (.slice none 0 0), .v (.slice none 0 0), .v (.slice none 0 0)], .cells 124 ((mkC A m c y.1.1).map .v), .cells 3 [.v (.int .i64 p)], .cells 32 [.row 4, .sl 2 0 1 1, .row 5], .row 24 1 ats2.length (ats2.map (.int .u32)), .row 53 5 (ops ++ [(⟨20, 0, 0, 0, (i : Int)⟩ : BOp)]).length ((ops ++ [(⟨20, 0, 0, 0, (i : Int)⟩ : BOp)]).flatMap opC)]) ?_ fun y => ?_
      · refine satq_region ?_
        conv => whnf
        refine ⟨_, wr64 (by omega), ?_⟩
        conv => whnf
        by_cases hlast : (i : Int) < n - 1
        · rw [decide_eq_true hlast]
          conv => whnf
          exact atq_mid ⟨(k, true), by dsimp only; omega⟩ (ent_drop (aI rfl (aI rfl (aI rfl (aI rfl (aI rfl (aI rfl (aI rfl trivial))))))) (aI ((aI rfl (Or.inl rfl))) (aI ((aI rfl (Or.inl rfl))) (aI ((aI rfl (Or.inl rfl))) (aI ((aI rfl (Or.inl rfl))) (aI ((aI rfl (aI rfl (aI (by rw [hats2]; simp) (by rw [hats2]; simp))))) (aI ((aI rfl (aI rfl (aI (by simp) (by simp [opC]))))) trivial)))))) rfl rfl)
        · rw [decide_eq_false hlast]
          conv => whnf
          refine call_take 1 rfl hs0 hl hm (by omega) (by omega) fun q q0 q1 => ?_
          conv => whnf
          exact atq_mid ⟨(k + 1, decide (q > 0)), by dsimp only; omega⟩ (ent_drop (aI rfl (aI rfl (aI rfl (aI rfl (aI rfl (aI rfl (aI rfl trivial))))))) (aI ((aI rfl (Or.inl rfl))) (aI ((aI rfl (Or.inl rfl))) (aI ((aI rfl (Or.inl rfl))) (aI ((aI rfl (Or.inl rfl))) (aI ((aI rfl (aI rfl (aI (by rw [hats2]; simp) (by rw [hats2]; simp))))) (aI ((aI rfl (aI rfl (aI (by simp) (by simp [opC]))))) trivial)))))) rfl rfl)
      obtain ⟨⟨k2, bd⟩, hk2⟩ := y
      dsimp only at hk2 ⊢
      refine satq_vc ?_
      conv => whnf
      refine ⟨fun _ => ?_, fun _ => ?_⟩
      · conv => whnf
        refine sat_any (.q 0 (.q 2 (.alt 1 (.alt 3 (.alt 4 (.q 5 (.alt 6 .done .no)) .no) .no) (.alt 3 (.alt 1 (.alt 4 (.q 5 (.alt 6 .done .no)) .no) .no) .no)))) mixed (by kernel_rfl) (by kernel_rfl) ?_
        conv => whnf
        refine ⟨?_, ?_, trivial⟩
        · conv => whnf
          refine ⟨?_, trivial⟩
          conv => whnf
          refine call_instr 1 rfl hs0 hl hm (by omega) fun l W' ch' k' hb hll h0 h1 => ?_
          conv => whnf
          refine ⟨?_, trivial⟩
          conv => whnf
          refine appK_sound rfl ?_ rfl
          conv => whnf
          refine ⟨rfl, ops_one l, ?_⟩
          conv => whnf
          refine ⟨by simp; omega, ?_⟩
          conv => whnf
          refine ⟨?_, trivial⟩
          conv => whnf
          refine atq_block ?_
          exact atq_mid ⟨⟨i + 1, ats2, (ops ++ [(⟨20, 0, 0, 0, (i : Int)⟩ : BOp)]) ++ l, W', ch', k', by omega, hatsw, hatsl, pre2.body hb (by omega), by simp; omega, by omega⟩, rfl⟩ (ent_drop (aI rfl (aI rfl (aI rfl (aI rfl (aI rfl (aI rfl trivial)))))) (aI ((aI rfl (Or.inl rfl))) (aI ((aI rfl (Or.inl rfl))) (aI ((aI rfl (Or.inl rfl))) (aI ((aI rfl (Or.inl rfl))) (aI ((aI rfl (aI rfl (aI rfl rfl)))) (aI ((aI rfl (aI rfl (aI (by simp; omega) (by simp [opC]))))) trivial)))))) rfl rfl)
        · conv => whnf
          refine call_instr 1 rfl hs0 hl hm (by omega) fun l W' ch' k' hb hll h0 h1 => ?_
          conv => whnf
          refine ⟨?_, trivial⟩
          conv => whnf
          refine ⟨?_, trivial⟩
          conv => whnf
          refine appK_sound rfl ?_ rfl
          conv => whnf
          refine ⟨rfl, ops_one l, ?_⟩
          conv => whnf
          refine ⟨by simp; omega, ?_⟩
          conv => whnf
          refine ⟨?_, trivial⟩
          conv => whnf
          refine atq_block ?_
          exact atq_mid ⟨⟨i + 1, ats2, (ops ++ [(⟨20, 0, 0, 0, (i : Int)⟩ : BOp)]) ++ l, W', ch', k', by omega, hatsw, hatsl, pre2.body hb (by omega), by simp; omega, by omega⟩, rfl⟩ (ent_drop (aI rfl (aI rfl (aI rfl (aI rfl (aI rfl (aI rfl trivial)))))) (aI ((aI rfl (Or.inl rfl))) (aI ((aI rfl (Or.inl rfl))) (aI ((aI rfl (Or.inl rfl))) (aI ((aI rfl (Or.inl rfl))) (aI ((aI rfl (aI rfl (aI rfl rfl)))) (aI ((aI rfl (aI rfl (aI (by simp; omega) (by simp [opC]))))) trivial)))))) rfl rfl)
      · conv => whnf
        refine atq_block ?_
        exact atq_mid ⟨⟨i + 1, ats2, _, 0, false, k2, by omega, hatsw, hatsl, pre2, by simp; omega, by omega⟩, rfl⟩ (ent_same rfl (aI rfl (aI rfl (aI rfl (aI rfl (aI rfl (aI rfl trivial)))))) (aI ((aI rfl (Or.inl rfl))) (aI ((aI rfl (Or.inl rfl))) (aI ((aI rfl (Or.inl rfl))) (aI ((aI rfl (Or.inl rfl))) (aI ((aI rfl (aI rfl (aI rfl rfl)))) (aI ((aI rfl (aI rfl (aI rfl rfl)))) trivial)))))))
    obtain ⟨y, hy⟩ := y
    dsimp only
    refine satq_vc ?_
    conv => whnf
    refine ⟨_, wr64 (by omega), ?_⟩
    conv => whnf
    exact atq_next y (ent_same rfl (aI rfl (aI rfl (aI rfl (aI rfl (aI rfl (aI ((by show one _ = one _; rw [hy]; rfl)) trivial)))))) (aI ((aI rfl (Or.inl rfl))) (aI ((aI rfl (Or.inl rfl))) (aI ((aI rfl (Or.inl rfl))) (aI ((aI rfl (Or.inl rfl))) (aI ((aI rfl (aI rfl (aI rfl rfl)))) (aI ((aI rfl (aI rfl (aI rfl rfl)))) trivial))))))) (by rw [hy]; omega)
  · have hlt : (i : Int) = n := by simp at hc; omega
    conv => whnf
    refine atq_out (atq_exit (atq_on ?_))
    refine satq_seq ?_
    conv => whnf
    refine call_take 1 rfl hs0 hl hm (by omega) (by omega) fun q q0 q1 => ?_
    conv => whnf
    refine ⟨q, by rw [wr32]; omega, ?_⟩
    conv => whnf
    refine ⟨q * 4, by rw [wr32]; omega, ?_⟩
    conv => whnf
    have hnx : word (q * 4) := by unfold word; omega
    refine satq_mid (α := { y : List Int × List BOp // MadeOk ⟨y.1, [p], y.2⟩ }) (fun y => [(2, .p (.c (.ref 0 0))), (6, .p (.c (.ref 3 0)))])
      (fun y => [.cells 32 [.v (.slice none 0 0), .v (.slice none 0 0), .v (.slice none 0 0)], .gone, .cells 3 [.v (.int .i64 p)], .cells 32 [.row 4, .sl 2 0 1 1, .row 5], .row 24 1 y.1.1.length (y.1.1.map (.int .u32)), .row 53 5 y.1.2.length (y.1.2.flatMap opC)]) ?_ fun y => ?_
    · refine satq_seq ?_
      conv => whnf
      refine call_take 1 rfl hs0 hl hm (by omega) (by omega) fun s s0 s1 => ?_
      conv => whnf
      refine satq_block ?_
      refine satq_seq ?_
      conv => whnf
      refine satq_cond rfl (fun _ => ?_) (fun _ => ?_)
      · refine satq_vc ?_
        conv => whnf
        refine ⟨(i : Int), by rw [wr32]; omega, ?_⟩
        conv => whnf
        refine appK_sound rfl ?_ rfl
        conv => whnf
        refine ⟨by omega, ?_⟩
        conv => whnf
        refine ⟨_, wr64 (by omega), ?_⟩
        conv => whnf
        refine ⟨_, wr32 _, ?_⟩
        conv => whnf
        refine ⟨_, wr32 _, ?_⟩
        conv => whnf
        refine appK_sound rfl ?_ rfl
        conv => whnf
        refine ⟨by omega, ?_⟩
        conv => whnf
        refine atq_block ?_
        exact atq_mid ⟨(ats ++ [(at0 + 4 * n % 4294967296) % 4294967296], (ops ++ [(⟨20, 0, 0, 0, (i : Int)⟩ : BOp)]) ++ [⟨22, 0, 0, 0, 0⟩]), made_ok (pre.mark (by omega)) tail_slow (by omega) (fun x hx => by
          rcases List.mem_append.1 hx with hx | hx
          · exact hats x hx
          · simp at hx; subst hx; exact word_mod _) (by simp [hatl]) (by omega) ⟨hp0, hp1⟩ (by simp; omega)⟩ (ent_drop (aI rfl (aI rfl trivial)) (aI ((aI rfl (Or.inl rfl))) (aI ((by trivial)) (aI ((aI rfl (Or.inl rfl))) (aI ((aI rfl (Or.inl rfl))) (aI ((aI rfl (aI rfl (aI (by simp) (by simp))))) (aI ((aI rfl (aI rfl (aI (by simp) (by simp [opC, hlt]))))) trivial)))))) rfl rfl)
      · refine satq_seq ?_
        conv => whnf
        refine satq_cond rfl (fun _ => ?_) (fun _ => ?_)
        · refine satq_vc ?_
          refine sat_any (.q 0 (.q 2 (.alt 1 (.alt 3 (.q 4 (.alt 5 (.alt 6 (.q 7 (.alt 8 .done .no)) .no) .no)) .no) (.alt 3 (.q 4 (.alt 1 (.alt 5 (.alt 6 (.q 7 (.alt 8 .done .no)) .no) .no) (.alt 5 (.alt 1 (.alt 6 (.q 7 (.alt 8 .done .no)) .no) .no) .no))) .no)))) mixed (by kernel_rfl) (by kernel_rfl) ?_
          conv => whnf
          refine ⟨?_, ?_, trivial⟩
          · conv => whnf
            refine ⟨?_, trivial⟩
            conv => whnf
            refine call_take 1 rfl hs0 hl hm (by omega) (by omega) fun a a0 a1 => ?_
            conv => whnf
            refine ⟨?_, trivial⟩
            conv => whnf
            refine ⟨?_, trivial⟩
            conv => whnf
            refine appK_sound rfl ?_ rfl
            conv => whnf
            refine ⟨by omega, ?_⟩
            conv => whnf
            refine ⟨?_, trivial⟩
            conv => whnf
            refine atq_block ?_
            exact atq_mid ⟨(ats, ops ++ [⟨25, 0, a, 0, 0⟩]), made_ok pre (tail_var ⟨a0, a1⟩ ch) (by omega) hats hatl (by omega) ⟨hp0, hp1⟩ (by simp; omega)⟩ (ent_drop (aI rfl (aI rfl trivial)) (aI ((aI rfl (Or.inl rfl))) (aI ((by trivial)) (aI ((aI rfl (Or.inl rfl))) (aI ((aI rfl (Or.inl rfl))) (aI ((aI rfl (aI rfl (aI rfl rfl)))) (aI ((aI rfl (aI rfl (aI (by simp) (by simp [opC]))))) trivial)))))) rfl rfl)
          · conv => whnf
            refine call_take 1 rfl hs0 hl hm (by omega) (by omega) fun a a0 a1 => ?_
            conv => whnf
            refine ⟨?_, ?_, trivial⟩
            · conv => whnf
              refine ⟨?_, trivial⟩
              conv => whnf
              refine ⟨?_, trivial⟩
              conv => whnf
              refine appK_sound rfl ?_ rfl
              conv => whnf
              refine ⟨by omega, ?_⟩
              conv => whnf
              refine ⟨?_, trivial⟩
              conv => whnf
              refine atq_block ?_
              exact atq_mid ⟨(ats, ops ++ [⟨25, 0, a, 0, 0⟩]), made_ok pre (tail_var ⟨a0, a1⟩ ch) (by omega) hats hatl (by omega) ⟨hp0, hp1⟩ (by simp; omega)⟩ (ent_drop (aI rfl (aI rfl trivial)) (aI ((aI rfl (Or.inl rfl))) (aI ((by trivial)) (aI ((aI rfl (Or.inl rfl))) (aI ((aI rfl (Or.inl rfl))) (aI ((aI rfl (aI rfl (aI rfl rfl)))) (aI ((aI rfl (aI rfl (aI (by simp) (by simp [opC]))))) trivial)))))) rfl rfl)
            · conv => whnf
              refine ⟨?_, trivial⟩
              conv => whnf
              refine ⟨?_, trivial⟩
              conv => whnf
              refine appK_sound rfl ?_ rfl
              conv => whnf
              refine ⟨by omega, ?_⟩
              conv => whnf
              refine ⟨?_, trivial⟩
              conv => whnf
              refine atq_block ?_
              exact atq_mid ⟨(ats, ops ++ [⟨25, 0, a, 0, 0⟩]), made_ok pre (tail_var ⟨a0, a1⟩ ch) (by omega) hats hatl (by omega) ⟨hp0, hp1⟩ (by simp; omega)⟩ (ent_drop (aI rfl (aI rfl trivial)) (aI ((aI rfl (Or.inl rfl))) (aI ((by trivial)) (aI ((aI rfl (Or.inl rfl))) (aI ((aI rfl (Or.inl rfl))) (aI ((aI rfl (aI rfl (aI rfl rfl)))) (aI ((aI rfl (aI rfl (aI (by simp) (by simp [opC]))))) trivial)))))) rfl rfl)
        · refine satq_mid (α := Bool) (fun y => [(2, .p (.c (.ref 0 0))), (3, .p (.c (.ref 1 0))), (4, one (.int .i64 n)), (5, one (.int .u32 at0)), (6, .p (.c (.ref 3 0))), (8, one (.int .u32 (q * 4))), (106, one (.bool y))]) (fun y => [.cells 32 [.v (.slice none 0 0), .v (.slice none 0 0), .v (.slice none 0 0)], .cells 124 ((mkC A m c (k + 1 + 1)).map .v), .cells 3 [.v (.int .i64 p)], .cells 32 [.row 4, .sl 2 0 1 1, .row 5], .row 24 1 ats.length (ats.map (.int .u32)), .row 53 5 ops.length (ops.flatMap opC)]) ?_ fun y => ?_
          · refine satq_seq ?_
            conv => whnf
            refine satq_cond rfl (fun h => ?_) (fun h => ?_)
            · refine satq_skip ?_
              exact atq_mid true (ent_same rfl (aI rfl (aI rfl (aI rfl (aI rfl (aI rfl (aI rfl (aI ((by show one _ = one _; rw [h])) trivial))))))) (aI ((aI rfl (Or.inl rfl))) (aI ((aI rfl (Or.inl rfl))) (aI ((aI rfl (Or.inl rfl))) (aI ((aI rfl (Or.inl rfl))) (aI ((aI rfl (aI rfl (aI rfl rfl)))) (aI ((aI rfl (aI rfl (aI rfl rfl)))) trivial)))))))
            · refine satq_vc ?_
              conv => whnf
              exact atq_mid (s == 3) (ent_same rfl (aI rfl (aI rfl (aI rfl (aI rfl (aI rfl (aI rfl (aI rfl trivial))))))) (aI ((aI rfl (Or.inl rfl))) (aI ((aI rfl (Or.inl rfl))) (aI ((aI rfl (Or.inl rfl))) (aI ((aI rfl (Or.inl rfl))) (aI ((aI rfl (aI rfl (aI rfl rfl)))) (aI ((aI rfl (aI rfl (aI rfl rfl)))) trivial)))))))
          refine satq_cond rfl (fun _ => ?_) (fun _ => ?_)
          · refine satq_vc ?_
            refine sat_any (.q 0 (.q 2 (.q 4 (.q 6 (.q 7 (.q 8 (.q 9 (.q 10 (.q 11 (.alt 1 (.alt 3 (.q 5 (.alt 12 (.alt 13 (.q 14 (.alt 15 .done .no)) .no) .no)) .no) (.alt 3 (.q 5 (.alt 1 (.alt 12 (.alt 13 (.q 14 (.alt 15 .done .no)) .no) .no) (.alt 12 (.alt 1 (.alt 13 (.q 14 (.alt 15 .done .no)) .no) .no) .no))) .no))))))))))) mixed (by kernel_rfl) (by kernel_rfl) ?_
            conv => whnf
            refine ⟨_, wr64 (by omega), ?_⟩
            conv => whnf
            refine ⟨_, wr32 _, ?_⟩
            conv => whnf
            refine ⟨_, wr32 _, ?_⟩
            conv => whnf
            refine ⟨?_, ?_, trivial⟩
            · conv => whnf
              refine ⟨?_, trivial⟩
              conv => whnf
              refine call_take 1 rfl hs0 hl hm (by omega) (by omega) fun a a0 a1 => ?_
              conv => whnf
              refine ⟨?_, trivial⟩
              conv => whnf
              refine ⟨?_, trivial⟩
              conv => whnf
              refine appK_sound rfl ?_ rfl
              conv => whnf
              refine ⟨by omega, ?_⟩
              conv => whnf
              refine ⟨?_, trivial⟩
              conv => whnf
              refine atq_block ?_
              exact atq_mid ⟨(ats, ops ++ [⟨23, 0, a, 0, q * 4⟩, ⟨24, 0, 0, 0, (at0 + 4 * n % 4294967296) % 4294967296⟩]), made_ok pre (tail_if ⟨a0, a1⟩ hnx (word_mod _) ch) (by omega) hats hatl (by omega) ⟨hp0, hp1⟩ (by simp; omega)⟩ (ent_drop (aI rfl (aI rfl trivial)) (aI ((aI rfl (Or.inl rfl))) (aI ((by trivial)) (aI ((aI rfl (Or.inl rfl))) (aI ((aI rfl (Or.inl rfl))) (aI ((aI rfl (aI rfl (aI rfl rfl)))) (aI ((aI rfl (aI rfl (aI (by simp) (by simp [opC]))))) trivial)))))) rfl rfl)
            · conv => whnf
              refine call_take 1 rfl hs0 hl hm (by omega) (by omega) fun a a0 a1 => ?_
              conv => whnf
              refine ⟨?_, ?_, trivial⟩
              · conv => whnf
                refine ⟨?_, trivial⟩
                conv => whnf
                refine ⟨?_, trivial⟩
                conv => whnf
                refine appK_sound rfl ?_ rfl
                conv => whnf
                refine ⟨by omega, ?_⟩
                conv => whnf
                refine ⟨?_, trivial⟩
                conv => whnf
                refine atq_block ?_
                exact atq_mid ⟨(ats, ops ++ [⟨23, 0, a, 0, q * 4⟩, ⟨24, 0, 0, 0, (at0 + 4 * n % 4294967296) % 4294967296⟩]), made_ok pre (tail_if ⟨a0, a1⟩ hnx (word_mod _) ch) (by omega) hats hatl (by omega) ⟨hp0, hp1⟩ (by simp; omega)⟩ (ent_drop (aI rfl (aI rfl trivial)) (aI ((aI rfl (Or.inl rfl))) (aI ((by trivial)) (aI ((aI rfl (Or.inl rfl))) (aI ((aI rfl (Or.inl rfl))) (aI ((aI rfl (aI rfl (aI rfl rfl)))) (aI ((aI rfl (aI rfl (aI (by simp) (by simp [opC]))))) trivial)))))) rfl rfl)
              · conv => whnf
                refine ⟨?_, trivial⟩
                conv => whnf
                refine ⟨?_, trivial⟩
                conv => whnf
                refine appK_sound rfl ?_ rfl
                conv => whnf
                refine ⟨by omega, ?_⟩
                conv => whnf
                refine ⟨?_, trivial⟩
                conv => whnf
                refine atq_block ?_
                exact atq_mid ⟨(ats, ops ++ [⟨23, 0, a, 0, q * 4⟩, ⟨24, 0, 0, 0, (at0 + 4 * n % 4294967296) % 4294967296⟩]), made_ok pre (tail_if ⟨a0, a1⟩ hnx (word_mod _) ch) (by omega) hats hatl (by omega) ⟨hp0, hp1⟩ (by simp; omega)⟩ (ent_drop (aI rfl (aI rfl trivial)) (aI ((aI rfl (Or.inl rfl))) (aI ((by trivial)) (aI ((aI rfl (Or.inl rfl))) (aI ((aI rfl (Or.inl rfl))) (aI ((aI rfl (aI rfl (aI rfl rfl)))) (aI ((aI rfl (aI rfl (aI (by simp) (by simp [opC]))))) trivial)))))) rfl rfl)
          · refine satq_vc ?_
            conv => whnf
            refine appK_sound rfl ?_ rfl
            conv => whnf
            refine ⟨by omega, ?_⟩
            conv => whnf
            refine atq_block ?_
            exact atq_mid ⟨(ats, ops ++ [⟨24, 0, 0, 0, q * 4⟩]), made_ok pre (tail_exit hnx ch) (by omega) hats hatl (by omega) ⟨hp0, hp1⟩ (by simp; omega)⟩ (ent_drop (aI rfl (aI rfl trivial)) (aI ((aI rfl (Or.inl rfl))) (aI ((by trivial)) (aI ((aI rfl (Or.inl rfl))) (aI ((aI rfl (Or.inl rfl))) (aI ((aI rfl (aI rfl (aI rfl rfl)))) (aI ((aI rfl (aI rfl (aI (by simp) (by simp [opC]))))) trivial)))))) rfl rfl)
    obtain ⟨⟨ats2, ops2⟩, hy⟩ := y
    dsimp only at hy ⊢
    refine satq_vc ?_
    conv => whnf
    refine atq_ret ?_
    conv => whnf
    refine fin_rows3 4 2 5 ⟨ats2, [p], ops2⟩ (by omega) (by omega) (by omega) (.inl ⟨rfl, rfl⟩) (.inr ⟨rfl, rfl, rfl, by show (1 : Nat) ≤ maxLen; decide⟩) (.inl ⟨rfl, rfl⟩) fun w' v1 v2 v3 h3 hB => ⟨_, v1, v2, v3, hy, rfl, h3, hB⟩
end Go.Proofs.Ytmjfgnnefcimiaa
namespace Go.Proofs.Ytmjfgnnefcimiaa
open Go.RowKit

/-- The first of k addresses from a + i on that lacks a right. -/
def MemP.bad (M : MemP) (a r : Int) : Nat → Nat → Option Int
  | _, 0 => none
  | i, k + 1 => if M.right ((a + i) % 4294967296) r = true then M.bad a r (i + 1) k else some ((a + i) % 4294967296)
end Go.Proofs.Ytmjfgnnefcimiaa
namespace Go.Proofs.Ytmjfgnnefcimiaa
open Go.RowKit

def MemP.get (M : MemP) (x : Int) : Int := (M.data[x.toNat]?).getD 0
/-- The word of k bytes from a + i on. -/
def MemP.load (M : MemP) (a : Int) : Nat → Nat → Int
  | _, 0 => 0
  | i, k + 1 => (M.load a (i + 1) k * 256 + M.get ((a + i) % 4294967296)) % 4294967296
theorem load_word (M : MemP) (a : Int) (i k : Nat) : word (M.load a i k) := by
  cases k with
  | zero => exact word0
  | succ k => exact word_mod _
end Go.Proofs.Ytmjfgnnefcimiaa
namespace Go.Proofs.Ytmjfgnnefcimiaa
open Go.RowKit
/-- Old memory that is not in G is as it was. -/
structure Held (W : World) (G : Gs) (w : World) : Prop where
  os : w.os = W.os
  tape : w.tape = W.tape
  output : w.output = W.output
  size : W.heap.size ≤ w.heap.size
  old : ∀ k, k < W.heap.size → k ∉ G → w.heap[k]? = W.heap[k]?
def Gs.flat (G : Gs) : Gs := ⟨[], G.fix ++ G.ext⟩
theorem flat_mem {G : Gs} {b : Nat} : b ∈ G.flat ↔ b ∈ G := by
  constructor
  · rintro (h | h)
    · cases h
    · exact List.mem_append.1 h
  · intro h; exact .inr (List.mem_append.2 h)
theorem Rel.held {W : World} {G : Gs} {S : List Ow} {r : Env} {w : World} (h : Rel W G S r w) : Held W G w := ⟨h.os, h.tape, h.output, h.size, h.old⟩
theorem Held.rel {W : World} {G : Gs} {w : World} (h : Held W G w) : Rel W G.flat [] Env.none w :=
  ⟨h.os, h.tape, h.output, h.size, fun k hk hn => h.old k hk (fun hm => hn (flat_mem.2 hm)), by simp, nofun, nofun, fun _ _ => rfl, fun _ _ => rfl, (by intro i g h; simp [Gs.flat] at h)⟩
/-- What a slot holds, if it names no own entry. -/
def plainAV (x : AV) : AV := match x.fx (fun _ => false) with | true => x | false => .p (.c .any)
def plainG : Fr → Fr
  | [] => []
  | (d, x) :: f => (d, plainAV x) :: plainG f
theorem plainG_den {r : Env} {f : Fr} {a : Act} (hf : FDen r f a) : FDen Env.none (plainG f) a := by
  have key : ∀ f : Fr, ∀ k u, (f.get k).den r u → ((plainG f).get k).den Env.none u := by
    intro f
    induction f with
    | nil => intro k u _; simp [plainG, Fr.get, AV.den, Pc.den, CV.den]
    | cons p f ih =>
      obtain ⟨d, x⟩ := p
      intro k u h
      unfold plainG
      cases hk : Nat.beq d k <;> simp only [Fr.get, hk] at h ⊢
      · exact ih k u h
      · unfold plainAV
        cases hx : x.fx (fun _ => false)
        · simp [AV.den, Pc.den, CV.den]
        · exact AV.den_fx (ok := fun _ => false) (fun i b hi => by cases hi) hx h
  exact fun k => key f k _ (hf k)
section
variable (P : Program) (W : World) (G : Gs) (N : Nd)
/-- What is taken first: it yields the same whatever comes before it. -/
def firstG (f : Fr) (T : List Ow) (o : Oper) (K : AV → Prop) : Prop :=
  match o.op with
  | .move x => forceAV (f.ev x) K
  | .assign x => forceAV (f.ev x) K
  | .fieldAddr s x k => (match f.ev x with
    | .p (.c (.ref i off)) => (match fldOff P s k with | some n => K (.p (.c (.ref i (off + n)))) | none => False)
    | _ => (match opTy P o.op with | true => qop P W G.flat [] (plainG f) o K | false => False))
  | .nilCheck x => (match f.ev x with
    | .p (.c (.ref i off)) => K (.p (.c (.ref i off)))
    | _ => (match opTy P o.op with | true => qop P W G.flat [] (plainG f) o K | false => False))
  | .build t parts => buildK P T f t parts K
  | _ => (match opTy P o.op with | true => qop P W G.flat [] (plainG f) o K | false => False)
end
section
variable {P : Program} {W : World} {G : Gs} {N : Nd} {ops : Array Oper} {l : List Oper}
theorem firstG_sound {f : Fr} {T : List Ow} {o : Oper} {K : AV → Prop} (h : firstG P W G f T o K) {r : Env} {w : World} (hR : Rel W G T r w) {a : Act} (hf : FDen r f a) :
    ∃ v u, K v ∧ v.den r u ∧ ∀ w', Held W G w' → (execOp a.eval o).run P w' = .ok (.value u) w' := by
  have plain : (match opTy P o.op with | true => qop P W G.flat [] (plainG f) o K | false => False) → ∃ v u, K v ∧ v.den r u ∧ ∀ w', Held W G w' → (execOp a.eval o).run P w' = .ok (.value u) w' := fun h => by
    split at h
    · rename_i hty
      obtain ⟨v, u, hK, hden, hrun⟩ := qop_held h hty rfl (D := Held W G) (fun w hw => hw.rel) hR.held (plainG_den hf)
      exact ⟨v, u, hK, AV.den_mono ⟨(fun i b h => by cases h), (fun i b h => by cases h)⟩ _ _ hden, hrun⟩
    · exact h.elim
  unfold firstG at h
  split at h
  · rename_i x hop
    exact ⟨_, _, forceAV_iff.1 h, hf.ev x, fun w' _ => by simp [execOp, hop]⟩
  · rename_i x hop
    exact ⟨_, _, forceAV_iff.1 h, hf.ev x, fun w' _ => by simp [execOp, hop]⟩
  · rename_i s x k hop
    split at h
    · rename_i i off he
      split at h
      · rename_i n hn
        have hx := hf.ev x
        rw [he] at hx
        obtain ⟨b, hb, hu⟩ := den_ref hx
        exact ⟨_, _, h, den_mk_ref hb, fun w' _ => by simp [execOp, hop, hu, run_fieldAt hn]⟩
      · exact h.elim
    · exact plain h
  · rename_i x hop
    split at h
    · rename_i i off he
      have hx := hf.ev x
      rw [he] at hx
      obtain ⟨b, hb, hu⟩ := den_ref hx
      exact ⟨_, _, h, den_mk_ref hb, fun w' _ => by simp [execOp, hop, hu]⟩
    · exact plain h
  · rename_i t parts hop
    obtain ⟨v, u, hK, hd, hrun⟩ := buildK_sound hR hf h
    exact ⟨v, u, hK, hd, fun w' _ => by simp [execOp, hop, hrun w']⟩
  · exact plain h
end
/-- What may come up in a state: all have come; number i is taken first; one of these, each with the state that it leads to. -/
inductive Nx (α : Type) where
  | done
  | q (i : Nat) (y : α)
  | alts (l : List (Nat × α))
/-- The states as they should be: what has come, what may come up. -/
structure DagOk {α : Type} (ops : Array Oper) (listed : α → Array Bool) (nx : α → Nx α) (left : α → Nat) (x : α) : Prop where
  done : nx x = .done → Region.ready .any ops (listed x) = []
  q : ∀ i y, nx x = .q i y → Region.free .any ops (listed x) i = true ∧ (Region.ready .any ops (listed x)).contains i = true ∧ listed y = (listed x).setIfInBounds i true ∧ left y < left x
  alts : ∀ l, nx x = .alts l → Region.ready .any ops (listed x) = l.map Prod.fst ∧ l ≠ [] ∧ ∀ p ∈ l, listed p.2 = (listed x).setIfInBounds p.1 true ∧ left p.2 < left x
def eqBools : List Bool → List Bool → Bool
  | [], [] => true
  | a :: l, b :: m => match a, b with | true, true => eqBools l m | false, false => eqBools l m | _, _ => false
  | _, _ => false
theorem eqBools_eq : ∀ {l m : List Bool}, eqBools l m = true → l = m
  | [], [], _ => rfl
  | a :: l, b :: m, h => by
    cases a <;> cases b <;> simp only [eqBools] at h <;> first | cases h | rw [eqBools_eq h]
  | [], _ :: _, h => by cases h
  | _ :: _, [], h => by cases h
def dagB {α : Type} (ops : Array Oper) (listed : α → Array Bool) (nx : α → Nx α) (left : α → Nat) (x : α) : Bool :=
  match nx x with
  | .done => (Region.ready .any ops (listed x)).isEmpty
  | .q i y => Region.free .any ops (listed x) i && (Region.ready .any ops (listed x)).contains i && eqBools (listed y).toList ((listed x).setIfInBounds i true).toList && Nat.blt (left y) (left x)
  | .alts l => (Region.ready .any ops (listed x) == l.map Prod.fst) && !l.isEmpty && l.all fun p => eqBools (listed p.2).toList ((listed x).setIfInBounds p.1 true).toList && Nat.blt (left p.2) (left x)
theorem dagB_ok {α : Type} {ops : Array Oper} {listed : α → Array Bool} {nx : α → Nx α} {left : α → Nat} {x : α} (h : dagB ops listed nx left x = true) : DagOk ops listed nx left x := by
  unfold dagB at h
  refine ⟨fun e => ?_, fun i y e => ?_, fun l e => ?_⟩
  · rw [e] at h; simpa using h
  · rw [e] at h
    simp only [Bool.and_eq_true] at h
    exact ⟨h.1.1.1, h.1.1.2, Array.ext' (eqBools_eq h.1.2), by simpa [Nat.blt_eq] using h.2⟩
  · rw [e] at h
    simp only [Bool.and_eq_true, List.all_eq_true] at h
    refine ⟨by simpa using h.1.1, by simpa using h.1.2, fun p hp => ?_⟩
    obtain ⟨h1, h2⟩ := h.2 p hp
    exact ⟨Array.ext' (eqBools_eq h1), by simpa [Nat.blt_eq] using h2⟩
section
variable (P : Program) (W : World) (G : Gs) (N : Nd) {α : Type}
/-- What is to be shown of a state. -/
def nodeK (ops : Array Oper) (l : List Oper) (T : α → Fr) (U : α → List Ow) (K : Fr → List Ow → Prop) (x : α) : Nx α → Prop
  | .done => K (T x) (U x)
  | .q i y => (match l[i]? with
    | none => False
    | some o => (match dstOk N.n o.dst with
      | false => False
      | true => (match guardOf ops (T x) o with
        | some true => firstG P W G (T x) (U x) o fun v => (T x).putK o.dst v fun f' => Ent W G N f' (U x) (T y) (U y)
        | some false => (T x).putK o.dst (.p (.c .any)) fun f' => Ent W G N f' (U x) (T y) (U y)
        | none => False)))
  | .alts m => ∀ p ∈ m, (match l[p.1]? with
    | none => False
    | some o => (match guardOf ops (T x) o with
        | some true => opK P W G N o (T x) (U x) fun f' S' => Ent W G N f' S' (T p.2) (U p.2)
        | _ => False))
end
section
variable {P : Program} {W : World} {G : Gs} {N : Nd} {ops : Array Oper} {l : List Oper} {α : Type}
theorem dag_sound {listed : α → Array Bool} {nx : α → Nx α} {left : α → Nat} {T : α → Fr} {U : α → List Ow} (hl : ∀ i : Nat, l[i]? = ops[i]?) (hns : Region.noSelect ops = true) {K : Fr → List Ow → Prop} {Q : Exit → Act → World → Prop} (hQ0 : ∀ c a w, ¬ Q (.panic c) a w) (hQ : ∀ f T a w, K f T → Good W G N f T a w → Q .normal a w)
    (hB : ∀ x, dagB ops listed nx left x = true) (hnode : ∀ x, nodeK P W G N ops l T U K x (nx x)) :
    ∀ (n : Nat) (x : α) (a : Act) (w : World), left x ≤ n → Good W G N (T x) (U x) a w → wpAnyH P .any ops Q (Held W G) n (listed x) a w := by
  intro n
  induction n with
  | zero =>
    intro x a w hn hg
    have hb := dagB_ok (hB x)
    have hk := hnode x
    cases hx : nx x with
    | done => rw [hx] at hk; exact wpAnyH_done (hb.done hx) (hQ _ _ a w hk hg) _
    | q i y => have := (hb.q i y hx).2.2.2; omega
    | alts m =>
      obtain ⟨_, h2, h3⟩ := hb.alts m hx
      obtain ⟨p, hp⟩ := List.exists_mem_of_ne_nil m h2
      have := (h3 p hp).2
      omega
  | succ n ih =>
    intro x a w hn hg
    have hb := dagB_ok (hB x)
    have hk := hnode x
    cases hx : nx x with
    | done => rw [hx] at hk; exact wpAnyH_done (hb.done hx) (hQ _ _ a w hk hg) _
    | q i y =>
      rw [hx] at hk
      obtain ⟨h1, h2, h3, h4⟩ := hb.q i y hx
      simp only [nodeK] at hk
      split at hk
      · exact hk.elim
      · rename_i o ho
        rw [hl] at ho
        split at hk
        · exact hk.elim
        · rename_i hdst
          obtain ⟨r, hR, hf, hN, hd⟩ := hg
          split at hk
          · rename_i hgd
            have hw := guard_wanted hf hgd
            obtain ⟨v, u, hK, hden, hrun⟩ := firstG_sound hk hR hf
            have hK := putK_iff.1 hK
            refine wpAnyH_take (v := u) ho hns h1 h2 (fun c a w h => absurd h (hQ0 c _ w)) (.inl ⟨hw, hrun⟩) hR.held ?_
            rw [← h3]
            exact ih y _ w (by omega) (hK.out _ w ⟨r, hR, hf.put hden (by rw [hN]; exact hdst), (put_size a _ _).trans hN, (put_defers a _ _).trans hd⟩)
          · rename_i hgd
            have hw := guard_wanted hf hgd
            have hK := putK_iff.1 hk
            refine wpAnyH_take (v := undef) ho hns h1 h2 (fun c a w h => absurd h (hQ0 c _ w)) (.inr ⟨hw, rfl⟩) hR.held ?_
            rw [← h3]
            exact ih y _ w (by omega) (hK.out _ w ⟨r, hR, hf.putAny _ (by rw [hN]; exact hdst), (put_size a _ _).trans hN, (put_defers a _ _).trans hd⟩)
          · exact hk.elim
    | alts m =>
      rw [hx] at hk
      obtain ⟨h1, h2, h3⟩ := hb.alts m hx
      refine wpAnyH_all h1 (by simpa using h2) fun i hi => ?_
      obtain ⟨p, hp, rfl⟩ := List.mem_map.1 hi
      have hk := hk p hp
      obtain ⟨h4, h5⟩ := h3 p hp
      split at hk
      · exact hk.elim
      · rename_i o ho
        rw [hl] at ho
        obtain ⟨r, hR, hf, hN, hd⟩ := hg
        split at hk
        · rename_i hgd
          have hw := guard_wanted hf hgd
          unfold wpOp
          simp only [ho, hw, if_true]
          refine .inl (se_wp ((opK_sound hk).out r a w hR hf hN hd (fun a' w' => Held W G w' ∧ wpAnyH P .any ops Q (Held W G) n ((listed x).setIfInBounds p.1 true) a' w') Q fun f' T' a' w' hke hg' => ?_) fun _ _ h => h)
          have hg2 := hke.out a' w' hg'
          refine ⟨?_, ?_⟩
          · obtain ⟨r', hR', _⟩ := hg2
            exact hR'.held
          · rw [← h4]; exact ih p.2 a' w' (by omega) hg2
        · exact hk.elim
/-- A drawn region, by the sets of what has come. -/
theorem sat_dag {id : Nat} {f : Fr} {S : List Ow} {K : Exit → Fr → List Ow → Prop} (listed : α → Array Bool) (nx : α → Nx α) (left : α → Nat) (T : α → Fr) (U : α → List Ow) (x0 : α) (hm : P.follows .mixedOrders = true) (hns : Region.noSelect l.toArray = true) (h0 : (eqBools (listed x0).toList (List.replicate l.length false) && Nat.ble (left x0) l.length) = true) (hB : ∀ x, dagB l.toArray listed nx left x = true)
    (hent : Ent W G N f S (T x0) (U x0)) (hnode : ∀ x, nodeK P W G N l.toArray l T U (K .normal) x (nx x)) : Sat none P W G N (.region id l.toArray true) f S K := by
  refine ⟨fun n a w hg => wpIn_wide.2 ?_⟩
  simp only [Bool.and_eq_true] at h0
  obtain ⟨r, hR, hf, hN, hd⟩ := hent.out a w hg
  refine Code.wp_mono (Q := fun e a w => match e with | .normal => PostK W G N K .normal a w | _ => False) (fun e a w h => by cases e <;> first | exact h | exact h.elim) (wp_region_held (S := Held W G) hm ?_)
  have := dag_sound (P := P) (W := W) (N := N) (ops := l.toArray) (l := l) (Q := fun e a w => match e with | .normal => PostK W G N K .normal a w | _ => False) (fun i => by simp) hns (fun c a w h => h) (fun f T a w hk hg => ⟨f, T, hk, hg⟩) hB hnode l.length x0 a w.drew (Nat.le_of_ble_eq_true h0.2) ⟨r, hR.drew, hf, hN, hd⟩
  have e : listed x0 = Array.replicate l.toArray.size false := Array.ext' (by rw [eqBools_eq h0.1]; simp)
  rw [e] at this
  simpa using this
end
/-- Entries of which nothing is known yet. -/
theorem rel_gone {w0 : World} {G : Gs} {r : Env} {w : World} (n : Nat) {S : List Ow} (h : Rel w0 G S r w) : Rel w0 G (S ++ List.replicate n .gone) r w := by
  have hl : (S ++ List.replicate n Ow.gone).length = S.length + n := by simp
  refine ⟨h.os, h.tape, h.output, h.size, h.old, fun i o ho => ?_, h.inj, h.new, fun i hi => h.outB i (by omega), fun i hi => h.outV i (by omega), h.first⟩
  rcases Nat.lt_or_ge i S.length with h1 | h1
  · rw [List.getElem?_append_left h1] at ho; exact h.own i o ho
  · rw [List.getElem?_append_right h1, List.getElem?_replicate] at ho
    split at ho
    · injection ho with ho; subst ho; trivial
    · cases ho
theorem ent_gone {w0 : World} {G : Gs} {N : Nd} {f : Fr} {S : List Ow} (n : Nat) : Ent w0 G N f S f (S ++ List.replicate n .gone) := ⟨fun _a _w ⟨r, hR, hf, hN, hd⟩ => ⟨r, rel_gone n hR, hf, hN, hd⟩⟩
end Go.Proofs.Ytmjfgnnefcimiaa
namespace Go.Proofs.Ytmjfgnnefcimiaa
open Go.RowKit

theorem call_repeat {mu : Blk → Nat} (hmu : ∀ b, b.ok → (onceP b).ops ≠ b.ops → mu (onceP b) < mu b) {w0 : World} {S : List Ow} {K : AV → List Ow → Prop} (i : Nat) (b : Blk) {φ : Option Addr → Prop} {A1 A2 A3 : Option Addr} {c1 c2 c3 : Nat} {t : TypeId} (hi : S[i]? = some (.cells t [.clo (.func 17) [], .clo (.func 18) [], .clo (.func 19) []])) (hb : b.ok)
    (h1 : SlAt w0 w0.heap.size A1 (b.at_.map (.int .u32))) (h2 : SlAt w0 w0.heap.size A2 (b.pages.map (.int .i64))) (h3 : OpsAt w0 w0.heap.size A3 b.ops) (hc3 : b.ops.length ≤ c3) (hm3 : c3 ≤ maxLen) (hv : validB b = true) (hφ : ∀ A, Fresh w0.heap.size A ∨ A = A3 → φ A)
    (hK : K (.p (.agg [.v (.slice A1 b.at_.length c1), .v (.slice A2 b.pages.length c2), .row S.length])) (S ++ [.view φ (optN (mu b) b).ops.length ((optN (mu b) b).ops.flatMap opC)])) :
    CallS Try.prog w0 Gs.nil 51 [.p (.agg [.v (.slice A1 b.at_.length c1), .v (.slice A2 b.pages.length c2), .v (.slice A3 b.ops.length c3)]), .p (.c (.sl i 0 3 3))] S K := by
  refine ⟨by kernel_rfl, fun r w us hR hd => ?_⟩
  obtain ⟨u1, l1, rfl, d1, u2, l2, rfl, d2, d3⟩ := hd
  obtain rfl : l2 = [] := d3
  obtain rfl := AV.val_den (x := .agg #[.slice A1 b.at_.length c1, .slice A2 b.pages.length c2, .slice A3 b.ops.length c3]) rfl d1
  simp only [AV.den, Pc.den, CV.den] at d2
  obtain ⟨bp, hbp, rfl⟩ := d2
  obtain ⟨bp', us, e1, e2, e3⟩ := hR.own i _ hi
  rw [hbp] at e1; injection e1 with e1; subst e1
  have hus : us = passV := by
    simp only [denL, CV.den] at e3
    obtain ⟨x1, y1, rfl, ⟨z1, rfl, rfl⟩, x2, y2, rfl, ⟨z2, rfl, rfl⟩, x3, y3, rfl, ⟨z3, rfl, rfl⟩, rfl⟩ := e3
    rfl
  subst hus
  have hpv : SlAt w w.heap.size (some ⟨bp, 0, none⟩) passV := fun j u hj => ⟨bp, 0, rfl, (hR.new i bp hbp).1, by simp [World.cell?, e2, hj]⟩
  refine (repeat_walk mu hmu b A1 A2 A3 c1 c2 c3 bp w hb (sl_later h1 hR.toBelow) (sl_later h2 hR.toBelow) (sl_later h3 hR.toBelow) hc3 hm3 hpv).mono fun e w' ⟨A', c', he, ho, k1, k2, k3, hB⟩ => ?_
  refine ⟨.p (.agg [.v (.slice A1 b.at_.length c1), .v (.slice A2 b.pages.length c2), .row S.length]), _, _, r.set S.length none (some (.slice A' (optN (mu b) b).ops.length c')), he, ⟨[.slice A1 b.at_.length c1, .slice A2 b.pages.length c2, .slice A' (optN (mu b) b).ops.length c'], rfl, ?_⟩,
    hR.snoc (o := .view φ (optN (mu b) b).ops.length ((optN (mu b) b).ops.flatMap opC)) hB (b := none) nofun ⟨A', c', by simp [Env.set], k1, ⟨k2, hφ _ ?_⟩, by simp [Env.set], fun j u hj => ?_⟩, hR.le_new _ _, hK⟩
  · simp only [denL, CV.den]
    exact ⟨_, _, rfl, rfl, _, _, rfl, rfl, _, _, rfl, by simp [Env.set], rfl⟩
  · rcases k3 with k3 | k3
    · exact .inl fun b off sp hA => Nat.le_trans hR.size (k3 b off sp hA)
    · exact .inr k3
  · obtain ⟨b', off, e4, e5, e6⟩ := ho j u hj
    refine ⟨b', off, e4, e5, fun q hq => ?_, e6⟩
    simp only [Env.set] at hq
    split at hq
    · cases hq
    · rcases k3 with k3 | rfl
      · have := k3 b' off none e4
        have := (hR.new q b' hq).1
        omega
      · have h5 := ops_lt (e4 ▸ h3) (valid_pos hv).1
        exact absurd ((hR.new q b' hq).2 h5) (by simp)
def optAll (mu : Blk → Nat) (b : Blk) : List BOp := if validB b then (optN (mu b) b).ops else b.ops
set_option maxRecDepth 100000 in
theorem opt_pass {mu : Blk → Nat} (hmu : ∀ b, b.ok → (onceP b).ops ≠ b.ops → mu (onceP b) < mu b) : Pass Try.prog 20 (optAll mu) := by
  intro b A1 A2 A3 c1 c2 c3 w hb h1 h2 h3 hc3 hm3
  refine calls_val [.agg #[.slice A1 b.at_.length c1, .slice A2 b.pages.length c2, .slice A3 b.ops.length c3]] Try.func20 Try.ntmps20 rfl (by simp) ?_
  conv => whnf
  refine call_con rfl (by kernel_rfl) (fun r w' hR => valid_ir A1 A2 A3 c1 c2 c3 b w' hb (sl_later h2 hR.toBelow) (sl_later h3 hR.toBelow)) ?_
  conv => whnf
  refine ⟨fun hn => ?_, fun hn => ?_⟩
  · have hv : validB b = false := by simpa using hn
    have hF : optAll mu b = b.ops := by unfold optAll; rw [hv]; rfl
    conv => whnf
    refine fin_val rfl fun w' hB => ⟨A3, c3, by rw [hF], by rw [hF]; exact sl_later h3 hB, by rw [hF]; exact hc3, hm3, .inr rfl, hB⟩
  have hv : validB b = true := by simpa using hn
  have hF : optAll mu b = (optN (mu b) b).ops := by unfold optAll; rw [hv]; rfl
  conv => whnf
  refine call_repeat hmu (φ := fun A => Fresh w.heap.size A ∨ A = A3) 2 b rfl hb h1 h2 h3 hc3 hm3 hv (fun A h => h) ?_
  conv => whnf
  refine fin_view (i := 3) (l := (optN (mu b) b).ops) rfl rfl rfl fun w' A c e1 e2 e3 e4 e5 => ?_
  rw [hF]
  exact ⟨A, c, rfl, e1, e2, e3, e4, e5⟩
end Go.Proofs.Ytmjfgnnefcimiaa
namespace Go.Proofs.Ytmjfgnnefcimiaa
open Go.RowKit

theorem cut_ops {l : List BOp} {i k n : Nat} {o : BOp} (h : l[i]? = some o) (hk : k = i * 5) (hn : n = 5) : cut (List.map CV.v (List.flatMap opC l)) k n = some ((opC o).map .v) := by
  subst hk; subst hn
  have hlt : i < l.length := by
    rcases Nat.lt_or_ge i l.length with h1 | h1
    · exact h1
    · rw [List.getElem?_eq_none h1] at h; cases h
  unfold cut
  have : Nat.ble (i * 5 + 5) (List.map CV.v (List.flatMap opC l)).length = true := Nat.ble_eq_true_of_le (by rw [List.length_map, ops_length]; omega)
  rw [this]
  show some (((List.flatMap opC l).map CV.v).drop (i * 5) |>.take 5) = _
  rw [← List.map_drop, ← List.map_take, ops_cut h]
theorem ops_setAt {l : List BOp} {i k : Nat} (o : BOp) (hk : k = i * 5) (h : i < l.length) : setAll (l.flatMap opC) k (opC o) = (l.set i o).flatMap opC := by subst hk; exact ops_set o h
/-- The replacing under way. -/
structure ReplSt (a g : List Int) (n : Nat) where
  i : Nat
  l : List BOp
  hl : l.length = n
  hi : i ≤ n
  ok : MadeOk ⟨a, g, l⟩
set_option maxRecDepth 100000 in
theorem made15_walk (A : Option Addr) (m c : Nat) (xs : List Int) (w : World) (hs : SlAt w w.heap.size A (xs.map (.int .i64))) (hl : xs.length = m) (hm : m ≤ 1000000) :
    Calls Try.prog 35 #[.slice A m c] w fun e w' => ∃ b v1 v2 v3, MadeOk b ∧ e = .returned (.agg #[v1, v2, v3]) ∧ Rows3 w.heap.size w' v1 v2 v3 b ∧ Below w.heap.size w w' := by
  refine calls_satq [.slice A m c] Try.func35 Try.ntmps35 rfl (by simp) ?_
  refine satq_seq ?_
  conv => whnf
  refine satq_seq ?_
  conv => whnf
  refine call_blk MadeOk (by kernel_rfl) (fun r w' us hR hd => ?_) fun b hb => ?_
  · obtain rfl := avals_den (xs := [.slice A m c]) rfl hd
    exact made12_walk A m c xs w' (sl_later hs hR.toBelow) hl hm
  conv => whnf
  refine satq_in ?_
  refine satq_seq ?_
  conv => whnf
  refine satq_block ?_
  refine satq_loop (α := ReplSt b.at_ b.pages b.ops.length) (fun x => [(0, one (.slice A m c)), (2, .p (.c (.ref 0 0))), (3, .p (.c (.ref 4 0))), (4, one (.int .i64 (x.i : Int)))])
    (fun x => [.cells 32 [.v (.slice none 0 0), .v (.slice none 0 0), .v (.slice none 0 0)], .row 24 1 b.at_.length (b.at_.map (.int .u32)), .row 3 1 b.pages.length (b.pages.map (.int .i64)), .row 53 5 b.ops.length (x.l.flatMap opC), .cells 32 [.row 1, .row 2, .row 3]])
    (fun x => b.ops.length - x.i) ⟨0, b.ops, rfl, by omega, hb⟩ (ent_same rfl (aI rfl (aI rfl (aI rfl (aI rfl trivial)))) (aI ((aI rfl (Or.inl rfl))) (aI ((aI rfl (aI rfl (aI rfl rfl)))) (aI ((aI rfl (aI rfl (aI rfl rfl)))) (aI ((aI rfl (aI rfl (aI rfl rfl)))) (aI ((aI rfl (Or.inl rfl))) trivial)))))) fun x => ?_
  obtain ⟨i, l, hll, hi, ok⟩ := x
  dsimp only
  refine satq_seq ?_
  conv => whnf
  refine ⟨fun hc => ?_, fun hc => ?_⟩
  · have hlt : i < b.ops.length := by simpa using hc
    obtain ⟨o, ho⟩ : ∃ o, l[i]? = some o := ⟨_, List.getElem?_eq_getElem (by omega)⟩
    conv => whnf
    refine satq_mid (α := { y : ReplSt b.at_ b.pages b.ops.length // y.i = i }) (fun y => [(0, one (.slice A m c)), (2, .p (.c (.ref 0 0))), (3, .p (.c (.ref 4 0))), (4, one (.int .i64 (i : Int)))])
      (fun y => [.cells 32 [.v (.slice none 0 0), .v (.slice none 0 0), .v (.slice none 0 0)], .row 24 1 b.at_.length (b.at_.map (.int .u32)), .row 3 1 b.pages.length (b.pages.map (.int .i64)), .row 53 5 b.ops.length (y.1.l.flatMap opC), .cells 32 [.row 1, .row 2, .row 3]]) ?_ fun y => ?_
    · refine satq_block ?_
      refine satq_seq ?_
      conv => whnf
      refine satq_mid (α := Int) (fun y => [(0, one (.slice A m c)), (2, .p (.c (.ref 0 0))), (3, .p (.c (.ref 4 0))), (4, one (.int .i64 (i : Int))), (5, one (.int .i64 y))])
        (fun y => [.cells 32 [.v (.slice none 0 0), .v (.slice none 0 0), .v (.slice none 0 0)], .row 24 1 b.at_.length (b.at_.map (.int .u32)), .row 3 1 b.pages.length (b.pages.map (.int .i64)), .row 53 5 b.ops.length (l.flatMap opC), .cells 32 [.row 1, .row 2, .row 3]]) ?_ fun n => ?_
      · refine satq_vc ?_
        conv => whnf
        refine ⟨fun ht => ?_, fun _ => ?_⟩
        · have hlt2 : (i : Int) < (m : Int) := by simpa using ht
          obtain ⟨x, hx⟩ : ∃ x, xs[m - 1 - i]? = some x := ⟨_, List.getElem?_eq_getElem (by omega)⟩
          obtain ⟨bb, off, rfl, e2, e3⟩ := hs (m - 1 - i) (.int .i64 x) (by rw [List.getElem?_map, hx]; rfl)
          conv => whnf
          refine ⟨_, wr64 (by omega), ?_⟩
          conv => whnf
          refine ⟨_, wr64 (by omega), ?_⟩
          conv => whnf
          refine ⟨⟨by omega, by omega⟩, ?_⟩
          conv => whnf
          refine ⟨.int .i64 x, cells_one e2 (by simp) (by rw [show off + ((m : Int) - 1 - (i : Int)).toNat * tsz Try.prog 3 = off + (m - 1 - i) from congrArg (off + ·) ((Nat.mul_one _).trans (by omega))]; exact e3), ?_⟩
          conv => whnf
          refine ⟨_, rfl, ?_⟩
          conv => whnf
          exact atq_mid _ (ent_same rfl (aI rfl (aI rfl (aI rfl (aI rfl (aI rfl trivial))))) (aI ((aI rfl (Or.inl rfl))) (aI ((aI rfl (aI rfl (aI rfl rfl)))) (aI ((aI rfl (aI rfl (aI rfl rfl)))) (aI ((aI rfl (aI rfl (aI rfl rfl)))) (aI ((aI rfl (Or.inl rfl))) trivial))))))
        · conv => whnf
          exact atq_mid 0 (ent_same rfl (aI rfl (aI rfl (aI rfl (aI rfl (aI rfl trivial))))) (aI ((aI rfl (Or.inl rfl))) (aI ((aI rfl (aI rfl (aI rfl rfl)))) (aI ((aI rfl (aI rfl (aI rfl rfl)))) (aI ((aI rfl (aI rfl (aI rfl rfl)))) (aI ((aI rfl (Or.inl rfl))) trivial))))))
      refine satq_seq ?_
      conv => whnf
      refine ⟨⟨by omega, by omega⟩, ?_⟩
      conv => whnf
      rw [cut_ops ho]
      rotate_left
      · show (i : Int).toNat * 5 = i * 5; rw [Int.toNat_natCast]
      · rfl
      conv => whnf
      have hof : formedB o = true := valid_formed ok.valid o (List.mem_of_getElem? ho)
      refine satq_seq ?_
      conv => whnf
      refine call_con rfl (by kernel_rfl) (fun r w' hR => pure_ref o w') ?_
      conv => whnf
      refine satq_seq ?_
      conv => whnf
      refine ⟨fun _ => ?_, fun hp => ?_⟩
      · conv => whnf
        refine atq_exit ?_
        exact atq_mid ⟨⟨i, l, hll, hi, ok⟩, rfl⟩ (ent_drop (aI rfl (aI rfl (aI rfl (aI rfl trivial)))) (aI ((aI rfl (Or.inl rfl))) (aI ((aI rfl (aI rfl (aI rfl rfl)))) (aI ((aI rfl (aI rfl (aI rfl rfl)))) (aI ((aI rfl (aI rfl (aI rfl rfl)))) (aI ((aI rfl (Or.inl rfl))) trivial))))) rfl rfl)
      have hp : pureB o = true := by simpa using hp
      conv => whnf
      refine satq_seq ?_
      conv => whnf
      refine ⟨by omega, _, rfl, ?_⟩
      conv => whnf
      refine satq_block ?_
      refine satq_seq ?_
      conv => whnf
      refine satq_cond rfl (fun _ => ?_) (fun _ => ?_)
      · refine satq_vc ?_
        conv => whnf
        refine ⟨by omega, _, rfl, ?_⟩
        conv => whnf
        refine ⟨by omega, _, rfl, ?_⟩
        conv => whnf
        refine ⟨_, wr32 _, ?_⟩
        conv => whnf
        refine ⟨⟨by omega, by omega⟩, ?_⟩
        conv => whnf
        refine ⟨?_, ?_⟩
        · show (i : Int).toNat * 5 + 5 ≤ (l.flatMap opC).length
          rw [ops_length]; omega
        conv => whnf
        refine atq_block (atq_block ?_)
        exact atq_mid ⟨⟨i, l.set i ⟨1, o.d, 0, 0, ((IntKind.i64.wrap (n.tdiv 5)).tmod 3) % 4294967296⟩, by simpa using hll, hi, made_repl ok ho hp (repl_const hof hp _) ⟨mid_small (by dsimp only; omega), (ok.ok.ops o (List.mem_of_getElem? ho)).d, mid0, mid0, word_mod _⟩⟩, rfl⟩ (ent_drop (aI rfl (aI rfl (aI rfl (aI rfl trivial)))) (aI ((aI rfl (Or.inl rfl))) (aI ((aI rfl (aI rfl (aI rfl rfl)))) (aI ((aI rfl (aI rfl (aI rfl rfl)))) (aI ((aI rfl (aI rfl (aI rfl (by exact ops_setAt (l := l) (⟨1, o.d, 0, 0, (IntKind.i64.wrap (n.tdiv 5)).tmod 3 % 4294967296⟩ : BOp) (congrArg (· * 5) (Int.toNat_natCast i)) (by omega)))))) (aI ((aI rfl (Or.inl rfl))) trivial))))) rfl rfl)
      refine satq_seq ?_
      conv => whnf
      refine satq_cond rfl (fun _ => ?_) (fun _ => ?_)
      · refine satq_seq ?_
        conv => whnf
        refine call_row rfl (by kernel_rfl) (fun r w' hR => reads_ref o w') ?_
        conv => whnf
        refine satq_vc ?_
        conv => whnf
        refine ⟨fun hn => ?_, fun _ => ?_⟩
        · have hn : 0 < (reads o).length := by simpa using hn
          obtain ⟨v, rl, hrd⟩ : ∃ v rl, reads o = v :: rl := by
            cases hr : reads o with
            | nil => rw [hr] at hn; simp at hn
            | cons v rl => exact ⟨v, rl, rfl⟩
          rw [hrd]
          conv => whnf
          refine sat_tail 10 mixed (by kernel_rfl) ?_
          conv => whnf
          refine ⟨⟨by omega, by simp⟩, ?_⟩
          conv => whnf
          refine ⟨⟨by omega, by omega⟩, ?_⟩
          conv => whnf
          refine ⟨?_, ?_⟩
          · show (i : Int).toNat * 5 + 5 ≤ (l.flatMap opC).length
            rw [ops_length]; omega
          conv => whnf
          refine atq_block (atq_block ?_)
          exact atq_mid ⟨⟨i, l.set i ⟨2, o.d, v, 0, 0⟩, by simpa using hll, hi, made_repl ok ho hp (repl_move hof hp (by rw [hrd]; simp)) ⟨mid_small (by dsimp only; omega), (ok.ok.ops o (List.mem_of_getElem? ho)).d, field_mid (reads_field hof (by rw [hrd]; simp)), mid0, word0⟩⟩, rfl⟩ (ent_drop (aI rfl (aI rfl (aI rfl (aI rfl trivial)))) (aI ((aI rfl (Or.inl rfl))) (aI ((aI rfl (aI rfl (aI rfl rfl)))) (aI ((aI rfl (aI rfl (aI rfl rfl)))) (aI ((aI rfl (aI rfl (aI rfl (by exact ops_setAt (l := l) (⟨2, o.d, v, 0, 0⟩ : BOp) (congrArg (· * 5) (Int.toNat_natCast i)) (by omega)))))) (aI ((aI rfl (Or.inl rfl))) trivial))))) rfl rfl)
        · conv => whnf
          refine atq_block (atq_block ?_)
          exact atq_mid ⟨⟨i, l, hll, hi, ok⟩, rfl⟩ (ent_drop (aI rfl (aI rfl (aI rfl (aI rfl trivial)))) (aI ((aI rfl (Or.inl rfl))) (aI ((aI rfl (aI rfl (aI rfl rfl)))) (aI ((aI rfl (aI rfl (aI rfl rfl)))) (aI ((aI rfl (aI rfl (aI rfl rfl)))) (aI ((aI rfl (Or.inl rfl))) trivial))))) rfl rfl)
      · refine satq_skip ?_
        refine atq_block (atq_block ?_)
        exact atq_mid ⟨⟨i, l, hll, hi, ok⟩, rfl⟩ (ent_drop (aI rfl (aI rfl (aI rfl (aI rfl trivial)))) (aI ((aI rfl (Or.inl rfl))) (aI ((aI rfl (aI rfl (aI rfl rfl)))) (aI ((aI rfl (aI rfl (aI rfl rfl)))) (aI ((aI rfl (aI rfl (aI rfl rfl)))) (aI ((aI rfl (Or.inl rfl))) trivial))))) rfl rfl)
    obtain ⟨y, hy⟩ := y
    dsimp only
    refine satq_vc ?_
    conv => whnf
    have hbl := hb.len
    refine ⟨_, wr64 (by omega), ?_⟩
    conv => whnf
    exact atq_next ⟨i + 1, y.l, y.hl, by omega, y.ok⟩ (ent_same rfl (aI rfl (aI rfl (aI rfl (aI rfl trivial)))) (aI ((aI rfl (Or.inl rfl))) (aI ((aI rfl (aI rfl (aI rfl rfl)))) (aI ((aI rfl (aI rfl (aI rfl rfl)))) (aI ((aI rfl (aI rfl (aI rfl rfl)))) (aI ((aI rfl (Or.inl rfl))) trivial)))))) (by show b.ops.length - (i + 1) < b.ops.length - i; omega)
  · have hli : i = b.ops.length := by simp at hc; omega
    conv => whnf
    refine atq_out (atq_exit (atq_on ?_))
    refine satq_vc ?_
    conv => whnf
    refine atq_ret ?_
    conv => whnf
    refine fin_rows3 1 2 3 ⟨b.at_, b.pages, l⟩ (by omega) (by omega) (by omega) (.inl ⟨rfl, rfl⟩) (.inl ⟨rfl, rfl⟩) (.inl ⟨rfl, by rw [hll]; rfl⟩) fun w' v1 v2 v3 h3 hB => ⟨_, v1, v2, v3, ok, rfl, h3, hB⟩
end Go.Proofs.Ytmjfgnnefcimiaa
namespace Go.Proofs.Ytmjfgnnefcimiaa
open Go.RowKit

def MemP.put (M : MemP) (y v : Int) : MemP := { M with data := M.data.set y.toNat v }
def MemP.store (a : Int) : Nat → Nat → Int → MemP → MemP
  | _, 0, _, M => M
  | i, k + 1, x, M => MemP.store a (i + 1) k (x / 256) (M.put ((a + i) % 4294967296) (x % 256))
def MemP.storeM (M : MemP) (a : Int) (m : Nat) (x : Int) : MemP := match M.bad a 2 0 m with | none => MemP.store a 0 m x M | some _ => M
end Go.Proofs.Ytmjfgnnefcimiaa
