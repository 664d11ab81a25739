/- Walks: the maker of blocks: Made of layer 12. Walks: Opt. Walks: the maker of blocks: Made of layer 15. Walks: sanity: the pieces. -/
import Derived.Test.YtmjfgnnefcimiaaK1
import Derived.Test.YtmjfgnnefcimiaaK12
import Derived.Test.YtmjfgnnefcimiaaK13
import Derived.Test.YtmjfgnnefcimiaaK14
import Derived.Test.YtmjfgnnefcimiaaK15
import Derived.Test.YtmjfgnnefcimiaaK16
import Derived.Test.YtmjfgnnefcimiaaK17
import Derived.Test.YtmjfgnnefcimiaaK18
import Derived.Test.YtmjfgnnefcimiaaK19
import Derived.Test.YtmjfgnnefcimiaaK2
import Derived.Test.YtmjfgnnefcimiaaK20
import Derived.Test.YtmjfgnnefcimiaaK21
import Derived.Test.YtmjfgnnefcimiaaK22
import Derived.Test.YtmjfgnnefcimiaaK23
import Derived.Test.YtmjfgnnefcimiaaK24
import Derived.Test.YtmjfgnnefcimiaaK26
import Derived.Test.YtmjfgnnefcimiaaK27
import Derived.Test.YtmjfgnnefcimiaaK3
import Derived.Test.YtmjfgnnefcimiaaK5
import Derived.Test.YtmjfgnnefcimiaaK6
namespace Go.Proofs.Ytmjfgnnefcimiaa
open Go.RowKit

theorem call_instr {w0 : World} {G : Gs} {S : List Ow} {K : AV → List Ow → Prop} (i : Nat) {A : Option Addr} {m c : Nat} {xs : List Int} {k : Int} (hi : S[i]? = some (.cells 124 ((mkC A m c k).map .v))) (hs : SlOld w0 G A (xs.map (.int .i64))) (hl : xs.length = m) (hm : m ≤ 1000000) (hk : 0 ≤ k ∧ k < 900000)
    (hK : ∀ (l : List BOp) (W : Nat) (ch : Bool) (k' : Int), BodyOk l W ch → l.length ≤ 10 → 0 ≤ k' → k' ≤ k + 200 → K (.p (.c (.row S.length))) (S.set i (.cells 124 ((mkC A m c k').map .v)) ++ [.row 53 5 l.length (l.flatMap opC)])) : CallS Try.prog w0 G 93 [.p (.c (.ref i 0))] S K := by
  refine call_own_row 53 5 (fun n ys us' => ∃ (l : List BOp) (W : Nat) (ch : Bool) (k' : Int), BodyOk l W ch ∧ n = l.length ∧ ys = l.flatMap opC ∧ l.length ≤ 10 ∧ us' = mkC A m c k' ∧ 0 ≤ k' ∧ k' ≤ k + 200) i hi (xs := []) rfl (by kernel_rfl) (fun w g ho hg => instruction_walk A m c xs k g w (ho A _ hs) hl hm hk hg) ?_
  rintro n ys us' ⟨l, W, ch, k', hb, rfl, rfl, hll, rfl, h0, h1⟩
  exact hK l W ch k' hb hll h0 h1
theorem ops_one (l : List BOp) : ∀ u ∈ l.flatMap opC, u.oneCell' = true := fun u hu => by
  obtain ⟨o, _, ho⟩ := List.mem_flatMap.1 hu
  exact opC_one u ho
/-- The instructions under way. -/
structure MadeSt (n : Int) (k0 : Int) where
  i : Nat
  ats : List Int
  ops : List BOp
  W : Nat
  ch : Bool
  k : Int
  hi : (i : Int) ≤ n
  hats : ∀ x ∈ ats, word x
  hatl : ats.length = i
  pre : PreOk ops i W ch
  hlen : ops.length ≤ 11 * i
  hk : 0 ≤ k ∧ k ≤ k0 + 210 * i
set_option maxRecDepth 100000 in
theorem made12_walk (A : Option Addr) (m c : Nat) (xs : List Int) (w : World) (hs : SlAt w w.heap.size A (xs.map (.int .i64))) (hl : xs.length = m) (hm : m ≤ 1000000) :
    Calls Try.prog 68 #[.slice A m c] w fun e w' => ∃ b v1 v2 v3, MadeOk b ∧ e = .returned (.agg #[v1, v2, v3]) ∧ Rows3 w.heap.size w' v1 v2 v3 b ∧ Below w.heap.size w w' := by
  have hs0 : SlOld w Gs.nil A (xs.map (.int .i64)) := fun j u hj => by
    obtain ⟨b, off, e1, e2, e3⟩ := hs j u hj
    exact ⟨b, off, e1, e2, by simp, e3⟩
  refine calls_satq [.slice A m c] Try.func68 Try.ntmps68 rfl (by simp) ?_
  refine satq_seq ?_
  conv => whnf
  refine satq_seq ?_
  conv => whnf
  refine satq_seq ?_
  conv => whnf
  refine call_take 1 rfl hs0 hl hm (by omega) (by omega) fun z z0 z1 => ?_
  conv => whnf
  refine ⟨1 + z, wr64 (by omega), ?_⟩
  conv => whnf
  refine satq_seq ?_
  conv => whnf
  refine call_take 1 rfl hs0 hl hm (by omega) (by omega) fun y y0 y1 => ?_
  conv => whnf
  refine ⟨y, by rw [wr32]; omega, ?_⟩
  conv => whnf
  refine ⟨y * 8, by rw [wr32]; omega, ?_⟩
  conv => whnf
  refine satq_seq ?_
  conv => whnf
  refine ⟨by omega, y * 8 / 256, by rw [Int.tdiv_eq_ediv_of_nonneg (by omega), wr32]; omega, ?_⟩
  conv => whnf
  refine ⟨y * 8 / 256, wr64 (by omega), ?_⟩
  conv => whnf
  obtain ⟨n, hn, hn0, hn1⟩ : ∃ n, n = 1 + z ∧ 1 ≤ n ∧ n ≤ 12 := ⟨_, rfl, by omega, by omega⟩
  rw [← hn]
  obtain ⟨at0, hat, hat0, hat1⟩ : ∃ a, a = y * 8 ∧ 0 ≤ a ∧ a < 4096 := ⟨_, rfl, by omega, by omega⟩
  rw [← hat]
  obtain ⟨p, hp, hp0, hp1⟩ : ∃ p, p = at0 / 256 ∧ 0 ≤ p ∧ p < 4096 := ⟨_, rfl, by omega, by omega⟩
  rw [← hp]
  clear hn hat hp
  refine satq_in ?_
  refine satq_seq ?_
  conv => whnf
  refine satq_block ?_
  refine satq_loop (α := MadeSt n 2) (fun x => [(2, .p (.c (.ref 0 0))), (3, .p (.c (.ref 1 0))), (4, one (.int .i64 n)), (5, one (.int .u32 at0)), (6, .p (.c (.ref 3 0))), (7, one (.int .i64 (x.i : Int)))])
    (fun x => [.cells 32 [.v (.slice none 0 0), .v (.slice none 0 0), .v (.slice none 0 0)], .cells 124 ((mkC A m c x.k).map .v), .cells 3 [.v (.int .i64 p)], .cells 32 [.row 4, .sl 2 0 1 1, .row 5], .row 24 1 x.ats.length (x.ats.map (.int .u32)), .row 53 5 x.ops.length (x.ops.flatMap opC)])
    (fun x => (n - x.i).toNat) ⟨0, [], [], 0, false, 2, by omega, nofun, rfl, PreOk.nil, by simp, by omega⟩
    (ent_trans (ent_cellrow 3 0 24 1 rfl rfl (f' := [(2, .p (.c (.ref 0 0))), (3, .p (.c (.ref 1 0))), (4, one (.int .i64 n)), (5, one (.int .u32 at0)), (6, .p (.c (.ref 3 0))), (7, one (.int .i64 0))]) (aI rfl (aI rfl (aI rfl (aI rfl (aI rfl (aI rfl trivial))))))) (ent_trans (ent_cellrow 3 2 53 5 rfl rfl (f' := [(2, .p (.c (.ref 0 0))), (3, .p (.c (.ref 1 0))), (4, one (.int .i64 n)), (5, one (.int .u32 at0)), (6, .p (.c (.ref 3 0))), (7, one (.int .i64 0))]) (aI rfl (aI rfl (aI rfl (aI rfl (aI rfl (aI rfl trivial))))))) (ent_same rfl (aI rfl (aI rfl (aI rfl (aI rfl (aI rfl (aI rfl trivial)))))) (aI ((aI rfl (Or.inl rfl))) (aI ((aI rfl (Or.inl rfl))) (aI ((aI rfl (Or.inl rfl))) (aI ((aI rfl (Or.inl rfl))) (aI ((aI rfl (aI rfl (aI rfl rfl)))) (aI ((aI rfl (aI rfl (aI rfl rfl)))) trivial))))))))) fun x => ?_
  obtain ⟨i, ats, ops, W, ch, k, hi, hats, hatl, pre, hlen, hk⟩ := x
  dsimp only
  refine satq_seq ?_
  conv => whnf
  refine ⟨fun hc => ?_, fun hc => ?_⟩
  · have hlt : (i : Int) < n := by simpa using hc
    conv => whnf
    refine satq_mid (α := { y : MadeSt n 2 // y.i = i + 1 }) (fun y => [(2, .p (.c (.ref 0 0))), (3, .p (.c (.ref 1 0))), (4, one (.int .i64 n)), (5, one (.int .u32 at0)), (6, .p (.c (.ref 3 0))), (7, one (.int .i64 (i : Int)))])
      (fun y => [.cells 32 [.v (.slice none 0 0), .v (.slice none 0 0), .v (.slice none 0 0)], .cells 124 ((mkC A m c y.1.k).map .v), .cells 3 [.v (.int .i64 p)], .cells 32 [.row 4, .sl 2 0 1 1, .row 5], .row 24 1 y.1.ats.length (y.1.ats.map (.int .u32)), .row 53 5 y.1.ops.length (y.1.ops.flatMap opC)]) ?_ fun y => ?_
    · refine satq_block ?_
      refine satq_seq ?_
      conv => whnf
      refine ⟨_, wr64 (by omega), ?_⟩
      conv => whnf
      refine ⟨_, wr32 _, ?_⟩
      conv => whnf
      refine ⟨_, wr32 _, ?_⟩
      conv => whnf
      refine appK_sound rfl ?_ rfl
      conv => whnf
      refine ⟨by omega, ?_⟩
      conv => whnf
      refine satq_seq ?_
      conv => whnf
      refine ⟨(i : Int), by rw [wr32]; omega, ?_⟩
      conv => whnf
      refine appK_sound rfl ?_ rfl
      conv => whnf
      refine ⟨by omega, ?_⟩
      conv => whnf
      obtain ⟨ats2, hats2⟩ : ∃ l, l = ats ++ [(at0 + 4 * (i : Int) % 4294967296) % 4294967296] := ⟨_, rfl⟩
      have hatsw : ∀ x ∈ ats2, word x := by
        intro x hx
        rw [hats2] at hx
        rcases List.mem_append.1 hx with hx | hx
        · exact hats x hx
        · simp at hx; subst hx; exact word_mod _
      have hatsl : ats2.length = i + 1 := by rw [hats2]; simp [hatl]
      have pre2 := pre.mark (by omega)
      refine satq_mid (α := { y : Int × Bool // k ≤ y.1 ∧ y.1 ≤ k + 1 }) (fun y => [(2, .p (.c (.ref 0 0))), (3, .p (.c (.ref 1 0))), (4, one (.int .i64 n)), (5, one (.int .u32 at0)), (6, .p (.c (.ref 3 0))), (7, one (.int .i64 (i : Int))), (55, one (.bool y.1.2))])
        (fun y => [.cells 32 [.v (.slice none 0 0), .v (.slice none 0 0), .v (.slice none 0 0)], .cells 124 ((mkC A m c y.1.1).map .v), .cells 3 [.v (.int .i64 p)], .cells 32 [.row 4, .sl 2 0 1 1, .row 5], .row 24 1 ats2.length (ats2.map (.int .u32)), .row 53 5 (ops ++ [(⟨20, 0, 0, 0, (i : Int)⟩ : BOp)]).length ((ops ++ [(⟨20, 0, 0, 0, (i : Int)⟩ : BOp)]).flatMap opC)]) ?_ fun y => ?_
      · refine satq_region ?_
        conv => whnf
        refine ⟨_, wr64 (by omega), ?_⟩
        conv => whnf
        by_cases hlast : (i : Int) < n - 1
        · rw [decide_eq_true hlast]
          conv => whnf
          exact atq_mid ⟨(k, true), by dsimp only; omega⟩ (ent_drop (aI rfl (aI rfl (aI rfl (aI rfl (aI rfl (aI rfl (aI rfl trivial))))))) (aI ((aI rfl (Or.inl rfl))) (aI ((aI rfl (Or.inl rfl))) (aI ((aI rfl (Or.inl rfl))) (aI ((aI rfl (Or.inl rfl))) (aI ((aI rfl (aI rfl (aI (by rw [hats2]; simp) (by rw [hats2]; simp))))) (aI ((aI rfl (aI rfl (aI (by simp) (by simp [opC]))))) trivial)))))) rfl rfl)
        · rw [decide_eq_false hlast]
          conv => whnf
          refine call_take 1 rfl hs0 hl hm (by omega) (by omega) fun q q0 q1 => ?_
          conv => whnf
          exact atq_mid ⟨(k + 1, decide (q > 0)), by dsimp only; omega⟩ (ent_drop (aI rfl (aI rfl (aI rfl (aI rfl (aI rfl (aI rfl (aI rfl trivial))))))) (aI ((aI rfl (Or.inl rfl))) (aI ((aI rfl (Or.inl rfl))) (aI ((aI rfl (Or.inl rfl))) (aI ((aI rfl (Or.inl rfl))) (aI ((aI rfl (aI rfl (aI (by rw [hats2]; simp) (by rw [hats2]; simp))))) (aI ((aI rfl (aI rfl (aI (by simp) (by simp [opC]))))) trivial)))))) rfl rfl)
      obtain ⟨⟨k2, bd⟩, hk2⟩ := y
      dsimp only at hk2 ⊢
      refine satq_vc ?_
      conv => whnf
      refine ⟨fun _ => ?_, fun _ => ?_⟩
      · conv => whnf
        refine sat_any (.q 0 (.q 2 (.alt 1 (.alt 3 (.alt 4 (.q 5 (.alt 6 .done .no)) .no) .no) (.alt 3 (.alt 1 (.alt 4 (.q 5 (.alt 6 .done .no)) .no) .no) .no)))) mixed (by kernel_rfl) (by kernel_rfl) ?_
        conv => whnf
        refine ⟨?_, ?_, trivial⟩
        · conv => whnf
          refine ⟨?_, trivial⟩
          conv => whnf
          refine call_instr 1 rfl hs0 hl hm (by omega) fun l W' ch' k' hb hll h0 h1 => ?_
          conv => whnf
          refine ⟨?_, trivial⟩
          conv => whnf
          refine appK_sound rfl ?_ rfl
          conv => whnf
          refine ⟨rfl, ops_one l, ?_⟩
          conv => whnf
          refine ⟨by simp; omega, ?_⟩
          conv => whnf
          refine ⟨?_, trivial⟩
          conv => whnf
          refine atq_block ?_
          exact atq_mid ⟨⟨i + 1, ats2, (ops ++ [(⟨20, 0, 0, 0, (i : Int)⟩ : BOp)]) ++ l, W', ch', k', by omega, hatsw, hatsl, pre2.body hb (by omega), by simp; omega, by omega⟩, rfl⟩ (ent_drop (aI rfl (aI rfl (aI rfl (aI rfl (aI rfl (aI rfl trivial)))))) (aI ((aI rfl (Or.inl rfl))) (aI ((aI rfl (Or.inl rfl))) (aI ((aI rfl (Or.inl rfl))) (aI ((aI rfl (Or.inl rfl))) (aI ((aI rfl (aI rfl (aI rfl rfl)))) (aI ((aI rfl (aI rfl (aI (by simp; omega) (by simp [opC]))))) trivial)))))) rfl rfl)
        · conv => whnf
          refine call_instr 1 rfl hs0 hl hm (by omega) fun l W' ch' k' hb hll h0 h1 => ?_
          conv => whnf
          refine ⟨?_, trivial⟩
          conv => whnf
          refine ⟨?_, trivial⟩
          conv => whnf
          refine appK_sound rfl ?_ rfl
          conv => whnf
          refine ⟨rfl, ops_one l, ?_⟩
          conv => whnf
          refine ⟨by simp; omega, ?_⟩
          conv => whnf
          refine ⟨?_, trivial⟩
          conv => whnf
          refine atq_block ?_
          exact atq_mid ⟨⟨i + 1, ats2, (ops ++ [(⟨20, 0, 0, 0, (i : Int)⟩ : BOp)]) ++ l, W', ch', k', by omega, hatsw, hatsl, pre2.body hb (by omega), by simp; omega, by omega⟩, rfl⟩ (ent_drop (aI rfl (aI rfl (aI rfl (aI rfl (aI rfl (aI rfl trivial)))))) (aI ((aI rfl (Or.inl rfl))) (aI ((aI rfl (Or.inl rfl))) (aI ((aI rfl (Or.inl rfl))) (aI ((aI rfl (Or.inl rfl))) (aI ((aI rfl (aI rfl (aI rfl rfl)))) (aI ((aI rfl (aI rfl (aI (by simp; omega) (by simp [opC]))))) trivial)))))) rfl rfl)
      · conv => whnf
        refine atq_block ?_
        exact atq_mid ⟨⟨i + 1, ats2, _, 0, false, k2, by omega, hatsw, hatsl, pre2, by simp; omega, by omega⟩, rfl⟩ (ent_same rfl (aI rfl (aI rfl (aI rfl (aI rfl (aI rfl (aI rfl trivial)))))) (aI ((aI rfl (Or.inl rfl))) (aI ((aI rfl (Or.inl rfl))) (aI ((aI rfl (Or.inl rfl))) (aI ((aI rfl (Or.inl rfl))) (aI ((aI rfl (aI rfl (aI rfl rfl)))) (aI ((aI rfl (aI rfl (aI rfl rfl)))) trivial)))))))
    obtain ⟨y, hy⟩ := y
    dsimp only
    refine satq_vc ?_
    conv => whnf
    refine ⟨_, wr64 (by omega), ?_⟩
    conv => whnf
    exact atq_next y (ent_same rfl (aI rfl (aI rfl (aI rfl (aI rfl (aI rfl (aI ((by show one _ = one _; rw [hy]; rfl)) trivial)))))) (aI ((aI rfl (Or.inl rfl))) (aI ((aI rfl (Or.inl rfl))) (aI ((aI rfl (Or.inl rfl))) (aI ((aI rfl (Or.inl rfl))) (aI ((aI rfl (aI rfl (aI rfl rfl)))) (aI ((aI rfl (aI rfl (aI rfl rfl)))) trivial))))))) (by rw [hy]; omega)
  · have hlt : (i : Int) = n := by simp at hc; omega
    conv => whnf
    refine atq_out (atq_exit (atq_on ?_))
    refine satq_seq ?_
    conv => whnf
    refine call_take 1 rfl hs0 hl hm (by omega) (by omega) fun q q0 q1 => ?_
    conv => whnf
    refine ⟨q, by rw [wr32]; omega, ?_⟩
    conv => whnf
    refine ⟨q * 4, by rw [wr32]; omega, ?_⟩
    conv => whnf
    have hnx : word (q * 4) := by unfold word; omega
    refine satq_mid (α := { y : List Int × List BOp // MadeOk ⟨y.1, [p], y.2⟩ }) (fun y => [(2, .p (.c (.ref 0 0))), (6, .p (.c (.ref 3 0)))])
      (fun y => [.cells 32 [.v (.slice none 0 0), .v (.slice none 0 0), .v (.slice none 0 0)], .gone, .cells 3 [.v (.int .i64 p)], .cells 32 [.row 4, .sl 2 0 1 1, .row 5], .row 24 1 y.1.1.length (y.1.1.map (.int .u32)), .row 53 5 y.1.2.length (y.1.2.flatMap opC)]) ?_ fun y => ?_
    · refine satq_seq ?_
      conv => whnf
      refine call_take 1 rfl hs0 hl hm (by omega) (by omega) fun s s0 s1 => ?_
      conv => whnf
      refine satq_block ?_
      refine satq_seq ?_
      conv => whnf
      refine satq_cond rfl (fun _ => ?_) (fun _ => ?_)
      · refine satq_vc ?_
        conv => whnf
        refine ⟨(i : Int), by rw [wr32]; omega, ?_⟩
        conv => whnf
        refine appK_sound rfl ?_ rfl
        conv => whnf
        refine ⟨by omega, ?_⟩
        conv => whnf
        refine ⟨_, wr64 (by omega), ?_⟩
        conv => whnf
        refine ⟨_, wr32 _, ?_⟩
        conv => whnf
        refine ⟨_, wr32 _, ?_⟩
        conv => whnf
        refine appK_sound rfl ?_ rfl
        conv => whnf
        refine ⟨by omega, ?_⟩
        conv => whnf
        refine atq_block ?_
        exact atq_mid ⟨(ats ++ [(at0 + 4 * n % 4294967296) % 4294967296], (ops ++ [(⟨20, 0, 0, 0, (i : Int)⟩ : BOp)]) ++ [⟨22, 0, 0, 0, 0⟩]), made_ok (pre.mark (by omega)) tail_slow (by omega) (fun x hx => by
          rcases List.mem_append.1 hx with hx | hx
          · exact hats x hx
          · simp at hx; subst hx; exact word_mod _) (by simp [hatl]) (by omega) ⟨hp0, hp1⟩ (by simp; omega)⟩ (ent_drop (aI rfl (aI rfl trivial)) (aI ((aI rfl (Or.inl rfl))) (aI ((by trivial)) (aI ((aI rfl (Or.inl rfl))) (aI ((aI rfl (Or.inl rfl))) (aI ((aI rfl (aI rfl (aI (by simp) (by simp))))) (aI ((aI rfl (aI rfl (aI (by simp) (by simp [opC, hlt]))))) trivial)))))) rfl rfl)
      · refine satq_seq ?_
        conv => whnf
        refine satq_cond rfl (fun _ => ?_) (fun _ => ?_)
        · refine satq_vc ?_
          refine sat_any (.q 0 (.q 2 (.alt 1 (.alt 3 (.q 4 (.alt 5 (.alt 6 (.q 7 (.alt 8 .done .no)) .no) .no)) .no) (.alt 3 (.q 4 (.alt 1 (.alt 5 (.alt 6 (.q 7 (.alt 8 .done .no)) .no) .no) (.alt 5 (.alt 1 (.alt 6 (.q 7 (.alt 8 .done .no)) .no) .no) .no))) .no)))) mixed (by kernel_rfl) (by kernel_rfl) ?_
          conv => whnf
          refine ⟨?_, ?_, trivial⟩
          · conv => whnf
            refine ⟨?_, trivial⟩
            conv => whnf
            refine call_take 1 rfl hs0 hl hm (by omega) (by omega) fun a a0 a1 => ?_
            conv => whnf
            refine ⟨?_, trivial⟩
            conv => whnf
            refine ⟨?_, trivial⟩
            conv => whnf
            refine appK_sound rfl ?_ rfl
            conv => whnf
            refine ⟨by omega, ?_⟩
            conv => whnf
            refine ⟨?_, trivial⟩
            conv => whnf
            refine atq_block ?_
            exact atq_mid ⟨(ats, ops ++ [⟨25, 0, a, 0, 0⟩]), made_ok pre (tail_var ⟨a0, a1⟩ ch) (by omega) hats hatl (by omega) ⟨hp0, hp1⟩ (by simp; omega)⟩ (ent_drop (aI rfl (aI rfl trivial)) (aI ((aI rfl (Or.inl rfl))) (aI ((by trivial)) (aI ((aI rfl (Or.inl rfl))) (aI ((aI rfl (Or.inl rfl))) (aI ((aI rfl (aI rfl (aI rfl rfl)))) (aI ((aI rfl (aI rfl (aI (by simp) (by simp [opC]))))) trivial)))))) rfl rfl)
          · conv => whnf
            refine call_take 1 rfl hs0 hl hm (by omega) (by omega) fun a a0 a1 => ?_
            conv => whnf
            refine ⟨?_, ?_, trivial⟩
            · conv => whnf
              refine ⟨?_, trivial⟩
              conv => whnf
              refine ⟨?_, trivial⟩
              conv => whnf
              refine appK_sound rfl ?_ rfl
              conv => whnf
              refine ⟨by omega, ?_⟩
              conv => whnf
              refine ⟨?_, trivial⟩
              conv => whnf
              refine atq_block ?_
              exact atq_mid ⟨(ats, ops ++ [⟨25, 0, a, 0, 0⟩]), made_ok pre (tail_var ⟨a0, a1⟩ ch) (by omega) hats hatl (by omega) ⟨hp0, hp1⟩ (by simp; omega)⟩ (ent_drop (aI rfl (aI rfl trivial)) (aI ((aI rfl (Or.inl rfl))) (aI ((by trivial)) (aI ((aI rfl (Or.inl rfl))) (aI ((aI rfl (Or.inl rfl))) (aI ((aI rfl (aI rfl (aI rfl rfl)))) (aI ((aI rfl (aI rfl (aI (by simp) (by simp [opC]))))) trivial)))))) rfl rfl)
            · conv => whnf
              refine ⟨?_, trivial⟩
              conv => whnf
              refine ⟨?_, trivial⟩
              conv => whnf
              refine appK_sound rfl ?_ rfl
              conv => whnf
              refine ⟨by omega, ?_⟩
              conv => whnf
              refine ⟨?_, trivial⟩
              conv => whnf
              refine atq_block ?_
              exact atq_mid ⟨(ats, ops ++ [⟨25, 0, a, 0, 0⟩]), made_ok pre (tail_var ⟨a0, a1⟩ ch) (by omega) hats hatl (by omega) ⟨hp0, hp1⟩ (by simp; omega)⟩ (ent_drop (aI rfl (aI rfl trivial)) (aI ((aI rfl (Or.inl rfl))) (aI ((by trivial)) (aI ((aI rfl (Or.inl rfl))) (aI ((aI rfl (Or.inl rfl))) (aI ((aI rfl (aI rfl (aI rfl rfl)))) (aI ((aI rfl (aI rfl (aI (by simp) (by simp [opC]))))) trivial)))))) rfl rfl)
        · refine satq_mid (α := Bool) (fun y => [(2, .p (.c (.ref 0 0))), (3, .p (.c (.ref 1 0))), (4, one (.int .i64 n)), (5, one (.int .u32 at0)), (6, .p (.c (.ref 3 0))), (8, one (.int .u32 (q * 4))), (106, one (.bool y))]) (fun y => [.cells 32 [.v (.slice none 0 0), .v (.slice none 0 0), .v (.slice none 0 0)], .cells 124 ((mkC A m c (k + 1 + 1)).map .v), .cells 3 [.v (.int .i64 p)], .cells 32 [.row 4, .sl 2 0 1 1, .row 5], .row 24 1 ats.length (ats.map (.int .u32)), .row 53 5 ops.length (ops.flatMap opC)]) ?_ fun y => ?_
          · refine satq_seq ?_
            conv => whnf
            refine satq_cond rfl (fun h => ?_) (fun h => ?_)
            · refine satq_skip ?_
              exact atq_mid true (ent_same rfl (aI rfl (aI rfl (aI rfl (aI rfl (aI rfl (aI rfl (aI ((by show one _ = one _; rw [h])) trivial))))))) (aI ((aI rfl (Or.inl rfl))) (aI ((aI rfl (Or.inl rfl))) (aI ((aI rfl (Or.inl rfl))) (aI ((aI rfl (Or.inl rfl))) (aI ((aI rfl (aI rfl (aI rfl rfl)))) (aI ((aI rfl (aI rfl (aI rfl rfl)))) trivial)))))))
            · refine satq_vc ?_
              conv => whnf
              exact atq_mid (s == 3) (ent_same rfl (aI rfl (aI rfl (aI rfl (aI rfl (aI rfl (aI rfl (aI rfl trivial))))))) (aI ((aI rfl (Or.inl rfl))) (aI ((aI rfl (Or.inl rfl))) (aI ((aI rfl (Or.inl rfl))) (aI ((aI rfl (Or.inl rfl))) (aI ((aI rfl (aI rfl (aI rfl rfl)))) (aI ((aI rfl (aI rfl (aI rfl rfl)))) trivial)))))))
          refine satq_cond rfl (fun _ => ?_) (fun _ => ?_)
          · refine satq_vc ?_
            refine sat_any (.q 0 (.q 2 (.q 4 (.q 6 (.q 7 (.q 8 (.q 9 (.q 10 (.q 11 (.alt 1 (.alt 3 (.q 5 (.alt 12 (.alt 13 (.q 14 (.alt 15 .done .no)) .no) .no)) .no) (.alt 3 (.q 5 (.alt 1 (.alt 12 (.alt 13 (.q 14 (.alt 15 .done .no)) .no) .no) (.alt 12 (.alt 1 (.alt 13 (.q 14 (.alt 15 .done .no)) .no) .no) .no))) .no))))))))))) mixed (by kernel_rfl) (by kernel_rfl) ?_
            conv => whnf
            refine ⟨_, wr64 (by omega), ?_⟩
            conv => whnf
            refine ⟨_, wr32 _, ?_⟩
            conv => whnf
            refine ⟨_, wr32 _, ?_⟩
            conv => whnf
            refine ⟨?_, ?_, trivial⟩
            · conv => whnf
              refine ⟨?_, trivial⟩
              conv => whnf
              refine call_take 1 rfl hs0 hl hm (by omega) (by omega) fun a a0 a1 => ?_
              conv => whnf
              refine ⟨?_, trivial⟩
              conv => whnf
              refine ⟨?_, trivial⟩
              conv => whnf
              refine appK_sound rfl ?_ rfl
              conv => whnf
              refine ⟨by omega, ?_⟩
              conv => whnf
              refine ⟨?_, trivial⟩
              conv => whnf
              refine atq_block ?_
              exact atq_mid ⟨(ats, ops ++ [⟨23, 0, a, 0, q * 4⟩, ⟨24, 0, 0, 0, (at0 + 4 * n % 4294967296) % 4294967296⟩]), made_ok pre (tail_if ⟨a0, a1⟩ hnx (word_mod _) ch) (by omega) hats hatl (by omega) ⟨hp0, hp1⟩ (by simp; omega)⟩ (ent_drop (aI rfl (aI rfl trivial)) (aI ((aI rfl (Or.inl rfl))) (aI ((by trivial)) (aI ((aI rfl (Or.inl rfl))) (aI ((aI rfl (Or.inl rfl))) (aI ((aI rfl (aI rfl (aI rfl rfl)))) (aI ((aI rfl (aI rfl (aI (by simp) (by simp [opC]))))) trivial)))))) rfl rfl)
            · conv => whnf
              refine call_take 1 rfl hs0 hl hm (by omega) (by omega) fun a a0 a1 => ?_
              conv => whnf
              refine ⟨?_, ?_, trivial⟩
              · conv => whnf
                refine ⟨?_, trivial⟩
                conv => whnf
                refine ⟨?_, trivial⟩
                conv => whnf
                refine appK_sound rfl ?_ rfl
                conv => whnf
                refine ⟨by omega, ?_⟩
                conv => whnf
                refine ⟨?_, trivial⟩
                conv => whnf
                refine atq_block ?_
                exact atq_mid ⟨(ats, ops ++ [⟨23, 0, a, 0, q * 4⟩, ⟨24, 0, 0, 0, (at0 + 4 * n % 4294967296) % 4294967296⟩]), made_ok pre (tail_if ⟨a0, a1⟩ hnx (word_mod _) ch) (by omega) hats hatl (by omega) ⟨hp0, hp1⟩ (by simp; omega)⟩ (ent_drop (aI rfl (aI rfl trivial)) (aI ((aI rfl (Or.inl rfl))) (aI ((by trivial)) (aI ((aI rfl (Or.inl rfl))) (aI ((aI rfl (Or.inl rfl))) (aI ((aI rfl (aI rfl (aI rfl rfl)))) (aI ((aI rfl (aI rfl (aI (by simp) (by simp [opC]))))) trivial)))))) rfl rfl)
              · conv => whnf
                refine ⟨?_, trivial⟩
                conv => whnf
                refine ⟨?_, trivial⟩
                conv => whnf
                refine appK_sound rfl ?_ rfl
                conv => whnf
                refine ⟨by omega, ?_⟩
                conv => whnf
                refine ⟨?_, trivial⟩
                conv => whnf
                refine atq_block ?_
                exact atq_mid ⟨(ats, ops ++ [⟨23, 0, a, 0, q * 4⟩, ⟨24, 0, 0, 0, (at0 + 4 * n % 4294967296) % 4294967296⟩]), made_ok pre (tail_if ⟨a0, a1⟩ hnx (word_mod _) ch) (by omega) hats hatl (by omega) ⟨hp0, hp1⟩ (by simp; omega)⟩ (ent_drop (aI rfl (aI rfl trivial)) (aI ((aI rfl (Or.inl rfl))) (aI ((by trivial)) (aI ((aI rfl (Or.inl rfl))) (aI ((aI rfl (Or.inl rfl))) (aI ((aI rfl (aI rfl (aI rfl rfl)))) (aI ((aI rfl (aI rfl (aI (by simp) (by simp [opC]))))) trivial)))))) rfl rfl)
          · refine satq_vc ?_
            conv => whnf
            refine appK_sound rfl ?_ rfl
            conv => whnf
            refine ⟨by omega, ?_⟩
            conv => whnf
            refine atq_block ?_
            exact atq_mid ⟨(ats, ops ++ [⟨24, 0, 0, 0, q * 4⟩]), made_ok pre (tail_exit hnx ch) (by omega) hats hatl (by omega) ⟨hp0, hp1⟩ (by simp; omega)⟩ (ent_drop (aI rfl (aI rfl trivial)) (aI ((aI rfl (Or.inl rfl))) (aI ((by trivial)) (aI ((aI rfl (Or.inl rfl))) (aI ((aI rfl (Or.inl rfl))) (aI ((aI rfl (aI rfl (aI rfl rfl)))) (aI ((aI rfl (aI rfl (aI (by simp) (by simp [opC]))))) trivial)))))) rfl rfl)
    obtain ⟨⟨ats2, ops2⟩, hy⟩ := y
    dsimp only at hy ⊢
    refine satq_vc ?_
    conv => whnf
    refine atq_ret ?_
    conv => whnf
    refine fin_rows3 4 2 5 ⟨ats2, [p], ops2⟩ (by omega) (by omega) (by omega) (.inl ⟨rfl, rfl⟩) (.inr ⟨rfl, rfl, rfl, by show (1 : Nat) ≤ maxLen; decide⟩) (.inl ⟨rfl, rfl⟩) fun w' v1 v2 v3 h3 hB => ⟨_, v1, v2, v3, hy, rfl, h3, hB⟩
end Go.Proofs.Ytmjfgnnefcimiaa
namespace Go.Proofs.Ytmjfgnnefcimiaa
open Go.RowKit

theorem call_repeat {mu : Blk → Nat} (hmu : ∀ b, b.ok → (onceP b).ops ≠ b.ops → mu (onceP b) < mu b) {w0 : World} {S : List Ow} {K : AV → List Ow → Prop} (i : Nat) (b : Blk) {φ : Option Addr → Prop} {A1 A2 A3 : Option Addr} {c1 c2 c3 : Nat} {t : TypeId} (hi : S[i]? = some (.cells t [.clo (.func 17) [], .clo (.func 18) [], .clo (.func 19) []])) (hb : b.ok)
    (h1 : SlAt w0 w0.heap.size A1 (b.at_.map (.int .u32))) (h2 : SlAt w0 w0.heap.size A2 (b.pages.map (.int .i64))) (h3 : OpsAt w0 w0.heap.size A3 b.ops) (hc3 : b.ops.length ≤ c3) (hm3 : c3 ≤ maxLen) (hv : validB b = true) (hφ : ∀ A, Fresh w0.heap.size A ∨ A = A3 → φ A)
    (hK : K (.p (.agg [.v (.slice A1 b.at_.length c1), .v (.slice A2 b.pages.length c2), .row S.length])) (S ++ [.view φ (optN (mu b) b).ops.length ((optN (mu b) b).ops.flatMap opC)])) :
    CallS Try.prog w0 Gs.nil 51 [.p (.agg [.v (.slice A1 b.at_.length c1), .v (.slice A2 b.pages.length c2), .v (.slice A3 b.ops.length c3)]), .p (.c (.sl i 0 3 3))] S K := by
  refine ⟨by kernel_rfl, fun r w us hR hd => ?_⟩
  obtain ⟨u1, l1, rfl, d1, u2, l2, rfl, d2, d3⟩ := hd
  obtain rfl : l2 = [] := d3
  obtain rfl := AV.val_den (x := .agg #[.slice A1 b.at_.length c1, .slice A2 b.pages.length c2, .slice A3 b.ops.length c3]) rfl d1
  simp only [AV.den, Pc.den, CV.den] at d2
  obtain ⟨bp, hbp, rfl⟩ := d2
  obtain ⟨bp', us, e1, e2, e3⟩ := hR.own i _ hi
  rw [hbp] at e1; injection e1 with e1; subst e1
  have hus : us = passV := by
    simp only [denL, CV.den] at e3
    obtain ⟨x1, y1, rfl, ⟨z1, rfl, rfl⟩, x2, y2, rfl, ⟨z2, rfl, rfl⟩, x3, y3, rfl, ⟨z3, rfl, rfl⟩, rfl⟩ := e3
    rfl
  subst hus
  have hpv : SlAt w w.heap.size (some ⟨bp, 0, none⟩) passV := fun j u hj => ⟨bp, 0, rfl, (hR.new i bp hbp).1, by simp [World.cell?, e2, hj]⟩
  refine (repeat_walk mu hmu b A1 A2 A3 c1 c2 c3 bp w hb (sl_later h1 hR.toBelow) (sl_later h2 hR.toBelow) (sl_later h3 hR.toBelow) hc3 hm3 hpv).mono fun e w' ⟨A', c', he, ho, k1, k2, k3, hB⟩ => ?_
  refine ⟨.p (.agg [.v (.slice A1 b.at_.length c1), .v (.slice A2 b.pages.length c2), .row S.length]), _, _, r.set S.length none (some (.slice A' (optN (mu b) b).ops.length c')), he, ⟨[.slice A1 b.at_.length c1, .slice A2 b.pages.length c2, .slice A' (optN (mu b) b).ops.length c'], rfl, ?_⟩,
    hR.snoc (o := .view φ (optN (mu b) b).ops.length ((optN (mu b) b).ops.flatMap opC)) hB (b := none) nofun ⟨A', c', by simp [Env.set], k1, ⟨k2, hφ _ ?_⟩, by simp [Env.set], fun j u hj => ?_⟩, hR.le_new _ _, hK⟩
  · simp only [denL, CV.den]
    exact ⟨_, _, rfl, rfl, _, _, rfl, rfl, _, _, rfl, by simp [Env.set], rfl⟩
  · rcases k3 with k3 | k3
    · exact .inl fun b off sp hA => Nat.le_trans hR.size (k3 b off sp hA)
    · exact .inr k3
  · obtain ⟨b', off, e4, e5, e6⟩ := ho j u hj
    refine ⟨b', off, e4, e5, fun q hq => ?_, e6⟩
    simp only [Env.set] at hq
    split at hq
    · cases hq
    · rcases k3 with k3 | rfl
      · have := k3 b' off none e4
        have := (hR.new q b' hq).1
        omega
      · have h5 := ops_lt (e4 ▸ h3) (valid_pos hv).1
        exact absurd ((hR.new q b' hq).2 h5) (by simp)
def optAll (mu : Blk → Nat) (b : Blk) : List BOp := if validB b then (optN (mu b) b).ops else b.ops
set_option maxRecDepth 100000 in
theorem opt_pass {mu : Blk → Nat} (hmu : ∀ b, b.ok → (onceP b).ops ≠ b.ops → mu (onceP b) < mu b) : Pass Try.prog 20 (optAll mu) := by
  intro b A1 A2 A3 c1 c2 c3 w hb h1 h2 h3 hc3 hm3
  refine calls_val [.agg #[.slice A1 b.at_.length c1, .slice A2 b.pages.length c2, .slice A3 b.ops.length c3]] Try.func20 Try.ntmps20 rfl (by simp) ?_
  conv => whnf
  refine call_con rfl (by kernel_rfl) (fun r w' hR => valid_ir A1 A2 A3 c1 c2 c3 b w' hb (sl_later h2 hR.toBelow) (sl_later h3 hR.toBelow)) ?_
  conv => whnf
  refine ⟨fun hn => ?_, fun hn => ?_⟩
  · have hv : validB b = false := by simpa using hn
    have hF : optAll mu b = b.ops := by unfold optAll; rw [hv]; rfl
    conv => whnf
    refine fin_val rfl fun w' hB => ⟨A3, c3, by rw [hF], by rw [hF]; exact sl_later h3 hB, by rw [hF]; exact hc3, hm3, .inr rfl, hB⟩
  have hv : validB b = true := by simpa using hn
  have hF : optAll mu b = (optN (mu b) b).ops := by unfold optAll; rw [hv]; rfl
  conv => whnf
  refine call_repeat hmu (φ := fun A => Fresh w.heap.size A ∨ A = A3) 2 b rfl hb h1 h2 h3 hc3 hm3 hv (fun A h => h) ?_
  conv => whnf
  refine fin_view (i := 3) (l := (optN (mu b) b).ops) rfl rfl rfl fun w' A c e1 e2 e3 e4 e5 => ?_
  rw [hF]
  exact ⟨A, c, rfl, e1, e2, e3, e4, e5⟩
end Go.Proofs.Ytmjfgnnefcimiaa
namespace Go.Proofs.Ytmjfgnnefcimiaa
open Go.RowKit

theorem cut_ops {l : List BOp} {i k n : Nat} {o : BOp} (h : l[i]? = some o) (hk : k = i * 5) (hn : n = 5) : cut (List.map CV.v (List.flatMap opC l)) k n = some ((opC o).map .v) := by
  subst hk; subst hn
  have hlt : i < l.length := by
    rcases Nat.lt_or_ge i l.length with h1 | h1
    · exact h1
    · rw [List.getElem?_eq_none h1] at h; cases h
  unfold cut
  have : Nat.ble (i * 5 + 5) (List.map CV.v (List.flatMap opC l)).length = true := Nat.ble_eq_true_of_le (by rw [List.length_map, ops_length]; omega)
  rw [this]
  show some (((List.flatMap opC l).map CV.v).drop (i * 5) |>.take 5) = _
  rw [← List.map_drop, ← List.map_take, ops_cut h]
theorem ops_setAt {l : List BOp} {i k : Nat} (o : BOp) (hk : k = i * 5) (h : i < l.length) : setAll (l.flatMap opC) k (opC o) = (l.set i o).flatMap opC := by subst hk; exact ops_set o h
/-- The replacing under way. -/
structure ReplSt (a g : List Int) (n : Nat) where
  i : Nat
  l : List BOp
  hl : l.length = n
  hi : i ≤ n
  ok : MadeOk ⟨a, g, l⟩
set_option maxRecDepth 100000 in
theorem made15_walk (A : Option Addr) (m c : Nat) (xs : List Int) (w : World) (hs : SlAt w w.heap.size A (xs.map (.int .i64))) (hl : xs.length = m) (hm : m ≤ 1000000) :
    Calls Try.prog 35 #[.slice A m c] w fun e w' => ∃ b v1 v2 v3, MadeOk b ∧ e = .returned (.agg #[v1, v2, v3]) ∧ Rows3 w.heap.size w' v1 v2 v3 b ∧ Below w.heap.size w w' := by
  refine calls_satq [.slice A m c] Try.func35 Try.ntmps35 rfl (by simp) ?_
  refine satq_seq ?_
  conv => whnf
  refine satq_seq ?_
  conv => whnf
  refine call_blk MadeOk (by kernel_rfl) (fun r w' us hR hd => ?_) fun b hb => ?_
  · obtain rfl := avals_den (xs := [.slice A m c]) rfl hd
    exact made12_walk A m c xs w' (sl_later hs hR.toBelow) hl hm
  conv => whnf
  refine satq_in ?_
  refine satq_seq ?_
  conv => whnf
  refine satq_block ?_
  refine satq_loop (α := ReplSt b.at_ b.pages b.ops.length) (fun x => [(0, one (.slice A m c)), (2, .p (.c (.ref 0 0))), (3, .p (.c (.ref 4 0))), (4, one (.int .i64 (x.i : Int)))])
    (fun x => [.cells 32 [.v (.slice none 0 0), .v (.slice none 0 0), .v (.slice none 0 0)], .row 24 1 b.at_.length (b.at_.map (.int .u32)), .row 3 1 b.pages.length (b.pages.map (.int .i64)), .row 53 5 b.ops.length (x.l.flatMap opC), .cells 32 [.row 1, .row 2, .row 3]])
    (fun x => b.ops.length - x.i) ⟨0, b.ops, rfl, by omega, hb⟩ (ent_same rfl (aI rfl (aI rfl (aI rfl (aI rfl trivial)))) (aI ((aI rfl (Or.inl rfl))) (aI ((aI rfl (aI rfl (aI rfl rfl)))) (aI ((aI rfl (aI rfl (aI rfl rfl)))) (aI ((aI rfl (aI rfl (aI rfl rfl)))) (aI ((aI rfl (Or.inl rfl))) trivial)))))) fun x => ?_
  obtain ⟨i, l, hll, hi, ok⟩ := x
  dsimp only
  refine satq_seq ?_
  conv => whnf
  refine ⟨fun hc => ?_, fun hc => ?_⟩
  · have hlt : i < b.ops.length := by simpa using hc
    obtain ⟨o, ho⟩ : ∃ o, l[i]? = some o := ⟨_, List.getElem?_eq_getElem (by omega)⟩
    conv => whnf
    refine satq_mid (α := { y : ReplSt b.at_ b.pages b.ops.length // y.i = i }) (fun y => [(0, one (.slice A m c)), (2, .p (.c (.ref 0 0))), (3, .p (.c (.ref 4 0))), (4, one (.int .i64 (i : Int)))])
      (fun y => [.cells 32 [.v (.slice none 0 0), .v (.slice none 0 0), .v (.slice none 0 0)], .row 24 1 b.at_.length (b.at_.map (.int .u32)), .row 3 1 b.pages.length (b.pages.map (.int .i64)), .row 53 5 b.ops.length (y.1.l.flatMap opC), .cells 32 [.row 1, .row 2, .row 3]]) ?_ fun y => ?_
    · refine satq_block ?_
      refine satq_seq ?_
      conv => whnf
      refine satq_mid (α := Int) (fun y => [(0, one (.slice A m c)), (2, .p (.c (.ref 0 0))), (3, .p (.c (.ref 4 0))), (4, one (.int .i64 (i : Int))), (5, one (.int .i64 y))])
        (fun y => [.cells 32 [.v (.slice none 0 0), .v (.slice none 0 0), .v (.slice none 0 0)], .row 24 1 b.at_.length (b.at_.map (.int .u32)), .row 3 1 b.pages.length (b.pages.map (.int .i64)), .row 53 5 b.ops.length (l.flatMap opC), .cells 32 [.row 1, .row 2, .row 3]]) ?_ fun n => ?_
      · refine satq_vc ?_
        conv => whnf
        refine ⟨fun ht => ?_, fun _ => ?_⟩
        · have hlt2 : (i : Int) < (m : Int) := by simpa using ht
          obtain ⟨x, hx⟩ : ∃ x, xs[m - 1 - i]? = some x := ⟨_, List.getElem?_eq_getElem (by omega)⟩
          obtain ⟨bb, off, rfl, e2, e3⟩ := hs (m - 1 - i) (.int .i64 x) (by rw [List.getElem?_map, hx]; rfl)
          conv => whnf
          refine ⟨_, wr64 (by omega), ?_⟩
          conv => whnf
          refine ⟨_, wr64 (by omega), ?_⟩
          conv => whnf
          refine ⟨⟨by omega, by omega⟩, ?_⟩
          conv => whnf
          refine ⟨.int .i64 x, cells_one e2 (by simp) (by rw [show off + ((m : Int) - 1 - (i : Int)).toNat * tsz Try.prog 3 = off + (m - 1 - i) from congrArg (off + ·) ((Nat.mul_one _).trans (by omega))]; exact e3), ?_⟩
          conv => whnf
          refine ⟨_, rfl, ?_⟩
          conv => whnf
          exact atq_mid _ (ent_same rfl (aI rfl (aI rfl (aI rfl (aI rfl (aI rfl trivial))))) (aI ((aI rfl (Or.inl rfl))) (aI ((aI rfl (aI rfl (aI rfl rfl)))) (aI ((aI rfl (aI rfl (aI rfl rfl)))) (aI ((aI rfl (aI rfl (aI rfl rfl)))) (aI ((aI rfl (Or.inl rfl))) trivial))))))
        · conv => whnf
          exact atq_mid 0 (ent_same rfl (aI rfl (aI rfl (aI rfl (aI rfl (aI rfl trivial))))) (aI ((aI rfl (Or.inl rfl))) (aI ((aI rfl (aI rfl (aI rfl rfl)))) (aI ((aI rfl (aI rfl (aI rfl rfl)))) (aI ((aI rfl (aI rfl (aI rfl rfl)))) (aI ((aI rfl (Or.inl rfl))) trivial))))))
      refine satq_seq ?_
      conv => whnf
      refine ⟨⟨by omega, by omega⟩, ?_⟩
      conv => whnf
      rw [cut_ops ho]
      rotate_left
      · show (i : Int).toNat * 5 = i * 5; rw [Int.toNat_natCast]
      · rfl
      conv => whnf
      have hof : formedB o = true := valid_formed ok.valid o (List.mem_of_getElem? ho)
      refine satq_seq ?_
      conv => whnf
      refine call_con rfl (by kernel_rfl) (fun r w' hR => pure_ref o w') ?_
      conv => whnf
      refine satq_seq ?_
      conv => whnf
      refine ⟨fun _ => ?_, fun hp => ?_⟩
      · conv => whnf
        refine atq_exit ?_
        exact atq_mid ⟨⟨i, l, hll, hi, ok⟩, rfl⟩ (ent_drop (aI rfl (aI rfl (aI rfl (aI rfl trivial)))) (aI ((aI rfl (Or.inl rfl))) (aI ((aI rfl (aI rfl (aI rfl rfl)))) (aI ((aI rfl (aI rfl (aI rfl rfl)))) (aI ((aI rfl (aI rfl (aI rfl rfl)))) (aI ((aI rfl (Or.inl rfl))) trivial))))) rfl rfl)
      have hp : pureB o = true := by simpa using hp
      conv => whnf
      refine satq_seq ?_
      conv => whnf
      refine ⟨by omega, _, rfl, ?_⟩
      conv => whnf
      refine satq_block ?_
      refine satq_seq ?_
      conv => whnf
      refine satq_cond rfl (fun _ => ?_) (fun _ => ?_)
      · refine satq_vc ?_
        conv => whnf
        refine ⟨by omega, _, rfl, ?_⟩
        conv => whnf
        refine ⟨by omega, _, rfl, ?_⟩
        conv => whnf
        refine ⟨_, wr32 _, ?_⟩
        conv => whnf
        refine ⟨⟨by omega, by omega⟩, ?_⟩
        conv => whnf
        refine ⟨?_, ?_⟩
        · show (i : Int).toNat * 5 + 5 ≤ (l.flatMap opC).length
          rw [ops_length]; omega
        conv => whnf
        refine atq_block (atq_block ?_)
        exact atq_mid ⟨⟨i, l.set i ⟨1, o.d, 0, 0, ((IntKind.i64.wrap (n.tdiv 5)).tmod 3) % 4294967296⟩, by simpa using hll, hi, made_repl ok ho hp (repl_const hof hp _) ⟨mid_small (by dsimp only; omega), (ok.ok.ops o (List.mem_of_getElem? ho)).d, mid0, mid0, word_mod _⟩⟩, rfl⟩ (ent_drop (aI rfl (aI rfl (aI rfl (aI rfl trivial)))) (aI ((aI rfl (Or.inl rfl))) (aI ((aI rfl (aI rfl (aI rfl rfl)))) (aI ((aI rfl (aI rfl (aI rfl rfl)))) (aI ((aI rfl (aI rfl (aI rfl (by exact ops_setAt (l := l) (⟨1, o.d, 0, 0, (IntKind.i64.wrap (n.tdiv 5)).tmod 3 % 4294967296⟩ : BOp) (congrArg (· * 5) (Int.toNat_natCast i)) (by omega)))))) (aI ((aI rfl (Or.inl rfl))) trivial))))) rfl rfl)
      refine satq_seq ?_
      conv => whnf
      refine satq_cond rfl (fun _ => ?_) (fun _ => ?_)
      · refine satq_seq ?_
        conv => whnf
        refine call_row rfl (by kernel_rfl) (fun r w' hR => reads_ref o w') ?_
        conv => whnf
        refine satq_vc ?_
        conv => whnf
        refine ⟨fun hn => ?_, fun _ => ?_⟩
        · have hn : 0 < (reads o).length := by simpa using hn
          obtain ⟨v, rl, hrd⟩ : ∃ v rl, reads o = v :: rl := by
            cases hr : reads o with
            | nil => rw [hr] at hn; simp at hn
            | cons v rl => exact ⟨v, rl, rfl⟩
          rw [hrd]
          conv => whnf
          refine sat_tail 10 mixed (by kernel_rfl) ?_
          conv => whnf
          refine ⟨⟨by omega, by simp⟩, ?_⟩
          conv => whnf
          refine ⟨⟨by omega, by omega⟩, ?_⟩
          conv => whnf
          refine ⟨?_, ?_⟩
          · show (i : Int).toNat * 5 + 5 ≤ (l.flatMap opC).length
            rw [ops_length]; omega
          conv => whnf
          refine atq_block (atq_block ?_)
          exact atq_mid ⟨⟨i, l.set i ⟨2, o.d, v, 0, 0⟩, by simpa using hll, hi, made_repl ok ho hp (repl_move hof hp (by rw [hrd]; simp)) ⟨mid_small (by dsimp only; omega), (ok.ok.ops o (List.mem_of_getElem? ho)).d, field_mid (reads_field hof (by rw [hrd]; simp)), mid0, word0⟩⟩, rfl⟩ (ent_drop (aI rfl (aI rfl (aI rfl (aI rfl trivial)))) (aI ((aI rfl (Or.inl rfl))) (aI ((aI rfl (aI rfl (aI rfl rfl)))) (aI ((aI rfl (aI rfl (aI rfl rfl)))) (aI ((aI rfl (aI rfl (aI rfl (by exact ops_setAt (l := l) (⟨2, o.d, v, 0, 0⟩ : BOp) (congrArg (· * 5) (Int.toNat_natCast i)) (by omega)))))) (aI ((aI rfl (Or.inl rfl))) trivial))))) rfl rfl)
        · conv => whnf
          refine atq_block (atq_block ?_)
          exact atq_mid ⟨⟨i, l, hll, hi, ok⟩, rfl⟩ (ent_drop (aI rfl (aI rfl (aI rfl (aI rfl trivial)))) (aI ((aI rfl (Or.inl rfl))) (aI ((aI rfl (aI rfl (aI rfl rfl)))) (aI ((aI rfl (aI rfl (aI rfl rfl)))) (aI ((aI rfl (aI rfl (aI rfl rfl)))) (aI ((aI rfl (Or.inl rfl))) trivial))))) rfl rfl)
      · refine satq_skip ?_
        refine atq_block (atq_block ?_)
        exact atq_mid ⟨⟨i, l, hll, hi, ok⟩, rfl⟩ (ent_drop (aI rfl (aI rfl (aI rfl (aI rfl trivial)))) (aI ((aI rfl (Or.inl rfl))) (aI ((aI rfl (aI rfl (aI rfl rfl)))) (aI ((aI rfl (aI rfl (aI rfl rfl)))) (aI ((aI rfl (aI rfl (aI rfl rfl)))) (aI ((aI rfl (Or.inl rfl))) trivial))))) rfl rfl)
    obtain ⟨y, hy⟩ := y
    dsimp only
    refine satq_vc ?_
    conv => whnf
    have hbl := hb.len
    refine ⟨_, wr64 (by omega), ?_⟩
    conv => whnf
    exact atq_next ⟨i + 1, y.l, y.hl, by omega, y.ok⟩ (ent_same rfl (aI rfl (aI rfl (aI rfl (aI rfl trivial)))) (aI ((aI rfl (Or.inl rfl))) (aI ((aI rfl (aI rfl (aI rfl rfl)))) (aI ((aI rfl (aI rfl (aI rfl rfl)))) (aI ((aI rfl (aI rfl (aI rfl rfl)))) (aI ((aI rfl (Or.inl rfl))) trivial)))))) (by show b.ops.length - (i + 1) < b.ops.length - i; omega)
  · have hli : i = b.ops.length := by simp at hc; omega
    conv => whnf
    refine atq_out (atq_exit (atq_on ?_))
    refine satq_vc ?_
    conv => whnf
    refine atq_ret ?_
    conv => whnf
    refine fin_rows3 1 2 3 ⟨b.at_, b.pages, l⟩ (by omega) (by omega) (by omega) (.inl ⟨rfl, rfl⟩) (.inl ⟨rfl, rfl⟩) (.inl ⟨rfl, by rw [hll]; rfl⟩) fun w' v1 v2 v3 h3 hB => ⟨_, v1, v2, v3, ok, rfl, h3, hB⟩
end Go.Proofs.Ytmjfgnnefcimiaa
namespace Go.Proofs.Ytmjfgnnefcimiaa
open Go.RowKit

theorem call_passV {P : Program} {w0 : World} {S : List Ow} {K : AV → List Ow → Prop} {fid : FuncId} {F : Blk → List BOp} (hp : Pass P fid F) (hok : fnOk P fid = true) (ia i : Nat) (b : Blk) (hia : S[ia]? = some (.view viewT b.at_.length (b.at_.map (.int .u32)))) (hi : S[i]? = some (.view viewT b.ops.length (b.ops.flatMap opC))) (hb : b.ok) (hpg : b.pages = []) (h0 : b.ops = [] → F b = [])
    (hK : K (.p (.agg [.row ia, .v (.slice none 0 0), .row S.length])) (S ++ [.view viewT (F b).length ((F b).flatMap opC)])) :
    CallS P w0 Gs.nil fid [.p (.agg [.row ia, .v (.slice none 0 0), .row i])] S K := by
  refine ⟨hok, fun r w us hR hd => ?_⟩
  obtain ⟨u1, l1, rfl, d1, d2⟩ := hd
  obtain rfl : l1 = [] := d2
  obtain ⟨us, rfl, hl⟩ := den_agg d1
  simp only [denL] at hl
  obtain ⟨u1, l1, rfl, e1, u2, l2, rfl, e2, u3, l3, rfl, e3, rfl⟩ := hl
  simp only [CV.den] at e1 e2 e3
  subst e2
  obtain ⟨A1, c1, rfl, hs1, hc11, hc12, _, hfar1⟩ := viewAt hR hia e1
  obtain ⟨A, c, rfl, hs, hc1, hc2, hA, hfar⟩ := viewAt hR hi e3
  have hp' := hp b A1 none A c1 0 c w hb hs1 (by rw [hpg]; intro j u hj; simp at hj) hs hc1 hc2
  rw [hpg] at hp'
  refine hp'.mono fun e w' ⟨A', c', he, ho, k1, k2, k3, hB⟩ => ?_
  refine ⟨.p (.agg [.row ia, .v (.slice none 0 0), .row S.length]), _, _, r.set S.length none (some (.slice A' (F b).length c')), he, ⟨[.slice A1 b.at_.length c1, .slice none 0 0, .slice A' (F b).length c'], rfl, ?_⟩, hR.snoc (o := .view viewT (F b).length ((F b).flatMap opC)) hB (b := none) nofun ⟨A', c', by simp [Env.set], k1, ⟨k2, trivial⟩, by simp [Env.set], fun j u hj => ?_⟩, hR.le_new _ _, hK⟩
  · have hlt : ia < S.length := by
      rcases Nat.lt_or_ge ia S.length with h | h
      · exact h
      · rw [List.getElem?_eq_none h] at hia; cases hia
    simp only [denL, CV.den]
    exact ⟨_, _, rfl, by simp only [Env.set]; rw [if_neg (by omega)]; exact e1, _, _, rfl, rfl, _, _, rfl, by simp [Env.set], rfl⟩
  · obtain ⟨b', off, e4, e5, e6⟩ := ho j u hj
    refine ⟨b', off, e4, e5, fun q hq => ?_, e6⟩
    simp only [Env.set] at hq
    split at hq
    · cases hq
    · rcases k3 with k3 | rfl
      · have := k3 b' off none e4
        have := (hR.new q b' hq).1
        omega
      · cases hl : b.ops with
        | nil => rw [h0 hl] at hj; simp at hj
        | cons o l => exact hfar 0 (.int .i64 o.code) (by rw [hl]; rfl) b' off e4 q hq
def opTwo : BOp := ⟨1, 1, 0, 0, 2⟩
def opThree : BOp := ⟨1, 2, 0, 0, 3⟩
def blk1 : Blk := ⟨[0], [], blockOps [opTwo, opThree, ⟨3, 3, 1, 2, 0⟩]⟩
def blk2 : Blk := ⟨[0], [], blockOps [⟨2, 20, 1, 0, 0⟩, ⟨3, 2, 20, 20, 0⟩, ⟨2, 3, 20, 0, 0⟩]⟩
def blkW : List BOp := blockOps [⟨3, 2, 1, 1, 0⟩, ⟨2, 3, 1, 0, 0⟩]
theorem blkops1 : blockOps [opTwo, opThree, ⟨3, 3, 1, 2, 0⟩] = [⟨20, 0, 0, 0, 0⟩, ⟨1, 1, 0, 0, 2⟩, ⟨1, 2, 0, 0, 3⟩, ⟨3, 3, 1, 2, 0⟩, ⟨24, 0, 0, 0, 4⟩] := rfl
theorem blkops2 : blockOps [⟨2, 20, 1, 0, 0⟩, ⟨3, 2, 20, 20, 0⟩, ⟨2, 3, 20, 0, 0⟩] = [⟨20, 0, 0, 0, 0⟩, ⟨2, 20, 1, 0, 0⟩, ⟨3, 2, 20, 20, 0⟩, ⟨2, 3, 20, 0, 0⟩, ⟨24, 0, 0, 0, 4⟩] := rfl
theorem blkopsW : blkW = [⟨20, 0, 0, 0, 0⟩, ⟨3, 2, 1, 1, 0⟩, ⟨2, 3, 1, 0, 0⟩, ⟨24, 0, 0, 0, 4⟩] := rfl
theorem blk1_fold : foldAll blk1 = blockOps [opTwo, opThree, ⟨1, 3, 0, 0, 5⟩] := by decide +kernel
theorem blk2_once : (onceP blk2).ops = blkW := by decide +kernel
theorem blk2_twice : (onceP ⟨[0], [], blkW⟩).ops = blkW := by decide +kernel
theorem blk2_valid : validB blk2 = true := by decide +kernel
theorem blkW_live : (liveAll ⟨[0], [], blkW⟩).length = 4 := by decide +kernel
theorem blk_ok {l : List BOp} (h : ∀ o ∈ l, o.ok) (hl : l.length ≤ 100) : (⟨[0], [], l⟩ : Blk).ok := ⟨by intro x hx; simp at hx; subst hx; exact word0, nofun, h, by show (1 : Nat) ≤ _; omega, by show (0 : Nat) ≤ _; omega, by show l.length ≤ _; omega⟩
theorem satq_ent {P : Program} {w0 : World} {G : Gs} {N : Nd} {d : Code} {f f' : Fr} {S S' : List Ow} {Q : Exit → Act → World → Prop} (h : Ent w0 G N f S f' S') (k : SatQ P w0 G N d f' S' Q) : SatQ P w0 G N d f S Q := ⟨fun a w hg => k.out a w (h.out a w hg)⟩
theorem own_cellsAt {w0 : World} {G : Gs} {S : List Ow} {r : Env} {w : World} (hR : Rel w0 G S r w) (i : Nat) {t : TypeId} {l : List CV} (hi : S[i]? = some (.cells t l)) : ∃ g us, r.blk i = some g ∧ denL r l us ∧ CellsAt w Gs.nil g 0 us := by
  obtain ⟨g, us, h1, h2, h3⟩ := hR.own i _ hi
  exact ⟨g, us, h1, h3, (hR.new i g h1).1, by simp, fun j u hj => by simp [World.cell?, h2, hj]⟩
theorem own_blkAt {w0 : World} {G : Gs} {S : List Ow} {r : Env} {w : World} (hR : Rel w0 G S r w) (i ia io : Nat) {t : TypeId} {l : List BOp} (hi : S[i]? = some (.cells t [.row ia, .v (.slice none 0 0), .row io])) (ha : S[ia]? = some (.view viewT 1 [.int .u32 0])) (ho : S[io]? = some (.view viewT l.length (l.flatMap opC))) :
    ∃ g A1 c1 A3 c3, r.blk i = some g ∧ CellsAt w Gs.nil g 0 [.slice A1 1 c1, .slice none 0 0, .slice A3 l.length c3] ∧ SlAt w w.heap.size A1 [.int .u32 0] ∧ OpsAt w w.heap.size A3 l ∧ l.length ≤ c3 ∧ c3 ≤ maxLen := by
  obtain ⟨g, us, h1, h2, h3⟩ := own_cellsAt hR i hi
  simp only [denL, CV.den] at h2
  obtain ⟨u1, l1, rfl, e1, u2, l2, rfl, rfl, u3, l3, rfl, e3, rfl⟩ := h2
  obtain ⟨A1, c1, rfl, s1, _⟩ := viewAt hR ha e1
  obtain ⟨A3, c3, rfl, s3, k1, k2, _⟩ := viewAt hR ho e3
  exact ⟨g, A1, c1, A3, c3, h1, h3, s1, s3, k1, k2⟩
theorem slot_ref {r : Env} {f : Fr} {a : Act} (hf : FDen r f a) (d : Nat) {i g : Nat} (h : f.get d = .p (.c (.ref i 0))) (hb : r.blk i = some g) : a.tmps.getD d undef = .pointer (some ⟨g, 0, none⟩) := by
  have := hf d
  rw [h] at this
  obtain ⟨b, h1, h2⟩ := den_ref this
  rw [hb] at h1; injection h1 with h1; subst h1
  exact h2
theorem call_sameV {w0 : World} {S : List Ow} {K : AV → List Ow → Prop} {l m : List BOp} {A1 A3 : Option Addr} {c1 c3 : Nat} (ia io : Nat) (h1 : SlAt w0 w0.heap.size A1 [.int .u32 0]) (h3 : OpsAt w0 w0.heap.size A3 l) (hl : l.length ≤ 1000) (ha : S[ia]? = some (.view viewT 1 [.int .u32 0])) (ho : S[io]? = some (.view viewT m.length (m.flatMap opC))) (he : l = m) (hK : K (one (.bool true)) S) :
    CallS Try.prog w0 Gs.nil 23 [.p (.agg [.v (.slice A1 1 c1), .v (.slice none 0 0), .v (.slice A3 l.length c3)]), .p (.agg [.row ia, .v (.slice none 0 0), .row io])] S K := by
  subst he
  refine callS_val (.bool true) (by kernel_rfl) (fun r w us hR hd => ?_) hK
  obtain ⟨u1, l1, rfl, d1, u2, l2, rfl, d2, d3⟩ := hd
  obtain rfl : l2 = [] := d3
  obtain rfl := AV.val_den (x := .agg #[.slice A1 1 c1, .slice none 0 0, .slice A3 l.length c3]) rfl d1
  obtain ⟨us, rfl, hl'⟩ := den_agg d2
  simp only [denL, CV.den] at hl'
  obtain ⟨u1, l1, rfl, e1, u2, l2, rfl, rfl, u3, l3, rfl, e3, rfl⟩ := hl'
  obtain ⟨D1, d1', rfl, s1, _⟩ := viewAt hR ha e1
  obtain ⟨D3, d3', rfl, s3, _⟩ := viewAt hR ho e3
  have := same_ref (x := ⟨[0], [], l⟩) (y := ⟨[0], [], l⟩) (A1 := A1) (A2 := none) (A3 := A3) (D1 := D1) (D2 := none) (D3 := D3) (c1 := c1) (c2 := 0) (c3 := c3) (d1 := d1') (d2 := 0) (d3 := d3') (w := w) (by show 1 ≤ _; omega) (by show 0 ≤ _; omega) (by show l.length ≤ _; omega)
    (sl_later h1 hR.toBelow) (by intro j u hj; simp at hj) (sl_later h3 hR.toBelow) s1 (by intro j u hj; simp at hj) s3
  refine this.mono fun e w' ⟨h, hB⟩ => ⟨?_, hB⟩
  rw [h]
  simp [sameB]
theorem blk2_ok : blk2.ok := blk_ok (by
  intro o ho
  simp only [blkops2, List.mem_cons, List.not_mem_nil, or_false] at ho
  rcases ho with rfl | rfl | rfl | rfl | rfl <;> exact ⟨by unfold mid; dsimp only; omega, by unfold mid; dsimp only; omega, by unfold mid; dsimp only; omega, by unfold mid; dsimp only; omega, by unfold word; dsimp only; omega⟩) (by decide)
theorem blk1_ok : blk1.ok := blk_ok (by
  intro o ho
  simp only [blkops1, List.mem_cons, List.not_mem_nil, or_false] at ho
  rcases ho with rfl | rfl | rfl | rfl | rfl <;> exact ⟨by unfold mid; dsimp only; omega, by unfold mid; dsimp only; omega, by unfold mid; dsimp only; omega, by unfold mid; dsimp only; omega, by unfold word; dsimp only; omega⟩) (by decide)
theorem blkW_ok : (⟨[0], [], blkW⟩ : Blk).ok := blk_ok (by
  intro o ho
  simp only [blkopsW, List.mem_cons, List.not_mem_nil, or_false] at ho
  rcases ho with rfl | rfl | rfl | rfl <;> exact ⟨by unfold mid; dsimp only; omega, by unfold mid; dsimp only; omega, by unfold mid; dsimp only; omega, by unfold mid; dsimp only; omega, by unfold word; dsimp only; omega⟩) (by decide)
theorem opt_blk2 {mu : Blk → Nat} (hmu : ∀ b, b.ok → (onceP b).ops ≠ b.ops → mu (onceP b) < mu b) : optAll mu blk2 = blkW := by
  unfold optAll
  rw [if_pos blk2_valid]
  have e : onceP blk2 = ⟨[0], [], blkW⟩ := by
    have := blk2_once
    show (⟨[0], [], (onceP blk2).ops⟩ : Blk) = _
    rw [this]
  rw [optN_step hmu blk2_ok (by rw [blk2_once]; decide), e, optN_same blk2_twice]
theorem call_same_plain {w0 : World} {S : List Ow} {K : AV → List Ow → Prop} {l m : List BOp} {A1 A3 D1 D3 : Option Addr} {c1 c3 d1 d3 : Nat} (h1 : SlAt w0 w0.heap.size A1 [.int .u32 0]) (h3 : OpsAt w0 w0.heap.size A3 l) (g1 : SlAt w0 w0.heap.size D1 [.int .u32 0]) (g3 : OpsAt w0 w0.heap.size D3 m) (hl : l.length ≤ 1000) (he : l = m) (hK : K (one (.bool true)) S) :
    CallS Try.prog w0 Gs.nil 23 [.p (.agg [.v (.slice A1 1 c1), .v (.slice none 0 0), .v (.slice A3 l.length c3)]), .p (.agg [.v (.slice D1 1 d1), .v (.slice none 0 0), .v (.slice D3 m.length d3)])] S K := by
  subst he
  refine call_con (x := .bool true) rfl (by kernel_rfl) (fun r w hR => ?_) hK
  have := same_ref (x := ⟨[0], [], l⟩) (y := ⟨[0], [], l⟩) (A1 := A1) (A2 := none) (A3 := A3) (D1 := D1) (D2 := none) (D3 := D3) (c1 := c1) (c2 := 0) (c3 := c3) (d1 := d1) (d2 := 0) (d3 := d3) (w := w) (by show 1 ≤ _; omega) (by show 0 ≤ _; omega) (by show l.length ≤ _; omega)
    (sl_later h1 hR.toBelow) (by intro j u hj; simp at hj) (sl_later h3 hR.toBelow) (sl_later g1 hR.toBelow) (by intro j u hj; simp at hj) (sl_later g3 hR.toBelow)
  refine this.mono fun e w' ⟨h, hB⟩ => ⟨?_, hB⟩
  rw [h]
  simp [sameB]
theorem call_live {w0 : World} {S : List Ow} {K : AV → List Ow → Prop} (b : Blk) {A1 A2 A3 : Option Addr} {n1 n2 n3 c1 c2 c3 : Nat} (hn1 : b.at_.length = n1) (hn2 : b.pages.length = n2) (hn3 : b.ops.length = n3) (hb : b.ok) (h2 : SlAt w0 w0.heap.size A2 (b.pages.map (.int .i64))) (h3 : OpsAt w0 w0.heap.size A3 b.ops)
    (hK : K (.p (.c (.row S.length))) (S ++ [.view viewT (liveAll b).length ((liveAll b).map natV)])) :
    CallS Try.prog w0 Gs.nil 27 [.p (.agg [.v (.slice A1 n1 c1), .v (.slice A2 n2 c2), .v (.slice A3 n3 c3)])] S K := by
  subst hn1; subst hn2; subst hn3
  refine ⟨by kernel_rfl, fun r w us hR hd => ?_⟩
  obtain ⟨u1, l1, rfl, d1, d2⟩ := hd
  obtain rfl : l1 = [] := d2
  obtain rfl := AV.val_den (x := .agg #[.slice A1 b.at_.length c1, .slice A2 b.pages.length c2, .slice A3 b.ops.length c3]) rfl d1
  refine (live_opt b A1 A2 A3 c1 c2 c3 w hb (sl_later h2 hR.toBelow) (sl_later h3 hR.toBelow)).mono fun e w' ⟨A, c, he, hs, k1, k2, hf, hB⟩ => ?_
  refine ⟨.p (.c (.row S.length)), _, _, r.set S.length none (some (.slice A (liveAll b).length c)), he, by simp [AV.den, Pc.den, CV.den, Env.set], hR.snoc (o := .view viewT (liveAll b).length ((liveAll b).map natV)) hB (b := none) nofun (view_holds (w := w) (by simp [Env.set]) (by simp [Env.set]) hs k1 k2 trivial hf (fun k x hk => ?_)), hR.le_new _ _, hK⟩
  simp only [Env.set] at hk
  split at hk
  · cases hk
  · exact (hR.new k x hk).1
end Go.Proofs.Ytmjfgnnefcimiaa
