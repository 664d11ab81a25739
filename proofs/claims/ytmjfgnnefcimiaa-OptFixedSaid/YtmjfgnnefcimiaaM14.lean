/- Walks: the maker of blocks: Made of layer 15. Slices of slices, over states that are known part by part. Walks: the law's maker of blocks; a copy of a block. Walks: a block with one thing turned. Regions with guards within guards: an operation that is passed over leaves nothing. Plain: live variables, as the reference finds them; what Dead leaves is needed. Walks: what is read, what is live, what is needed, of the reference. Plain: the program's check of validity and the reference's agree. Walks: calls that the laws have in common. The arguments of a law, opened: a slice of integers and an array of three. -/
import Derived.Test.YtmjfgnnefcimiaaRows
import Derived.WalkKit
import Derived.ProofKit
import Derived.OpenShut
import Derived.ShutString
import Derived.ChangeOld
import Derived.Below
import Derived.Lib.SmallJoins
import Derived.Test.YtmjfgnnefcimiaaM13
namespace Go.Proofs.Ytmjfgnnefcimiaa
open Go.RowKit

theorem cut_ops {l : List BOp} {i k n : Nat} {o : BOp} (h : l[i]? = some o) (hk : k = i * 5) (hn : n = 5) : cut (List.map CV.v (List.flatMap opC l)) k n = some ((opC o).map .v) := by
  subst hk; subst hn
  have hlt : i < l.length := by
    rcases Nat.lt_or_ge i l.length with h1 | h1
    · exact h1
    · rw [List.getElem?_eq_none h1] at h; cases h
  unfold cut
  have : Nat.ble (i * 5 + 5) (List.map CV.v (List.flatMap opC l)).length = true := Nat.ble_eq_true_of_le (by rw [List.length_map, ops_length]; omega)
  rw [this]
  show some (((List.flatMap opC l).map CV.v).drop (i * 5) |>.take 5) = _
  rw [← List.map_drop, ← List.map_take, ops_cut h]
theorem ops_setAt {l : List BOp} {i k : Nat} (o : BOp) (hk : k = i * 5) (h : i < l.length) : setAll (l.flatMap opC) k (opC o) = (l.set i o).flatMap opC := by subst hk; exact ops_set o h
/-- The replacing under way. -/
structure ReplSt (a g : List Int) (n : Nat) where
  i : Nat
  l : List BOp
  hl : l.length = n
  hi : i ≤ n
  ok : MadeOk ⟨a, g, l⟩
set_option maxRecDepth 100000 in
theorem made15_walk (A : Option Addr) (m c : Nat) (xs : List Int) (w : World) (hs : SlAt w w.heap.size A (xs.map (.int .i64))) (hl : xs.length = m) (hm : m ≤ 1000000) :
    Calls Try.prog 35 #[.slice A m c] w fun e w' => ∃ b v1 v2 v3, MadeOk b ∧ e = .returned (.agg #[v1, v2, v3]) ∧ Rows3 w.heap.size w' v1 v2 v3 b ∧ Below w.heap.size w w' := by
  refine calls_satq [.slice A m c] Try.func35 Try.ntmps35 rfl (by simp) ?_
  refine satq_seq ?_
  conv => whnf
  refine satq_seq ?_
  conv => whnf
  refine call_blk MadeOk (by kernel_rfl) (fun r w' us hR hd => ?_) fun b hb => ?_
  · obtain rfl := avals_den (xs := [.slice A m c]) rfl hd
    exact made12_walk A m c xs w' (sl_later hs hR.toBelow) hl hm
  conv => whnf
  refine satq_in ?_
  refine satq_seq ?_
  conv => whnf
  refine satq_block ?_
  refine satq_loop (α := ReplSt b.at_ b.pages b.ops.length) (fun x => [(0, one (.slice A m c)), (2, .p (.c (.ref 0 0))), (3, .p (.c (.ref 4 0))), (4, one (.int .i64 (x.i : Int)))])
    (fun x => [.cells 32 [.v (.slice none 0 0), .v (.slice none 0 0), .v (.slice none 0 0)], .row 24 1 b.at_.length (b.at_.map (.int .u32)), .row 3 1 b.pages.length (b.pages.map (.int .i64)), .row 53 5 b.ops.length (x.l.flatMap opC), .cells 32 [.row 1, .row 2, .row 3]])
    (fun x => b.ops.length - x.i) ⟨0, b.ops, rfl, by omega, hb⟩ (ent_same rfl (And.intro (rfl) (And.intro (rfl) (And.intro (rfl) (And.intro (rfl) trivial)))) (And.intro ((And.intro rfl (Or.inl rfl))) (And.intro ((And.intro rfl (And.intro rfl (And.intro (rfl) (rfl))))) (And.intro ((And.intro rfl (And.intro rfl (And.intro (rfl) (rfl))))) (And.intro ((And.intro rfl (And.intro rfl (And.intro (rfl) (rfl))))) (And.intro ((And.intro rfl (Or.inl rfl))) trivial)))))) fun x => ?_
  obtain ⟨i, l, hll, hi, ok⟩ := x
  dsimp only
  refine satq_seq ?_
  conv => whnf
  refine ⟨fun hc => ?_, fun hc => ?_⟩
  · have hlt : i < b.ops.length := by simpa using hc
    obtain ⟨o, ho⟩ : ∃ o, l[i]? = some o := ⟨_, List.getElem?_eq_getElem (by omega)⟩
    conv => whnf
    refine satq_mid (α := { y : ReplSt b.at_ b.pages b.ops.length // y.i = i }) (fun y => [(0, one (.slice A m c)), (2, .p (.c (.ref 0 0))), (3, .p (.c (.ref 4 0))), (4, one (.int .i64 (i : Int)))])
      (fun y => [.cells 32 [.v (.slice none 0 0), .v (.slice none 0 0), .v (.slice none 0 0)], .row 24 1 b.at_.length (b.at_.map (.int .u32)), .row 3 1 b.pages.length (b.pages.map (.int .i64)), .row 53 5 b.ops.length (y.1.l.flatMap opC), .cells 32 [.row 1, .row 2, .row 3]]) ?_ fun y => ?_
    · refine satq_block ?_
      refine satq_seq ?_
      conv => whnf
      refine satq_mid (α := Int) (fun y => [(0, one (.slice A m c)), (2, .p (.c (.ref 0 0))), (3, .p (.c (.ref 4 0))), (4, one (.int .i64 (i : Int))), (5, one (.int .i64 y))])
        (fun y => [.cells 32 [.v (.slice none 0 0), .v (.slice none 0 0), .v (.slice none 0 0)], .row 24 1 b.at_.length (b.at_.map (.int .u32)), .row 3 1 b.pages.length (b.pages.map (.int .i64)), .row 53 5 b.ops.length (l.flatMap opC), .cells 32 [.row 1, .row 2, .row 3]]) ?_ fun n => ?_
      · refine satq_vc ?_
        conv => whnf
        refine ⟨fun ht => ?_, fun _ => ?_⟩
        · have hlt2 : (i : Int) < (m : Int) := by simpa using ht
          obtain ⟨x, hx⟩ : ∃ x, xs[m - 1 - i]? = some x := ⟨_, List.getElem?_eq_getElem (by omega)⟩
          obtain ⟨bb, off, rfl, e2, e3⟩ := hs (m - 1 - i) (.int .i64 x) (by rw [List.getElem?_map, hx]; rfl)
          conv => whnf
          refine ⟨_, wr64 (by omega), ?_⟩
          conv => whnf
          refine ⟨_, wr64 (by omega), ?_⟩
          conv => whnf
          refine ⟨⟨by omega, by omega⟩, ?_⟩
          conv => whnf
          refine ⟨.int .i64 x, cells_one e2 (by simp) (by rw [show off + ((m : Int) - 1 - (i : Int)).toNat * tsz Try.prog 3 = off + (m - 1 - i) from congrArg (off + ·) ((Nat.mul_one _).trans (by omega))]; exact e3), ?_⟩
          conv => whnf
          refine ⟨_, rfl, ?_⟩
          conv => whnf
          exact atq_mid _ (ent_same rfl (And.intro (rfl) (And.intro (rfl) (And.intro (rfl) (And.intro (rfl) (And.intro (rfl) trivial))))) (And.intro ((And.intro rfl (Or.inl rfl))) (And.intro ((And.intro rfl (And.intro rfl (And.intro (rfl) (rfl))))) (And.intro ((And.intro rfl (And.intro rfl (And.intro (rfl) (rfl))))) (And.intro ((And.intro rfl (And.intro rfl (And.intro (rfl) (rfl))))) (And.intro ((And.intro rfl (Or.inl rfl))) trivial))))))
        · conv => whnf
          exact atq_mid 0 (ent_same rfl (And.intro (rfl) (And.intro (rfl) (And.intro (rfl) (And.intro (rfl) (And.intro (rfl) trivial))))) (And.intro ((And.intro rfl (Or.inl rfl))) (And.intro ((And.intro rfl (And.intro rfl (And.intro (rfl) (rfl))))) (And.intro ((And.intro rfl (And.intro rfl (And.intro (rfl) (rfl))))) (And.intro ((And.intro rfl (And.intro rfl (And.intro (rfl) (rfl))))) (And.intro ((And.intro rfl (Or.inl rfl))) trivial))))))
      refine satq_seq ?_
      conv => whnf
      refine ⟨⟨by omega, by omega⟩, ?_⟩
      conv => whnf
      rw [cut_ops ho]
      rotate_left
      · show (i : Int).toNat * 5 = i * 5; rw [Int.toNat_natCast]
      · rfl
      conv => whnf
      have hof : formedB o = true := valid_formed ok.valid o (List.mem_of_getElem? ho)
      refine satq_seq ?_
      conv => whnf
      refine call_con rfl (by kernel_rfl) (fun r w' hR => pure_ref o w') ?_
      conv => whnf
      refine satq_seq ?_
      conv => whnf
      refine ⟨fun _ => ?_, fun hp => ?_⟩
      · conv => whnf
        refine atq_exit ?_
        exact atq_mid ⟨⟨i, l, hll, hi, ok⟩, rfl⟩ (ent_drop (And.intro (rfl) (And.intro (rfl) (And.intro (rfl) (And.intro (rfl) trivial)))) (And.intro ((And.intro rfl (Or.inl rfl))) (And.intro ((And.intro rfl (And.intro rfl (And.intro (rfl) (rfl))))) (And.intro ((And.intro rfl (And.intro rfl (And.intro (rfl) (rfl))))) (And.intro ((And.intro rfl (And.intro rfl (And.intro (rfl) (rfl))))) (And.intro ((And.intro rfl (Or.inl rfl))) trivial))))) rfl rfl)
      have hp : pureB o = true := by simpa using hp
      conv => whnf
      refine satq_seq ?_
      conv => whnf
      refine ⟨by omega, _, rfl, ?_⟩
      conv => whnf
      refine satq_block ?_
      refine satq_seq ?_
      conv => whnf
      refine satq_cond rfl (fun _ => ?_) (fun _ => ?_)
      · refine satq_vc ?_
        conv => whnf
        refine ⟨by omega, _, rfl, ?_⟩
        conv => whnf
        refine ⟨by omega, _, rfl, ?_⟩
        conv => whnf
        refine ⟨_, wr32 _, ?_⟩
        conv => whnf
        refine ⟨⟨by omega, by omega⟩, ?_⟩
        conv => whnf
        refine ⟨?_, ?_⟩
        · show (i : Int).toNat * 5 + 5 ≤ (l.flatMap opC).length
          rw [ops_length]; omega
        conv => whnf
        refine atq_block (atq_block ?_)
        exact atq_mid ⟨⟨i, l.set i ⟨1, o.d, 0, 0, ((IntKind.i64.wrap (n.tdiv 5)).tmod 3) % 4294967296⟩, by simpa using hll, hi, made_repl ok ho hp (repl_const hof hp _) ⟨mid_small (by dsimp only; omega), (ok.ok.ops o (List.mem_of_getElem? ho)).d, mid0, mid0, word_mod _⟩⟩, rfl⟩ (ent_drop (And.intro (rfl) (And.intro (rfl) (And.intro (rfl) (And.intro (rfl) trivial)))) (And.intro ((And.intro rfl (Or.inl rfl))) (And.intro ((And.intro rfl (And.intro rfl (And.intro (rfl) (rfl))))) (And.intro ((And.intro rfl (And.intro rfl (And.intro (rfl) (rfl))))) (And.intro ((And.intro rfl (And.intro rfl (And.intro (rfl) (by exact ops_setAt (l := l) (⟨1, o.d, 0, 0, (IntKind.i64.wrap (n.tdiv 5)).tmod 3 % 4294967296⟩ : BOp) (congrArg (· * 5) (Int.toNat_natCast i)) (by omega)))))) (And.intro ((And.intro rfl (Or.inl rfl))) trivial))))) rfl rfl)
      refine satq_seq ?_
      conv => whnf
      refine satq_cond rfl (fun _ => ?_) (fun _ => ?_)
      · refine satq_seq ?_
        conv => whnf
        refine call_row rfl (by kernel_rfl) (fun r w' hR => reads_ref o w') ?_
        conv => whnf
        refine satq_vc ?_
        conv => whnf
        refine ⟨fun hn => ?_, fun _ => ?_⟩
        · have hn : 0 < (reads o).length := by simpa using hn
          obtain ⟨v, rl, hrd⟩ : ∃ v rl, reads o = v :: rl := by
            cases hr : reads o with
            | nil => rw [hr] at hn; simp at hn
            | cons v rl => exact ⟨v, rl, rfl⟩
          rw [hrd]
          conv => whnf
          refine sat_tail 10 mixed (by kernel_rfl) ?_
          conv => whnf
          refine ⟨⟨by omega, by simp⟩, ?_⟩
          conv => whnf
          refine ⟨⟨by omega, by omega⟩, ?_⟩
          conv => whnf
          refine ⟨?_, ?_⟩
          · show (i : Int).toNat * 5 + 5 ≤ (l.flatMap opC).length
            rw [ops_length]; omega
          conv => whnf
          refine atq_block (atq_block ?_)
          exact atq_mid ⟨⟨i, l.set i ⟨2, o.d, v, 0, 0⟩, by simpa using hll, hi, made_repl ok ho hp (repl_move hof hp (by rw [hrd]; simp)) ⟨mid_small (by dsimp only; omega), (ok.ok.ops o (List.mem_of_getElem? ho)).d, field_mid (reads_field hof (by rw [hrd]; simp)), mid0, word0⟩⟩, rfl⟩ (ent_drop (And.intro (rfl) (And.intro (rfl) (And.intro (rfl) (And.intro (rfl) trivial)))) (And.intro ((And.intro rfl (Or.inl rfl))) (And.intro ((And.intro rfl (And.intro rfl (And.intro (rfl) (rfl))))) (And.intro ((And.intro rfl (And.intro rfl (And.intro (rfl) (rfl))))) (And.intro ((And.intro rfl (And.intro rfl (And.intro (rfl) (by exact ops_setAt (l := l) (⟨2, o.d, v, 0, 0⟩ : BOp) (congrArg (· * 5) (Int.toNat_natCast i)) (by omega)))))) (And.intro ((And.intro rfl (Or.inl rfl))) trivial))))) rfl rfl)
        · conv => whnf
          refine atq_block (atq_block ?_)
          exact atq_mid ⟨⟨i, l, hll, hi, ok⟩, rfl⟩ (ent_drop (And.intro (rfl) (And.intro (rfl) (And.intro (rfl) (And.intro (rfl) trivial)))) (And.intro ((And.intro rfl (Or.inl rfl))) (And.intro ((And.intro rfl (And.intro rfl (And.intro (rfl) (rfl))))) (And.intro ((And.intro rfl (And.intro rfl (And.intro (rfl) (rfl))))) (And.intro ((And.intro rfl (And.intro rfl (And.intro (rfl) (rfl))))) (And.intro ((And.intro rfl (Or.inl rfl))) trivial))))) rfl rfl)
      · refine satq_skip ?_
        refine atq_block (atq_block ?_)
        exact atq_mid ⟨⟨i, l, hll, hi, ok⟩, rfl⟩ (ent_drop (And.intro (rfl) (And.intro (rfl) (And.intro (rfl) (And.intro (rfl) trivial)))) (And.intro ((And.intro rfl (Or.inl rfl))) (And.intro ((And.intro rfl (And.intro rfl (And.intro (rfl) (rfl))))) (And.intro ((And.intro rfl (And.intro rfl (And.intro (rfl) (rfl))))) (And.intro ((And.intro rfl (And.intro rfl (And.intro (rfl) (rfl))))) (And.intro ((And.intro rfl (Or.inl rfl))) trivial))))) rfl rfl)
    obtain ⟨y, hy⟩ := y
    dsimp only
    refine satq_vc ?_
    conv => whnf
    have hbl := hb.len
    refine ⟨_, wr64 (by omega), ?_⟩
    conv => whnf
    exact atq_next ⟨i + 1, y.l, y.hl, by omega, y.ok⟩ (ent_same rfl (And.intro (rfl) (And.intro (rfl) (And.intro (rfl) (And.intro (rfl) trivial)))) (And.intro ((And.intro rfl (Or.inl rfl))) (And.intro ((And.intro rfl (And.intro rfl (And.intro (rfl) (rfl))))) (And.intro ((And.intro rfl (And.intro rfl (And.intro (rfl) (rfl))))) (And.intro ((And.intro rfl (And.intro rfl (And.intro (rfl) (rfl))))) (And.intro ((And.intro rfl (Or.inl rfl))) trivial)))))) (by show b.ops.length - (i + 1) < b.ops.length - i; omega)
  · have hli : i = b.ops.length := by simp at hc; omega
    conv => whnf
    refine atq_out (atq_exit (atq_on ?_))
    refine satq_vc ?_
    conv => whnf
    refine atq_ret ?_
    conv => whnf
    refine fin_rows3 1 2 3 ⟨b.at_, b.pages, l⟩ (by omega) (by omega) (by omega) (.inl ⟨rfl, rfl⟩) (.inl ⟨rfl, rfl⟩) (.inl ⟨rfl, by rw [hll]; rfl⟩) fun w' v1 v2 v3 h3 hB => ⟨_, v1, v2, v3, ok, rfl, h3, hB⟩
end Go.Proofs.Ytmjfgnnefcimiaa
namespace Go.Proofs.Ytmjfgnnefcimiaa
open Go.RowKit
theorem Rel.appendG {w0 : World} {G : Gs} {S : List Ow} {r : Env} {w w' : World} (h : Rel w0 G S r w) {i : Nat} {e : TypeId} {size n' : Nat} {xs' : List Value} {B : Option Nat} {v' : Value} (hil : i < S.length) (hG : G.fix.length ≤ i) (hob : B = r.blk i)
    (hown : w'.ownsRow 0 e size v' n' xs') (hg : w.grownBy w' B) (hb : v'.ownBlock = B ∨ v'.ownBlock = some w.heap.size) :
    Rel w0 G ((killS i S).set i (.row e size n' xs')) (r.set i v'.ownBlock (some v')) w' ∧ But i r (r.set i v'.ownBlock (some v')) := by
  have hbut : But i r (r.set i v'.ownBlock (some v')) := fun j hj => by simp [Env.set, hj]
  have hnewlt : ∀ x, v'.ownBlock = some x → x < w'.heap.size := fun x hx => by
    rcases hown.2 with ⟨h1, _⟩ | ⟨g, cap, cur, h1, _, hh, _⟩
    · rw [h1] at hx; cases hx
    · rw [h1] at hx; simp [Value.ownBlock] at hx; subst hx
      rcases Nat.lt_or_ge g w'.heap.size with h2 | h2
      · exact h2
      · rw [Array.getElem?_eq_none h2] at hh; cases hh
  have hblk : ∀ j x, r.blk j = some x → j ≠ i → w'.heap[x]? = w.heap[x]? := fun j x hx hj => hg.block x (h.new j x hx).1 (fun e => hj (h.inj j i x hx (by rw [← hob]; exact e.symm)))
  refine ⟨⟨hg.os.trans h.os, hg.tape.trans h.tape, hg.output.trans h.output, Nat.le_trans h.size hg.size, fun k hk hkG => ?_, fun j o hj => ?_, fun a b x ha hb' => ?_, fun j x hj => ?_, fun j hj => ?_, fun j hj => ?_, fun j g hj => ?_⟩, hbut⟩
  · rw [hg.block k (Nat.lt_of_lt_of_le hk h.size) (fun e => hkG ((h.new i k (by rw [← hob]; exact e.symm)).2 hk))]
    exact h.old k hk hkG
  · by_cases hij : i = j
    · subst hij
      rw [List.getElem?_set_self (by rw [killS_length]; exact hil)] at hj
      injection hj with hj; subst hj
      exact ⟨v', by simp [Env.set], by simp [Env.set], hown⟩
    · rw [List.getElem?_set_ne hij, killS_get] at hj
      cases hSj : S[j]? with
      | none => rw [hSj] at hj; cases hj
      | some o' =>
        rw [hSj] at hj
        simp at hj; subst hj
        have h1 := Ow.holds_block (h.own j o' hSj) (fun x hx => hblk j x hx (Ne.symm hij)) hg.size (fun x hx hno => hg.block x hx (fun e => hno i (by rw [← hob]; exact e.symm)))
        cases o' with
        | view φ m ys =>
          obtain ⟨A, c, h2, h3, h4, h5, h6⟩ := h.own j _ hSj
          refine ⟨A, c, by rw [← (hbut j (Ne.symm hij)).2]; exact h2, h3, h4, by rw [← (hbut j (Ne.symm hij)).1]; exact h5, fun k u hk => ?_⟩
          obtain ⟨b, off, h7, h8, h9, h10⟩ := h6 k u hk
          refine ⟨b, off, h7, Nat.lt_of_lt_of_le h8 hg.size, fun q hq => ?_, (World.cell?_of_block (w := w) (a := ⟨b, off + k, none⟩) (hg.block b h8 (fun e => h9 i (by rw [← hob]; exact e.symm)))).trans h10⟩
          by_cases hqi : q = i
          · subst hqi
            simp [Env.set] at hq
            rcases hb with hb | hb
            · rw [hb, hob] at hq; exact h9 q hq
            · rw [hb] at hq; injection hq with hq; omega
          · exact h9 q (by rw [(hbut q hqi).1]; exact hq)
        | cells t l => obtain ⟨b, us, h2, h3, h4⟩ := h1; exact ⟨b, us, by rw [← (hbut j (Ne.symm hij)).1]; exact h2, h3, killL_den hbut h4⟩
        | row e s n xs => obtain ⟨v, h2, h3, h4⟩ := h1; exact ⟨v, by rw [← (hbut j (Ne.symm hij)).2]; exact h2, by rw [← (hbut j (Ne.symm hij)).1]; exact h3, h4⟩
        | ext φ => obtain ⟨b, h2, h3⟩ := h1; exact ⟨b, by rw [← (hbut j (Ne.symm hij)).1]; exact h2, h3⟩
        | gone => trivial
  · have fresh : ∀ j x, j ≠ i → r.blk j = some x → v'.ownBlock = some x → False := fun j x hj hx he => by
      rcases hb with hb | hb
      · rw [hb, hob] at he; exact hj (h.inj j i x hx he)
      · rw [hb] at he; injection he with he; have := (h.new j x hx).1; omega
    simp only [Env.set] at ha hb'
    split at ha <;> split at hb'
    · omega
    · exact (fresh b x (by assumption) hb' ha).elim
    · exact (fresh a x (by assumption) ha hb').elim
    · exact h.inj a b x ha hb'
  · simp only [Env.set] at hj
    split at hj
    · refine ⟨hnewlt x hj, fun hlt => ?_⟩
      rcases hb with hb | hb
      · rw [hb, hob] at hj; exact (h.new i x hj).2 hlt
      · rw [hb] at hj; injection hj with hj; have := h.size; omega
    · exact ⟨Nat.lt_of_lt_of_le (h.new j x hj).1 hg.size, (h.new j x hj).2⟩
  · have hj' : S.length ≤ j := by simpa [killS_length] using hj
    simp only [Env.set]; rw [if_neg (by omega)]; exact h.outB j hj'
  · have hj' : S.length ≤ j := by simpa [killS_length] using hj
    simp only [Env.set]; rw [if_neg (by omega)]; exact h.outV j hj'
  · have : j < G.fix.length := by
      rcases Nat.lt_or_ge j G.fix.length with h1 | h1
      · exact h1
      · rw [List.getElem?_eq_none h1] at hj; cases hj
    simp only [Env.set]; rw [if_neg (by omega)]; exact h.first j g hj


section
variable {P : Program} {w0 : World} {G : Gs} {N : Nd} {o : Oper} {f : Fr} {S : List Ow} {K : Fr → List Ow → Prop} {Q : Exit → Act → World → Prop} {d : Code}
/-- An operation that hands back a value and leaves the world as it is. -/
theorem opS_val (v : AV) (hdst : dstOk N.n o.dst = true) (h : ∀ r a w, Rel w0 G S r w → FDen r f a → ∃ u, v.den r u ∧ (execOp a.eval o).run P w = .ok (.value u) w) (hk : K (f.put o.dst v) S) : OpS P w0 G N o f S K := by
  refine ⟨fun r a w hR hf hN hd next Q hK => ?_⟩
  obtain ⟨u, hu, hrun⟩ := h r a w hR hf
  exact wp_of_value hrun (hK _ _ _ _ hk (good_value hR hf hN hd hdst hu hR (Env.le.refl r)))
theorem op_min {x y : Operand} {a b : Int} {tys : Array TypeId} (hop : o.op = .call ⟨.builtin .min, #[x, y], tys⟩) (hx : f.ev x = one (.int .i64 a)) (hy : f.ev y = one (.int .i64 b)) (hdst : dstOk N.n o.dst = true) (hk : K (f.put o.dst (one (.int .i64 (if b < a then b else a)))) S) : OpS P w0 G N o f S K := by
  refine opS_val _ hdst (fun r act w hR hf => ⟨_, den_one _ _, ?_⟩) hk
  have h1 := hf.ev x
  have h2 := hf.ev y
  rw [hx] at h1; rw [hy] at h2
  simp [execOp, hop, resolve, invoke, builtin, den_v h1, den_v h2, Builtin.min_, Builtin.min2]
theorem run_slice {t e : TypeId} {i : TypeInfo} (ht : P.underlying t = some (.slice e)) (hi : P.info? e = some i) (A : Option Addr) (n c l h : Nat) (low high : Option Value) (hl : (low = none ∧ l = 0) ∨ ∃ q, low = some (.int q (l : Int))) (hh : (high = none ∧ h = n) ∨ ∃ q, high = some (.int q (h : Int))) (hlh : l ≤ h) (hhc : h ≤ c) (w : World) :
    (Instr.sliceAt t (.slice A n c) low high none).run P w = .ok (.slice (if c = l then A else A.map (·.add (l * i.size))) (h - l) (c - l)) w := by
  have hs := run_sizeOf P e w hi
  have hl0 : (0 : Int) ≤ (l : Int) ∧ (l : Int) ≤ (h : Int) := by omega
  have hh0 : (0 : Int) ≤ (h : Int) ∧ (h : Int) ≤ (c : Int) := by omega
  rcases hl with ⟨rfl, rfl⟩ | ⟨q, rfl⟩ <;> rcases hh with ⟨rfl, rfl⟩ | ⟨q', rfl⟩ <;>
    simp [Instr.sliceAt, Instr.slice, underlying, ht, Instr.sliceBounds, Instr.sliceBound, asIntOf, hs, hl0, hh0, hlh, hhc]
/-- A slice of a slice that is known whole. -/
theorem op_slice_v {t e : TypeId} {i : TypeInfo} {x : Operand} {lo hi : Option Operand} {A : Option Addr} {n c : Nat} (l h size : Nat) (hop : o.op = .slice t x lo hi none) (ht : P.underlying t = some (.slice e)) (hif : P.info? e = some i) (hsz : i.size = size) (hx : f.ev x = one (.slice A n c))
    (hl : (lo = none ∧ l = 0) ∨ ∃ y q, lo = some y ∧ f.ev y = one (.int q (l : Int))) (hh : (hi = none ∧ h = n) ∨ ∃ y q, hi = some y ∧ f.ev y = one (.int q (h : Int))) (hlh : l ≤ h) (hhc : h ≤ c) (hdst : dstOk N.n o.dst = true)
    (hk : K (f.put o.dst (one (.slice (if c = l then A else A.map (·.add (l * size))) (h - l) (c - l)))) S) : OpS P w0 G N o f S K := by
  subst hsz
  refine opS_val _ hdst (fun r act w hR hf => ⟨_, den_one _ _, ?_⟩) hk
  have h1 := hf.ev x
  rw [hx] at h1
  have hl' : ((lo.map act.eval) = none ∧ l = 0) ∨ ∃ q, (lo.map act.eval) = some (.int q (l : Int)) := by
    rcases hl with ⟨rfl, h0⟩ | ⟨y, q, rfl, hy⟩
    · exact .inl ⟨rfl, h0⟩
    · have := hf.ev y; rw [hy] at this; exact .inr ⟨q, by rw [Option.map_some, den_v this]⟩
  have hh' : ((hi.map act.eval) = none ∧ h = n) ∨ ∃ q, (hi.map act.eval) = some (.int q (h : Int)) := by
    rcases hh with ⟨rfl, h0⟩ | ⟨y, q, rfl, hy⟩
    · exact .inl ⟨rfl, h0⟩
    · have := hf.ev y; rw [hy] at this; exact .inr ⟨q, by rw [Option.map_some, den_v this]⟩
  have := run_slice (P := P) ht hif A n c l h (lo.map act.eval) (hi.map act.eval) hl' hh' hlh hhc w
  simp [execOp, hop, den_v h1, this]
/-- A row cut off behind its first m elements; nothing else names it any more. -/
theorem op_reslice {t e : TypeId} {i : TypeInfo} {x y : Operand} {q : IntKind} {n size : Nat} {xs : List Value} (k m : Nat) (hop : o.op = .slice t x none (some y) none) (ht : P.underlying t = some (.slice e)) (hif : P.info? e = some i) (_hsz : i.size = size) (hx : f.ev x = .p (.c (.row k))) (hS : S[k]? = some (.row e size n xs)) (hy : f.ev y = one (.int q (m : Int))) (hm : m ≤ n) (hG : G.fix.length ≤ k) (hdst : dstOk N.n o.dst = true)
    (hk : K ((Fr.kill k f).put o.dst (.p (.c (.row k)))) ((killS k S).set k (.row e size m (xs.take (m * size))))) : OpS P w0 G N o f S K := by
  refine ⟨fun r a w hR hf hN hd next Q hK => ?_⟩
  have h1 := hf.ev x
  have h2 := hf.ev y
  rw [hx] at h1; rw [hy] at h2
  have hu := den_row h1
  obtain ⟨v, f1, f2, f3⟩ := hR.own k _ hS
  rw [hu] at f1; injection f1 with f1; subst f1
  have hlt : k < S.length := by
    rcases Nat.lt_or_ge k S.length with h | h
    · exact h
    · rw [List.getElem?_eq_none h] at hS; cases hS
  obtain ⟨A, c, he⟩ := row_slice f3
  rw [he] at f2 f3 hu
  have hnc : n ≤ c := by
    rcases f3.2 with ⟨e1, e2⟩ | ⟨g, cap, cur, e1, _, _, e2, _⟩
    · injection e1 with _ _ e1; omega
    · injection e1 with _ _ e1; omega
  have hmin : min (m * size) xs.length = m * size := Nat.min_eq_left (by rw [f3.1]; exact Nat.mul_le_mul_right _ hm)
  have hown : w.ownsRow 0 e size (.slice A m c) m (xs.take (m * size)) := by
    refine ⟨by rw [List.length_take, hmin], ?_⟩
    rcases f3.2 with ⟨e1, e2⟩ | ⟨g, cap, cur, e1, e2, e3, e4, e5, e6, e7⟩
    · injection e1 with e0 e0' e1; subst e0; subst e1
      exact .inl ⟨by rw [show m = 0 by omega], by omega⟩
    · injection e1 with e0 e0' e1; subst e0; subst e1
      refine .inr ⟨g, c, cur, rfl, Nat.zero_le _, e3, by omega, e5, e6, ?_⟩
      rw [← e7, List.take_take, Nat.min_eq_left (Nat.mul_le_mul_right _ hm)]
  have hbl : (Value.slice A m c).ownBlock = (Value.slice A n c).ownBlock := by cases A <;> rfl
  obtain ⟨hR', hbut⟩ := hR.appendG (i := k) (B := (Value.slice A n c).ownBlock) hlt hG f2 hown (World.grownBy.refl w _) (.inl hbl)
  have hrun := run_slice (P := P) ht hif A n c 0 m none (some (.int q (m : Int))) (.inl ⟨rfl, rfl⟩) (.inr ⟨q, rfl⟩) (Nat.zero_le _) (by omega) w
  have hA : (if c = 0 then A else A.map (·.add (0 * i.size))) = A := by
    split
    · rfl
    · cases A with
      | none => rfl
      | some p => simp [Addr.add]
  rw [hA, Nat.sub_zero, Nat.sub_zero] at hrun
  have hex : (execOp a.eval o).run P w = .ok (.value (.slice A m c)) w := by simp [execOp, hop, he, den_v h2, hrun]
  exact wp_of_value hex (hK _ _ _ _ hk ⟨_, hR', (hf.kill hbut).put (by simp [AV.den, Pc.den, CV.den, Env.set]) (by rw [hN]; exact hdst), (put_size a _ _).trans hN, (put_defers a _ _).trans hd⟩)
/-- What the memory is, looked at closer. -/
theorem satq_conc (h : ∀ r w, Rel w0 G S r w → ∃ f2 S2, Rel w0 G S2 r w ∧ (∀ a, FDen r f a → FDen r f2 a) ∧ SatQ P w0 G N d f2 S2 Q) : SatQ P w0 G N d f S Q :=
  ⟨fun a w ⟨r, hR, hf, hN, hd⟩ => by
    obtain ⟨f2, S2, hR2, hf2, hs⟩ := h r w hR
    exact hs.out a w ⟨r, hR2, hf2 a hf, hN, hd⟩⟩
/-- append onto the front of a block whose content is known, of a part of it. -/
theorem op_app_obj {t e : TypeId} {inf : TypeInfo} {z : Value} {s x : Operand} {A : Option Addr} {m c2 : Nat} (k ob i C size : Nat) (cur news : List Value) (hop : o.op = .call ⟨.builtin .append, #[s, x], #[t, t]⟩) (ht : P.underlying t = some (.slice e)) (hif : P.info? e = some inf) (hz : inf.zero = some z) (hzs : z.cells.size = inf.size) (hsz : inf.size = size) (hpos : 0 < size) (hbytes : inf.bytes ≤ 100000)
    (hs : f.ev s = one (.slice (some ⟨ob, 0, none⟩) i C)) (hx : f.ev x = one (.slice A m c2)) (hSk : S[k]? = some (objOw ob (.cells cur.toArray e (0, 0)))) (hG : G.fix.length ≤ k) (hC : cur.length = C * size) (hiC : i ≤ C) (hCm : C ≤ maxLen) (hl : news.length = m * size) (hnews : ∀ (j : Nat) u, news[j]? = some u → ∃ off, A = some ⟨ob, off, none⟩ ∧ cur[off + j]? = some u) (hone : ∀ u ∈ news, u.oneCell' = true) (hle : i + m ≤ 1000000000) (hdst : dstOk N.n o.dst = true)
    (hk : K ((Fr.kill k f).put o.dst (.p (.c (.row k)))) ((killS k S).set k (.row e size (i + m) (cur.take (i * size) ++ news)))) : OpS P w0 G N o f S K := by
  subst hsz
  refine ⟨fun r a w hR hf hN hd next Q hK => ?_⟩
  have h1 := hf.ev s
  have h2 := hf.ev x
  rw [hs] at h1; rw [hx] at h2
  obtain ⟨b, hb, ⟨rfl, hh⟩, _⟩ := hR.own k _ hSk
  have hlt : k < S.length := by
    rcases Nat.lt_or_ge k S.length with h | h
    · exact h
    · rw [List.getElem?_eq_none h] at hSk; cases hSk
  have hown : w.ownsRow 0 e inf.size (.slice (some ⟨b, 0, none⟩) i C) i (cur.take (i * inf.size)) :=
    ⟨by rw [List.length_take, Nat.min_eq_left (by rw [hC]; exact Nat.mul_le_mul_right _ hiC)], .inr ⟨b, C, cur.toArray, rfl, Nat.zero_le _, hh, hiC, hCm, by simpa using hC, by simp⟩⟩
  obtain ⟨v', w', hrun, hown', hg, hbb⟩ := run_append_src (P := P) 0 t o.type e inf z ht hif hz hzs hpos _ i _ hown A m c2 news hl (fun j u hj => by
    obtain ⟨off, e1, e2⟩ := hnews j u hj
    exact ⟨b, off, e1, by simp [World.cell?, hh, e2]⟩) hone hle hbytes (Nat.zero_le _)
  obtain ⟨hR', hbut⟩ := hR.appendG (i := k) (B := some b) hlt hG hb.symm hown' hg hbb
  have hex : (execOp a.eval o).run P w = .ok (.value v') w' := by
    simp [execOp, hop, resolve, invoke, builtin, den_v h1, den_v h2, hrun]
  exact wp_of_value hex (hK _ _ _ _ hk ⟨_, hR', (hf.kill hbut).put (by simp [AV.den, Pc.den, CV.den, Env.set]) (by rw [hN]; exact hdst), (put_size a _ _).trans hN, (put_defers a _ _).trans hd⟩)
/-- append onto a row, of a part of a block whose content is known. -/
theorem op_app_from {t e : TypeId} {inf : TypeInfo} {z : Value} {s x : Operand} {A : Option Addr} {m c2 n : Nat} {xs : List Value} (k j ob size : Nat) (cur news : List Value) (hop : o.op = .call ⟨.builtin .append, #[s, x], #[t, t]⟩) (ht : P.underlying t = some (.slice e)) (hif : P.info? e = some inf) (hz : inf.zero = some z) (hzs : z.cells.size = inf.size) (hsz : inf.size = size) (hpos : 0 < size) (hbytes : inf.bytes ≤ 100000)
    (hs : f.ev s = .p (.c (.row j))) (hSj : S[j]? = some (.row e size n xs)) (hx : f.ev x = one (.slice A m c2)) (hSk : S[k]? = some (objOw ob (.cells cur.toArray e (0, 0)))) (hG : G.fix.length ≤ j) (hl : news.length = m * size) (hnews : ∀ (j : Nat) u, news[j]? = some u → ∃ off, A = some ⟨ob, off, none⟩ ∧ cur[off + j]? = some u) (hone : ∀ u ∈ news, u.oneCell' = true) (hle : n + m ≤ 1000000000) (hdst : dstOk N.n o.dst = true)
    (hk : K ((Fr.kill j f).put o.dst (.p (.c (.row j)))) ((killS j S).set j (.row e size (n + m) (xs ++ news)))) : OpS P w0 G N o f S K := by
  subst hsz
  refine ⟨fun r a w hR hf hN hd next Q hK => ?_⟩
  have h1 := hf.ev s
  have h2 := hf.ev x
  rw [hs] at h1; rw [hx] at h2
  obtain ⟨b, hb, ⟨rfl, hh⟩, _⟩ := hR.own k _ hSk
  obtain ⟨v, hv, hob, hown⟩ := hR.own j _ hSj
  have hux := den_row h1
  rw [hux] at hv; injection hv with hv; subst hv
  obtain ⟨v', w', hrun, hown', hg, hbb⟩ := run_append_src (P := P) 0 t o.type e inf z ht hif hz hzs hpos _ n xs hown A m c2 news hl (fun j u hj => by
    obtain ⟨off, e1, e2⟩ := hnews j u hj
    exact ⟨b, off, e1, by simp [World.cell?, hh, e2]⟩) hone hle hbytes (Nat.zero_le _)
  obtain ⟨hR', hbut⟩ := hR.append hSj hG hux hown' hg hbb
  have hex : (execOp a.eval o).run P w = .ok (.value v') w' := by
    simp [execOp, hop, resolve, invoke, builtin, den_v h2, hrun]
  exact wp_of_value hex (hK _ _ _ _ hk ⟨_, hR', (hf.kill hbut).put (by simp [AV.den, Pc.den, CV.den, Env.set]) (by rw [hN]; exact hdst), (put_size a _ _).trans hN, (put_defers a _ _).trans hd⟩)
end
end Go.Proofs.Ytmjfgnnefcimiaa
namespace Go.Proofs.Ytmjfgnnefcimiaa
open Go.RowKit

theorem op_slice_hi {P : Program} {w0 : World} {G : Gs} {N : Nd} {o : Oper} {f : Fr} {S : List Ow} {K : Fr → List Ow → Prop} {t e : TypeId} {i : TypeInfo} {x y : Operand} {q : IntKind} {A : Option Addr} {n c : Nat} (h : Nat) (hop : o.op = .slice t x none (some y) none) (ht : P.underlying t = some (.slice e)) (hif : P.info? e = some i) (hx : f.ev x = one (.slice A n c))
    (hy : f.ev y = one (.int q (h : Int))) (hhc : h ≤ c) (hdst : dstOk N.n o.dst = true) (hk : K (f.put o.dst (one (.slice A h c))) S) : OpS P w0 G N o f S K := by
  refine op_slice_v 0 h i.size hop ht hif rfl hx (.inl ⟨rfl, rfl⟩) (.inr ⟨y, q, rfl, hy⟩) (Nat.zero_le _) hhc hdst ?_
  have hA : (if c = 0 then A else A.map (·.add (0 * i.size))) = A := by
    split
    · rfl
    · cases A with
      | none => rfl
      | some p => simp [Addr.add]
  rw [hA]; exact hk
set_option maxRecDepth 100000 in
theorem made_walk (A : Option Addr) (n c : Nat) (xs : List Int) (w : World) (hs : SlAt w w.heap.size A (xs.map (.int .i64))) (hl : xs.length = n) (hnc : n ≤ c) :
    Calls Try.prog 15 #[.slice A n c] w fun e w' => ∃ b v1 v2 v3, MadeOk b ∧ e = .returned (.agg #[v1, v2, v3]) ∧ Rows3 w.heap.size w' v1 v2 v3 b ∧ Below w.heap.size w w' := by
  obtain ⟨h, hh, hh1, hh2⟩ : ∃ h : Nat, (if (150 : Int) < (n : Int) then (150 : Int) else (n : Int)) = (h : Int) ∧ h ≤ n ∧ h ≤ 150 := by
    by_cases hn : (150 : Int) < (n : Int)
    · exact ⟨150, by rw [if_pos hn]; rfl, by omega, by omega⟩
    · exact ⟨n, by rw [if_neg hn], by omega, by omega⟩
  refine calls_val [.slice A n c] Try.func15 Try.ntmps15 rfl (by simp) ?_
  conv => whnf
  refine op_min rfl rfl rfl rfl ?_
  rw [hh]
  conv => whnf
  refine op_slice_hi (q := .i64) h rfl rfl rfl rfl rfl (by omega) rfl ?_
  conv => whnf
  refine call_blk MadeOk (by kernel_rfl) (fun r w' us hR hd => ?_) fun b hb => ?_
  · obtain rfl := avals_den (xs := [.slice A h c]) rfl hd
    have hs' : SlAt w w.heap.size A ((xs.take h).map (.int .i64)) := fun j u hj => hs j u (by
      rw [List.map_take, List.getElem?_take] at hj
      split at hj
      · exact hj
      · cases hj)
    exact made15_walk A h c (xs.take h) w' (sl_later hs' hR.toBelow) (by rw [List.length_take]; omega) (by omega)
  conv => whnf
  exact fin_rows3 1 2 3 b (by omega) (by omega) (by omega) (.inl ⟨rfl, rfl⟩) (.inl ⟨rfl, rfl⟩) (.inl ⟨rfl, rfl⟩) fun w' v1 v2 v3 h3 hB => ⟨_, v1, v2, v3, hb, rfl, h3, hB⟩
set_option maxRecDepth 100000 in
theorem own_walk (b : Blk) (A1 A2 A3 : Option Addr) (c1 c2 c3 : Nat) (w : World) (hb : b.ok) (h1 : SlAt w w.heap.size A1 (b.at_.map (.int .u32))) (h2 : SlAt w w.heap.size A2 (b.pages.map (.int .i64))) (h3 : OpsAt w w.heap.size A3 b.ops) :
    Calls Try.prog 33 #[.agg #[.slice A1 b.at_.length c1, .slice A2 b.pages.length c2, .slice A3 b.ops.length c3]] w fun e w' => ∃ v1 v2 v3, e = .returned (.agg #[v1, v2, v3]) ∧ Rows3 w.heap.size w' v1 v2 v3 b ∧ Below w.heap.size w w' := by
  have old : ∀ {A : Option Addr} {xs : List Value}, SlAt w w.heap.size A xs → SlOld w Gs.nil A xs := fun h j u hj => by
    obtain ⟨bb, off, e1, e2, e3⟩ := h j u hj
    exact ⟨bb, off, e1, e2, by simp, e3⟩
  have hl1 := hb.lat
  have hl2 := hb.lpages
  have hl3 := hb.lops
  refine calls_val [.agg #[.slice A1 b.at_.length c1, .slice A2 b.pages.length c2, .slice A3 b.ops.length c3]] Try.func33 Try.ntmps33 rfl (by simp) ?_
  conv => whnf
  refine appK_sound rfl ?_ rfl
  conv => whnf
  refine ⟨b.at_.map (.int .u32), old h1, (List.length_map _).trans (Nat.mul_one _).symm, fun u hu => by obtain ⟨x, _, rfl⟩ := List.mem_map.1 hu; rfl, by omega, ?_⟩
  conv => whnf
  refine appK_sound rfl ?_ rfl
  conv => whnf
  refine ⟨b.pages.map (.int .i64), old h2, (List.length_map _).trans (Nat.mul_one _).symm, fun u hu => by obtain ⟨x, _, rfl⟩ := List.mem_map.1 hu; rfl, by omega, ?_⟩
  conv => whnf
  refine appK_sound rfl ?_ rfl
  conv => whnf
  refine ⟨b.ops.flatMap opC, old h3, ops_length _, ops_one _, by omega, ?_⟩
  conv => whnf
  exact fin_rows3 3 4 5 b (by omega) (by omega) (by omega) (.inl ⟨rfl, rfl⟩) (.inl ⟨rfl, rfl⟩) (.inl ⟨rfl, rfl⟩) fun w' v1 v2 v3 h3 hB => ⟨v1, v2, v3, rfl, h3, hB⟩
end Go.Proofs.Ytmjfgnnefcimiaa
namespace Go.Proofs.Ytmjfgnnefcimiaa
open Go.RowKit

theorem and_mask (x : Int) : 0 ≤ bits .and .i64 x 65535 ∧ bits .and .i64 x 65535 ≤ 65535 := by
  have h : (BitVec.ofInt 64 x &&& BitVec.ofInt 64 65535).toNat ≤ 65535 := by
    rw [BitVec.toNat_and]
    exact Nat.le_trans Nat.and_le_right (by decide)
  have e : bits .and .i64 x 65535 = IntKind.i64.wrap ((BitVec.ofInt 64 x &&& BitVec.ofInt 64 65535).toNat : Int) := rfl
  rw [e, wr64 (by omega)]
  omega
theorem ops_setField : ∀ {l : List BOp} {i : Nat} {o : BOp} (j : Nat) (u : Value) (o' : BOp), l[i]? = some o → j < 5 → opC o' = (opC o).set j u → (l.flatMap opC).set (i * 5 + j) u = (l.set i o').flatMap opC
  | [], i, o, j, u, o', h, _, _ => by simp at h
  | x :: l, 0, o, j, u, o', h, hj, he => by
    simp at h; subst h
    rw [Nat.zero_mul, Nat.zero_add, List.flatMap_cons, List.set_append_left _ _ (by rw [opC_length]; exact hj), ← he]
    simp
  | x :: l, i + 1, o, j, u, o', h, hj, he => by
    rw [List.flatMap_cons, show (i + 1) * 5 + j = (opC x).length + (i * 5 + j) by rw [opC_length]; omega, set_right, ops_setField j u o' (by simpa using h) hj he]
    simp
theorem ops_setF {l : List BOp} {i k : Nat} {o : BOp} (j : Nat) (u : Value) (o' : BOp) (hk : k = i * 5 + j) (h : l[i]? = some o) (hj : j < 5) (he : opC o' = (opC o).set j u) : setAll (l.flatMap opC) k [u] = (l.set i o').flatMap opC := by
  subst hk; exact ops_setField j u o' h hj he
theorem row_get {l : List BOp} {i k j : Nat} {o : BOp} {u : Value} (h : l[i]? = some o) (hu : (opC o)[j]? = some u) (hj : j < 5) (hk : k = i * 5 + j) : (List.map CV.v (List.flatMap opC l))[k]? = some (.v u) := by
  subst hk
  rw [List.getElem?_map, flat_at l i j o h hj, hu]; rfl
theorem ops_take : ∀ (l : List BOp) (k : Nat), (l.flatMap opC).take (k * 5) = (l.take k).flatMap opC
  | [], k => by simp
  | x :: l, 0 => by simp
  | x :: l, k + 1 => by
    rw [List.flatMap_cons, show (k + 1) * 5 = (opC x).length + k * 5 by rw [opC_length]; omega, List.take_length_add_append, ops_take l k]; simp
theorem ops_drop : ∀ (l : List BOp) (k : Nat), (l.flatMap opC).drop (k * 5) = (l.drop k).flatMap opC
  | [], k => by simp
  | x :: l, 0 => by simp
  | x :: l, k + 1 => by
    rw [List.flatMap_cons, show (k + 1) * 5 = (opC x).length + k * 5 by rw [opC_length]; omega, List.drop_length_add_append, ops_drop l k]; simp
theorem rel_as {w0 : World} {G : Gs} {S S2 : List Ow} {r : Env} {w : World} (h : Rel w0 G S r w) (hl : S2.length = S.length) (ho : ∀ (i : Nat) (o : Ow), S2[i]? = some o → o.holds r w i) : Rel w0 G S2 r w :=
  ⟨h.os, h.tape, h.output, h.size, h.old, ho, h.inj, h.new, fun i hi => h.outB i (by omega), fun i hi => h.outV i (by omega), h.first⟩
/-- A block's operations, looked at closer: where they lie. -/
theorem ops_conc {w0 : World} {G : Gs} {S : List Ow} {r : Env} {w : World} (h : Rel w0 G S r w) {n : Nat} {l : List BOp} (h5 : S[5]? = some (.row 53 5 n (l.flatMap opC))) (h6 : S[6]? = some (.cells 32 [.row 3, .row 4, .row 5])) (hn : 0 < n) :
    ∃ (ob C : Nat) (cur : List Value), n ≤ C ∧ C ≤ maxLen ∧ cur.length = C * 5 ∧ cur.take (n * 5) = l.flatMap opC ∧ Rel w0 G ((S.set 5 (objOw ob (.cells cur.toArray 53 (0, 0)))).set 6 (.cells 32 [.row 3, .row 4, .v (.slice (some ⟨ob, 0, none⟩) n C)])) r w := by
  obtain ⟨v, f1, f2, f3⟩ := h.own 5 _ h5
  obtain ⟨b, us, g1, g2, g3⟩ := h.own 6 _ h6
  simp only [denL, CV.den] at g3
  obtain ⟨u1, l1, rfl, e1, u2, l2, rfl, e2, u3, l3, rfl, e3, rfl⟩ := g3
  rw [e3] at f1; injection f1 with f1; subst f1
  rcases f3.2 with ⟨_, h0⟩ | ⟨ob, C, ⟨cur⟩, k1, _, k3, k4, k5, k6, k7⟩
  · omega
  · refine ⟨ob, C, cur, k4, k5, by simpa using k6, k7, rel_as h (by simp) fun i o ho => ?_⟩
    rw [List.getElem?_set] at ho
    split at ho
    · rename_i hi; subst hi
      split at ho
      · injection ho with ho; subst ho
        exact ⟨b, [u1, u2, u3], g1, g2, by simp only [denL, CV.den]; exact ⟨_, _, rfl, e1, _, _, rfl, e2, _, _, rfl, k1, rfl⟩⟩
      · cases ho
    · rw [List.getElem?_set] at ho
      split at ho
      · rename_i hi; subst hi
        split at ho
        · injection ho with ho; subst ho
          exact ⟨ob, by rw [← f2, k1]; rfl, ⟨rfl, k3⟩, fun w' hw => ⟨rfl, hw.trans k3⟩⟩
        · cases ho
      · exact h.own i o ho
structure TurnOk (b : Blk) : Prop where
  ok : b.ok
  l1 : b.at_.length ≤ 1000
  l2 : b.pages.length ≤ 1000
  l3 : b.ops.length ≤ 1000
theorem turn_ops {b : Blk} (h : TurnOk b) {l : List BOp} (hl : ∀ o ∈ l, o.ok) (hn : l.length ≤ 1000) : TurnOk ⟨b.at_, b.pages, l⟩ := ⟨⟨h.ok.at_, h.ok.pages, hl, h.ok.lat, h.ok.lpages, Nat.le_trans hn (by omega)⟩, h.l1, h.l2, hn⟩
theorem turn_set {b : Blk} (h : TurnOk b) (i : Nat) {o : BOp} (ho : o.ok) : TurnOk ⟨b.at_, b.pages, b.ops.set i o⟩ := turn_ops h (fun p hp => by
  rcases List.mem_or_eq_of_mem_set hp with hp | rfl
  · exact h.ok.ops p hp
  · exact ho) (by rw [List.length_set]; exact h.l3)
abbrev blkZ : Ow := .cells 32 [.v (.slice none 0 0), .v (.slice none 0 0), .v (.slice none 0 0)]
abbrev blkC : Ow := .cells 32 [.row 3, .row 4, .row 5]
set_option maxRecDepth 100000 in
theorem turned_walk (b : Blk) (A1 A2 A3 : Option Addr) (c1 c2 c3 : Nat) (q0 q1 q2 : Int) (w : World) (hb : b.ok) (hl1 : b.at_.length ≤ 900) (hl2 : b.pages.length ≤ 900) (hl3 : b.ops.length ≤ 900) (h1 : SlAt w w.heap.size A1 (b.at_.map (.int .u32))) (h2 : SlAt w w.heap.size A2 (b.pages.map (.int .i64))) (h3 : OpsAt w w.heap.size A3 b.ops) :
    Calls Try.prog 21 #[.agg #[.slice A1 b.at_.length c1, .slice A2 b.pages.length c2, .slice A3 b.ops.length c3], .agg #[.int .i64 q0, .int .i64 q1, .int .i64 q2]] w fun e w' => ∃ b' v1 v2 v3, TurnOk b' ∧ e = .returned (.agg #[v1, v2, v3]) ∧ Rows3 w.heap.size w' v1 v2 v3 b' ∧ Below w.heap.size w w' := by
  have hT : TurnOk b := ⟨hb, by omega, by omega, by omega⟩
  refine calls_satq [.agg #[.slice A1 b.at_.length c1, .slice A2 b.pages.length c2, .slice A3 b.ops.length c3], .agg #[.int .i64 q0, .int .i64 q1, .int .i64 q2]] Try.func21 Try.ntmps21 rfl (by simp) ?_
  refine satq_seq ?_
  conv => whnf
  refine satq_seq ?_
  conv => whnf
  refine call_blk (fun b' => b' = b) (by kernel_rfl) (fun r w' us hR hd => ?_) fun b' hb' => ?_
  · obtain rfl := avals_den (xs := [.agg #[.slice A1 b.at_.length c1, .slice A2 b.pages.length c2, .slice A3 b.ops.length c3]]) rfl hd
    refine (own_walk b A1 A2 A3 c1 c2 c3 w' hb (sl_later h1 hR.toBelow) (sl_later h2 hR.toBelow) (sl_later h3 hR.toBelow)).mono fun e w'' ⟨v1, v2, v3, he, hr, hB⟩ => ⟨b, v1, v2, v3, rfl, he, hr, hB⟩
  subst hb'
  conv => whnf
  refine satq_seq ?_
  conv => whnf
  refine ⟨fun _ => ?_, fun hne => ?_⟩
  · conv => whnf
    refine atq_ret ?_
    conv => whnf
    exact fin_rows3 3 4 5 b' (by omega) (by omega) (by omega) (.inl ⟨rfl, rfl⟩) (.inl ⟨rfl, rfl⟩) (.inl ⟨rfl, rfl⟩) fun w' v1 v2 v3 h3 hB => ⟨b', v1, v2, v3, hT, rfl, h3, hB⟩
  have hpos : 0 < b'.ops.length := by
    rcases Nat.eq_zero_or_pos b'.ops.length with h | h
    · rw [h] at hne; simp at hne
    · exact h
  conv => whnf
  refine satq_seq ?_
  conv => whnf
  refine ⟨⟨by omega, by omega⟩, ?_⟩
  conv => whnf
  obtain ⟨n, hn⟩ : ∃ n, bits .and .i64 q2 65535 = n := ⟨_, rfl⟩
  have hn0 := (and_mask q2).1
  have hn1 := (and_mask q2).2
  rw [hn] at hn0 hn1
  refine ⟨n, hn, ?_⟩
  conv => whnf
  refine satq_seq ?_
  conv => whnf
  refine ⟨⟨by omega, by omega⟩, ?_⟩
  conv => whnf
  obtain ⟨n1, hn1'⟩ : ∃ n1, bits .and .i64 q1 65535 = n1 := ⟨_, rfl⟩
  have hn10 := (and_mask q1).1
  rw [hn1'] at hn10
  refine ⟨n1, hn1', ?_⟩
  conv => whnf
  obtain ⟨i, hi, hil⟩ : ∃ i : Nat, n1.tmod (b'.ops.length : Int) = (i : Int) ∧ i < b'.ops.length := by
    have e1 := Int.tmod_nonneg (b'.ops.length : Int) hn10
    have e2 := Int.tmod_lt_of_pos n1 (b := (b'.ops.length : Int)) (by omega)
    exact ⟨(n1.tmod (b'.ops.length : Int)).toNat, by omega, by omega⟩
  refine ⟨by omega, (i : Int), hi, ?_⟩
  conv => whnf
  obtain ⟨o, ho⟩ : ∃ o, b'.ops[i]? = some o := ⟨_, List.getElem?_eq_getElem hil⟩
  have hoo : o.ok := hb.ops o (List.mem_of_getElem? ho)
  refine satq_mid (α := { y : Blk // TurnOk y }) (fun y => [(4, .p (.c (.ref 2 0))), (5, .p (.c (.ref 6 0)))]) (fun y => [.gone, .gone, blkZ] ++ blkRows y.1 ++ [blkC]) ?_ fun y => ?_
  · refine satq_seq ?_
    conv => whnf
    refine ⟨⟨by omega, by omega⟩, ?_⟩
    conv => whnf
    refine ⟨by omega, _, rfl, ?_⟩
    conv => whnf
    refine ⟨_, rfl, ?_⟩
    conv => whnf
    refine ⟨by omega, _, rfl, ?_⟩
    conv => whnf
    have m28 : 0 ≤ n.tmod 28 ∧ n.tmod 28 < 28 := ⟨Int.tmod_nonneg _ hn0, Int.tmod_lt_of_pos _ (by omega)⟩
    have m30 : 0 ≤ n.tmod 30 ∧ n.tmod 30 < 30 := ⟨Int.tmod_nonneg _ hn0, Int.tmod_lt_of_pos _ (by omega)⟩
    refine satq_block ?_
    refine satq_seq ?_
    conv => whnf
    refine satq_cond rfl (fun _ => ?_) (fun _ => ?_)
    · refine satq_vc ?_
      conv => whnf
      refine ⟨by omega, _, rfl, ?_⟩
      conv => whnf
      refine ⟨⟨by omega, by omega⟩, ?_⟩
      conv => whnf
      refine ⟨?_, ?_⟩
      · show (i : Int).toNat * 5 + 0 + 1 ≤ (b'.ops.flatMap opC).length
        rw [ops_length, Int.toNat_natCast]; omega
      conv => whnf
      refine atq_block ?_
      exact atq_mid ⟨⟨b'.at_, b'.pages, b'.ops.set i (⟨n.tmod 28, o.d, o.a, o.b, o.n⟩ : BOp)⟩, turn_set hT i ⟨mid_small (by dsimp only; omega), hoo.d, hoo.a, hoo.b, hoo.n⟩⟩ (ent_drop (And.intro (rfl) (And.intro (rfl) trivial)) (And.intro ((by trivial)) (And.intro ((by trivial)) (And.intro ((And.intro rfl (Or.inl rfl))) (And.intro ((And.intro rfl (And.intro rfl (And.intro (rfl) (rfl))))) (And.intro ((And.intro rfl (And.intro rfl (And.intro (rfl) (rfl))))) (And.intro ((And.intro rfl (And.intro rfl (And.intro ((List.length_set).symm) (by exact ops_setF (l := b'.ops) (i := i) (o := o) 0 (.int .i64 (n.tmod 28)) (⟨n.tmod 28, o.d, o.a, o.b, o.n⟩ : BOp) (by rw [Int.toNat_natCast]; rfl) ho (by omega) rfl))))) (And.intro ((And.intro rfl (Or.inl rfl))) trivial))))))) rfl rfl)
    refine satq_seq ?_
    conv => whnf
    refine satq_cond rfl (fun _ => ?_) (fun _ => ?_)
    · refine satq_vc ?_
      conv => whnf
      refine ⟨by omega, _, rfl, ?_⟩
      conv => whnf
      refine ⟨_, wr64 (by omega), ?_⟩
      conv => whnf
      refine ⟨⟨by omega, by omega⟩, ?_⟩
      conv => whnf
      refine ⟨?_, ?_⟩
      · show (i : Int).toNat * 5 + 1 + 1 ≤ (b'.ops.flatMap opC).length
        rw [ops_length, Int.toNat_natCast]; omega
      conv => whnf
      refine atq_block ?_
      exact atq_mid ⟨⟨b'.at_, b'.pages, b'.ops.set i (⟨o.code, n.tmod 30 - 1, o.a, o.b, o.n⟩ : BOp)⟩, turn_set hT i ⟨hoo.code, mid_small (by dsimp only; omega), hoo.a, hoo.b, hoo.n⟩⟩ (ent_drop (And.intro (rfl) (And.intro (rfl) trivial)) (And.intro ((by trivial)) (And.intro ((by trivial)) (And.intro ((And.intro rfl (Or.inl rfl))) (And.intro ((And.intro rfl (And.intro rfl (And.intro (rfl) (rfl))))) (And.intro ((And.intro rfl (And.intro rfl (And.intro (rfl) (rfl))))) (And.intro ((And.intro rfl (And.intro rfl (And.intro ((List.length_set).symm) (by exact ops_setF (l := b'.ops) (i := i) (o := o) 1 (.int .i64 (n.tmod 30 - 1)) (⟨o.code, n.tmod 30 - 1, o.a, o.b, o.n⟩ : BOp) (by rw [Int.toNat_natCast]; rfl) ho (by omega) rfl))))) (And.intro ((And.intro rfl (Or.inl rfl))) trivial))))))) rfl rfl)
    refine satq_seq ?_
    conv => whnf
    refine satq_cond rfl (fun _ => ?_) (fun _ => ?_)
    · refine satq_vc ?_
      conv => whnf
      refine ⟨by omega, _, rfl, ?_⟩
      conv => whnf
      refine ⟨_, wr64 (by omega), ?_⟩
      conv => whnf
      refine ⟨⟨by omega, by omega⟩, ?_⟩
      conv => whnf
      refine ⟨?_, ?_⟩
      · show (i : Int).toNat * 5 + 2 + 1 ≤ (b'.ops.flatMap opC).length
        rw [ops_length, Int.toNat_natCast]; omega
      conv => whnf
      refine atq_block ?_
      exact atq_mid ⟨⟨b'.at_, b'.pages, b'.ops.set i (⟨o.code, o.d, n.tmod 30 - 1, o.b, o.n⟩ : BOp)⟩, turn_set hT i ⟨hoo.code, hoo.d, mid_small (by dsimp only; omega), hoo.b, hoo.n⟩⟩ (ent_drop (And.intro (rfl) (And.intro (rfl) trivial)) (And.intro ((by trivial)) (And.intro ((by trivial)) (And.intro ((And.intro rfl (Or.inl rfl))) (And.intro ((And.intro rfl (And.intro rfl (And.intro (rfl) (rfl))))) (And.intro ((And.intro rfl (And.intro rfl (And.intro (rfl) (rfl))))) (And.intro ((And.intro rfl (And.intro rfl (And.intro ((List.length_set).symm) (by exact ops_setF (l := b'.ops) (i := i) (o := o) 2 (.int .i64 (n.tmod 30 - 1)) (⟨o.code, o.d, n.tmod 30 - 1, o.b, o.n⟩ : BOp) (by rw [Int.toNat_natCast]; rfl) ho (by omega) rfl))))) (And.intro ((And.intro rfl (Or.inl rfl))) trivial))))))) rfl rfl)
    refine satq_seq ?_
    conv => whnf
    refine satq_cond rfl (fun _ => ?_) (fun _ => ?_)
    · refine satq_vc ?_
      conv => whnf
      refine ⟨by omega, _, rfl, ?_⟩
      conv => whnf
      refine ⟨_, wr64 (by omega), ?_⟩
      conv => whnf
      refine ⟨⟨by omega, by omega⟩, ?_⟩
      conv => whnf
      refine ⟨?_, ?_⟩
      · show (i : Int).toNat * 5 + 3 + 1 ≤ (b'.ops.flatMap opC).length
        rw [ops_length, Int.toNat_natCast]; omega
      conv => whnf
      refine atq_block ?_
      exact atq_mid ⟨⟨b'.at_, b'.pages, b'.ops.set i (⟨o.code, o.d, o.a, n.tmod 30 - 1, o.n⟩ : BOp)⟩, turn_set hT i ⟨hoo.code, hoo.d, hoo.a, mid_small (by dsimp only; omega), hoo.n⟩⟩ (ent_drop (And.intro (rfl) (And.intro (rfl) trivial)) (And.intro ((by trivial)) (And.intro ((by trivial)) (And.intro ((And.intro rfl (Or.inl rfl))) (And.intro ((And.intro rfl (And.intro rfl (And.intro (rfl) (rfl))))) (And.intro ((And.intro rfl (And.intro rfl (And.intro (rfl) (rfl))))) (And.intro ((And.intro rfl (And.intro rfl (And.intro ((List.length_set).symm) (by exact ops_setF (l := b'.ops) (i := i) (o := o) 3 (.int .i64 (n.tmod 30 - 1)) (⟨o.code, o.d, o.a, n.tmod 30 - 1, o.n⟩ : BOp) (by rw [Int.toNat_natCast]; rfl) ho (by omega) rfl))))) (And.intro ((And.intro rfl (Or.inl rfl))) trivial))))))) rfl rfl)
    refine satq_seq ?_
    conv => whnf
    refine satq_cond rfl (fun _ => ?_) (fun _ => ?_)
    · refine satq_vc ?_
      refine sat_tail 16 mixed (by kernel_rfl) ?_
      conv => whnf
      refine ⟨⟨by omega, by omega⟩, ?_⟩
      conv => whnf
      rw [row_get (j := 4) ho rfl (by omega)]
      rotate_left
      · rw [Int.toNat_natCast]; rfl
      conv => whnf
      refine ⟨by omega, _, rfl, ?_⟩
      conv => whnf
      refine ⟨_, wr32 _, ?_⟩
      conv => whnf
      refine ⟨_, wr32 _, ?_⟩
      conv => whnf
      refine ⟨_, wr32 _, ?_⟩
      conv => whnf
      refine ⟨⟨by omega, by omega⟩, ?_⟩
      conv => whnf
      refine ⟨?_, ?_⟩
      · show (i : Int).toNat * 5 + 4 + 1 ≤ (b'.ops.flatMap opC).length
        rw [ops_length, Int.toNat_natCast]; omega
      conv => whnf
      refine atq_block ?_
      exact atq_mid ⟨⟨b'.at_, b'.pages, b'.ops.set i (⟨o.code, o.d, o.a, o.b, (((o.n + n.tmod 3 % 4294967296) % 4294967296 - 1) % 4294967296)⟩ : BOp)⟩, turn_set hT i ⟨hoo.code, hoo.d, hoo.a, hoo.b, word_mod _⟩⟩ (ent_drop (And.intro (rfl) (And.intro (rfl) trivial)) (And.intro ((by trivial)) (And.intro ((by trivial)) (And.intro ((And.intro rfl (Or.inl rfl))) (And.intro ((And.intro rfl (And.intro rfl (And.intro (rfl) (rfl))))) (And.intro ((And.intro rfl (And.intro rfl (And.intro (rfl) (rfl))))) (And.intro ((And.intro rfl (And.intro rfl (And.intro ((List.length_set).symm) (by exact ops_setF (l := b'.ops) (i := i) (o := o) 4 (.int .u32 (((o.n + n.tmod 3 % 4294967296) % 4294967296 - 1) % 4294967296)) (⟨o.code, o.d, o.a, o.b, (((o.n + n.tmod 3 % 4294967296) % 4294967296 - 1) % 4294967296)⟩ : BOp) (by rw [Int.toNat_natCast]; rfl) ho (by omega) rfl))))) (And.intro ((And.intro rfl (Or.inl rfl))) trivial))))))) rfl rfl)
    refine satq_seq ?_
    conv => whnf
    refine satq_cond rfl (fun _ => ?_) (fun _ => ?_)
    · refine satq_conc fun r w' hR => ?_
      obtain ⟨ob, C, cur, k1, k2, k3, k4, hR2⟩ := ops_conc hR (l := b'.ops) rfl rfl hpos
      refine ⟨_, _, hR2, fun a ha => ha, ?_⟩
      clear hR hR2
      have hxs : ∀ (j : Nat) (u : Value), (b'.ops.flatMap opC)[j]? = some u → cur[j]? = some u := fun j u hj => by
        rw [← k4, List.getElem?_take] at hj
        split at hj
        · exact hj
        · cases hj
      refine satq_seq ?_
      conv => whnf
      refine ⟨((i + 1 : Nat) : Int), by rw [wr64 (by omega)]; omega, ?_⟩
      conv => whnf
      refine op_slice_v (i + 1) b'.ops.length 5 rfl rfl rfl rfl rfl (.inr ⟨_, .i64, rfl, rfl⟩) (.inl ⟨rfl, rfl⟩) (by omega) k1 rfl ?_
      conv => whnf
      refine satq_vc ?_
      conv => whnf
      refine op_slice_hi (q := .i64) i rfl rfl rfl rfl rfl (by omega) rfl ?_
      conv => whnf
      refine op_app_obj 5 ob i C 5 cur ((b'.ops.drop (i + 1)).flatMap opC) rfl rfl rfl rfl rfl rfl (by omega) (by decide) rfl rfl rfl (Nat.zero_le _) k3 (by omega) k2 (by rw [ops_length, List.length_drop]) (fun j u hj => ?_) (ops_one _) (by omega) rfl ?_
      · rw [← ops_drop, List.getElem?_drop] at hj
        have hlt : (i + 1) * 5 + j < b'.ops.length * 5 := by
          rcases Nat.lt_or_ge ((i + 1) * 5 + j) (b'.ops.length * 5) with h | h
          · exact h
          · rw [List.getElem?_eq_none (by rw [ops_length]; omega)] at hj; cases hj
        rw [if_neg (by omega)]
        exact ⟨(i + 1) * 5, by rw [Option.map_some, addr_add, Nat.zero_add], hxs _ _ hj⟩
      conv => whnf
      refine atq_block ?_
      have e0 : cur.take (i * 5) = (b'.ops.take i).flatMap opC := by rw [← ops_take, ← k4, List.take_take, Nat.min_eq_left (by omega)]
      exact atq_mid ⟨⟨b'.at_, b'.pages, b'.ops.take i ++ b'.ops.drop (i + 1)⟩, turn_ops hT (fun p hp => by
        rcases List.mem_append.1 hp with hp | hp
        · exact hb.ops p (List.mem_of_mem_take hp)
        · exact hb.ops p (List.mem_of_mem_drop hp)) (by simp; omega)⟩ (ent_drop (And.intro (rfl) (And.intro (rfl) trivial)) (And.intro ((by trivial)) (And.intro ((by trivial)) (And.intro ((And.intro rfl (Or.inl rfl))) (And.intro ((And.intro rfl (And.intro rfl (And.intro (rfl) (rfl))))) (And.intro ((And.intro rfl (And.intro rfl (And.intro (rfl) (rfl))))) (And.intro ((And.intro rfl (And.intro rfl (And.intro (by simp; omega) (by rw [e0]; simp))))) (And.intro ((And.intro rfl (Or.inl rfl))) trivial))))))) rfl rfl)
    refine satq_seq ?_
    conv => whnf
    refine satq_cond rfl (fun _ => ?_) (fun _ => ?_)
    · refine satq_seq ?_
      conv => whnf
      refine ⟨⟨by omega, by omega⟩, ?_⟩
      conv => whnf
      rw [cut_ops ho]
      rotate_left
      · rw [Int.toNat_natCast]; rfl
      · rfl
      conv => whnf
      refine satq_conc fun r w' hR => ?_
      obtain ⟨ob, C, cur, k1, k2, k3, k4, hR2⟩ := ops_conc hR (l := b'.ops) rfl rfl hpos
      refine ⟨_, _, hR2, fun a ha => ha, ?_⟩
      clear hR hR2
      have hxs : ∀ (j : Nat) (u : Value), (b'.ops.flatMap opC)[j]? = some u → cur[j]? = some u := fun j u hj => by
        rw [← k4, List.getElem?_take] at hj
        split at hj
        · exact hj
        · cases hj
      refine satq_seq ?_
      conv => whnf
      refine satq_as (ent_row 10 53 5 rfl) ?_
      refine satq_seq ?_
      conv => whnf
      refine op_slice_hi (q := .i64) i rfl rfl rfl rfl rfl (by omega) rfl ?_
      conv => whnf
      refine op_app_from 5 8 ob 5 cur ((b'.ops.take i).flatMap opC) rfl rfl rfl rfl rfl rfl (by omega) (by decide) rfl rfl rfl rfl (Nat.zero_le _) (by rw [ops_length, List.length_take, Nat.min_eq_left (by omega)]) (fun j u hj => ?_) (ops_one _) (by omega) rfl ?_
      · rw [← ops_take, List.getElem?_take] at hj
        split at hj
        · exact ⟨0, rfl, by rw [Nat.zero_add]; exact hxs _ _ hj⟩
        · cases hj
      conv => whnf
      refine satq_seq ?_
      conv => whnf
      refine appK_sound rfl ?_ rfl
      conv => whnf
      refine ⟨by omega, ?_⟩
      conv => whnf
      refine satq_vc ?_
      conv => whnf
      refine op_slice_v i b'.ops.length 5 rfl rfl rfl rfl rfl (.inr ⟨_, .i64, rfl, rfl⟩) (.inl ⟨rfl, rfl⟩) (by omega) k1 rfl ?_
      conv => whnf
      refine op_app_from 5 8 ob 5 cur ((b'.ops.drop i).flatMap opC) rfl rfl rfl rfl rfl rfl (by omega) (by decide) rfl rfl rfl rfl (Nat.zero_le _) (by rw [ops_length, List.length_drop]) (fun j u hj => ?_) (ops_one _) (by omega) rfl ?_
      · rw [← ops_drop, List.getElem?_drop] at hj
        rw [if_neg (by omega)]
        exact ⟨i * 5, by rw [Option.map_some, addr_add, Nat.zero_add], hxs _ _ hj⟩
      conv => whnf
      refine atq_block ?_
      exact atq_mid ⟨⟨b'.at_, b'.pages, b'.ops.take i ++ o :: b'.ops.drop i⟩, turn_ops hT (fun p hp => by
        rcases List.mem_append.1 hp with hp | hp
        · exact hb.ops p (List.mem_of_mem_take hp)
        · rcases List.mem_cons.1 hp with rfl | hp
          · exact hoo
          · exact hb.ops p (List.mem_of_mem_drop hp)) (by simp; omega)⟩
        (ent_ren [0, 1, 2, 3, 4, 8, 6] (And.intro (rfl) (And.intro (rfl) trivial)) (And.intro ((Exists.intro _ (And.intro rfl (by trivial)))) (And.intro ((Exists.intro _ (And.intro rfl (by trivial)))) (And.intro ((Exists.intro _ (And.intro rfl (And.intro rfl (Or.inl rfl))))) (And.intro ((Exists.intro _ (And.intro rfl (And.intro rfl (And.intro rfl (And.intro (rfl) (rfl))))))) (And.intro ((Exists.intro _ (And.intro rfl (And.intro rfl (And.intro rfl (And.intro (rfl) (rfl))))))) (And.intro ((Exists.intro _ (And.intro rfl (And.intro rfl (And.intro rfl (And.intro (by simp; omega) (by simp [opC]))))))) (And.intro ((Exists.intro _ (And.intro rfl (And.intro rfl (Or.inl rfl))))) trivial))))))) rfl rfl rfl rfl rfl)
    refine satq_seq ?_
    conv => whnf
    refine satq_cond rfl (fun _ => ?_) (fun _ => ?_)
    · refine satq_seq ?_
      conv => whnf
      obtain ⟨k, hk, hkl⟩ : ∃ k : Nat, n.tmod (b'.ops.length : Int) = (k : Int) ∧ k < b'.ops.length := by
        have e1 := Int.tmod_nonneg (b'.ops.length : Int) hn0
        have e2 := Int.tmod_lt_of_pos n (b := (b'.ops.length : Int)) (by omega)
        exact ⟨(n.tmod (b'.ops.length : Int)).toNat, by omega, by omega⟩
      obtain ⟨o2, ho2⟩ : ∃ o, b'.ops[k]? = some o := ⟨_, List.getElem?_eq_getElem hkl⟩
      refine ⟨by omega, (k : Int), hk, ?_⟩
      conv => whnf
      refine satq_seq ?_
      conv => whnf
      refine ⟨⟨by omega, by omega⟩, ?_⟩
      conv => whnf
      rw [cut_ops ho]
      rotate_left
      · rw [Int.toNat_natCast]; rfl
      · rfl
      conv => whnf
      refine satq_vc ?_
      conv => whnf
      refine sat_tail 9 mixed (by kernel_rfl) ?_
      conv => whnf
      refine ⟨⟨by omega, by omega⟩, ?_⟩
      conv => whnf
      rw [cut_ops ho2]
      rotate_left
      · rw [Int.toNat_natCast]; rfl
      · rfl
      conv => whnf
      refine ⟨⟨by omega, by omega⟩, ?_⟩
      conv => whnf
      refine ⟨?_, ?_⟩
      · show (i : Int).toNat * 5 + 5 ≤ (b'.ops.flatMap opC).length
        rw [ops_length, Int.toNat_natCast]; omega
      conv => whnf
      refine ⟨⟨by omega, by omega⟩, ?_⟩
      conv => whnf
      refine ⟨?_, ?_⟩
      · show (k : Int).toNat * 5 + 5 ≤ (setAll (b'.ops.flatMap opC) ((i : Int).toNat * 5) (opC o2)).length
        rw [setAll_length, ops_length, Int.toNat_natCast]; omega
      conv => whnf
      refine atq_block ?_
      have e1 : setAll (List.flatMap opC b'.ops) ((i : Int).toNat * 5) (opC o2) = (b'.ops.set i o2).flatMap opC := ops_setAt (l := b'.ops) o2 (congrArg (· * 5) (Int.toNat_natCast i)) hil
      have e2 : setAll (setAll (List.flatMap opC b'.ops) ((i : Int).toNat * 5) (opC o2)) ((k : Int).toNat * 5) (opC o) = ((b'.ops.set i o2).set k o).flatMap opC := by
        rw [e1]; exact ops_setAt (l := b'.ops.set i o2) o (congrArg (· * 5) (Int.toNat_natCast k)) (by rw [List.length_set]; exact hkl)
      exact atq_mid ⟨⟨b'.at_, b'.pages, (b'.ops.set i o2).set k o⟩, turn_set (turn_set hT i (hb.ops o2 (List.mem_of_getElem? ho2))) k hoo⟩ (ent_drop (And.intro (rfl) (And.intro (rfl) trivial)) (And.intro ((by trivial)) (And.intro ((by trivial)) (And.intro ((And.intro rfl (Or.inl rfl))) (And.intro ((And.intro rfl (And.intro rfl (And.intro (rfl) (rfl))))) (And.intro ((And.intro rfl (And.intro rfl (And.intro (rfl) (rfl))))) (And.intro ((And.intro rfl (And.intro rfl (And.intro (by simp) (e2))))) (And.intro ((And.intro rfl (Or.inl rfl))) trivial))))))) rfl rfl)
    refine satq_seq ?_
    conv => whnf
    refine satq_cond rfl (fun _ => ?_) (fun _ => ?_)
    · refine satq_vc ?_
      conv => whnf
      refine ⟨_, wr32 _, ?_⟩
      conv => whnf
      refine appK_sound rfl ?_ rfl
      conv => whnf
      refine ⟨by omega, ?_⟩
      conv => whnf
      refine atq_block ?_
      exact atq_mid ⟨⟨b'.at_ ++ [n % 4294967296], b'.pages, b'.ops⟩, ⟨⟨fun x hx => by
        rcases List.mem_append.1 hx with hx | hx
        · exact hb.at_ x hx
        · simp at hx; subst hx; exact word_mod _, hb.pages, hb.ops, by simp; omega, hb.lpages, hb.lops⟩, by simp; omega, by show b'.pages.length ≤ _; omega, by show b'.ops.length ≤ _; omega⟩⟩ (ent_drop (And.intro (rfl) (And.intro (rfl) trivial)) (And.intro ((by trivial)) (And.intro ((by trivial)) (And.intro ((And.intro rfl (Or.inl rfl))) (And.intro ((And.intro rfl (And.intro rfl (And.intro (by simp) (by simp))))) (And.intro ((And.intro rfl (And.intro rfl (And.intro (rfl) (rfl))))) (And.intro ((And.intro rfl (And.intro rfl (And.intro (rfl) (rfl))))) (And.intro ((And.intro rfl (Or.inl rfl))) trivial))))))) rfl rfl)
    refine satq_seq ?_
    conv => whnf
    refine satq_cond rfl (fun _ => ?_) (fun _ => ?_)
    · refine satq_vc ?_
      conv => whnf
      have m5 : 0 ≤ n.tmod 5000 ∧ n.tmod 5000 < 5000 := ⟨Int.tmod_nonneg _ hn0, Int.tmod_lt_of_pos _ (by omega)⟩
      refine ⟨by omega, _, rfl, ?_⟩
      conv => whnf
      refine ⟨_, wr64 (by omega), ?_⟩
      conv => whnf
      refine appK_sound rfl ?_ rfl
      conv => whnf
      refine ⟨by omega, ?_⟩
      conv => whnf
      refine atq_block ?_
      exact atq_mid ⟨⟨b'.at_, b'.pages ++ [n.tmod 5000 - 400], b'.ops⟩, ⟨⟨hb.at_, fun x hx => by
        rcases List.mem_append.1 hx with hx | hx
        · exact hb.pages x hx
        · simp at hx; subst hx; unfold mid; omega, hb.ops, hb.lat, by simp; omega, hb.lops⟩, by show b'.at_.length ≤ _; omega, by simp; omega, by show b'.ops.length ≤ _; omega⟩⟩ (ent_drop (And.intro (rfl) (And.intro (rfl) trivial)) (And.intro ((by trivial)) (And.intro ((by trivial)) (And.intro ((And.intro rfl (Or.inl rfl))) (And.intro ((And.intro rfl (And.intro rfl (And.intro (rfl) (rfl))))) (And.intro ((And.intro rfl (And.intro rfl (And.intro (by simp) (by simp))))) (And.intro ((And.intro rfl (And.intro rfl (And.intro (rfl) (rfl))))) (And.intro ((And.intro rfl (Or.inl rfl))) trivial))))))) rfl rfl)
    · refine satq_vc ?_
      refine sat_tail 8 mixed (by kernel_rfl) ?_
      conv => whnf
      refine ⟨_, wr64 (by omega), ?_⟩
      conv => whnf
      obtain ⟨k, hk, hkl⟩ : ∃ k : Nat, n.tmod ((b'.at_.length : Int) + 1) = (k : Int) ∧ k ≤ b'.at_.length := by
        have e1 := Int.tmod_nonneg ((b'.at_.length : Int) + 1) hn0
        have e2 := Int.tmod_lt_of_pos n (b := ((b'.at_.length : Int) + 1)) (by omega)
        exact ⟨(n.tmod ((b'.at_.length : Int) + 1)).toNat, by omega, by omega⟩
      refine ⟨by omega, (k : Int), hk, ?_⟩
      conv => whnf
      refine op_reslice (size := 1) 3 k rfl rfl rfl rfl rfl rfl (q := .i64) rfl hkl (Nat.zero_le _) rfl ?_
      conv => whnf
      refine atq_block ?_
      exact atq_mid ⟨⟨b'.at_.take k, b'.pages, b'.ops⟩, ⟨⟨fun x hx => hb.at_ x (List.mem_of_mem_take hx), hb.pages, hb.ops, by rw [List.length_take]; omega, hb.lpages, hb.lops⟩, by show (b'.at_.take k).length ≤ _; rw [List.length_take]; omega, by show b'.pages.length ≤ _; omega, by show b'.ops.length ≤ _; omega⟩⟩ (ent_drop (And.intro (rfl) (And.intro (rfl) trivial)) (And.intro ((by trivial)) (And.intro ((by trivial)) (And.intro ((And.intro rfl (Or.inl rfl))) (And.intro ((And.intro rfl (And.intro rfl (And.intro (by simp; omega) (by simp))))) (And.intro ((And.intro rfl (And.intro rfl (And.intro (rfl) (rfl))))) (And.intro ((And.intro rfl (And.intro rfl (And.intro (rfl) (rfl))))) (And.intro ((And.intro rfl (Or.inl rfl))) trivial))))))) rfl rfl)
  obtain ⟨y, hy⟩ := y
  dsimp only
  refine satq_vc ?_
  conv => whnf
  refine atq_ret ?_
  conv => whnf
  exact fin_rows3 3 4 5 y (by omega) (by omega) (by omega) (.inl ⟨rfl, rfl⟩) (.inl ⟨rfl, rfl⟩) (.inl ⟨rfl, rfl⟩) fun w' v1 v2 v3 h3 hB => ⟨y, v1, v2, v3, hy, rfl, h3, hB⟩
end Go.Proofs.Ytmjfgnnefcimiaa
namespace Go.Proofs.Ytmjfgnnefcimiaa
open Go.RowKit
def guardU (ops : Array Oper) (f : Fr) (o : Oper) : Option Bool := match o.guard with
  | none => some true
  | some (j, pol) => (match slotOf ops j with
    | some d => (match f.get d with
      | .p (.c (.v (.bool x))) => some (x == pol)
      | .p (.c (.v (.tuple _))) => some false
      | _ => none)
    | none => none)
def guardedU (P : Program) (W : World) (G : Gs) (N : Nd) (ops : Array Oper) : List Oper → Fr → List Ow → (Fr → List Ow → Prop) → Prop
  | [], f, S, K => K f S
  | o :: l, f, S, K => match o.guard with
    | none => opK P W G N o f S fun f' S' => guardedU P W G N ops l f' S' K
    | some _ => (match guardU ops f o with
    | some x => (x = true → opK P W G N o f S fun f' S' => guardedU P W G N ops l f' S' K) ∧ (x = false → (match dstOk N.n o.dst with
      | true => f.putK o.dst (one undef) fun f' => guardedU P W G N ops l f' S K
      | false => False))
    | none => False)
section
variable {P : Program} {w0 : World} {G : Gs} {N : Nd} {c d : Code} {f : Fr} {S : List Ow} {Q : Exit → Act → World → Prop}
theorem guardU_wanted {ops : Array Oper} {r : Env} {a : Act} {o : Oper} {x : Bool} (hf : FDen r f a) (h : guardU ops f o = some x) : Region.wanted o (yielded ops a.tmps) = x := by
  unfold guardU at h
  split at h
  · rename_i hg; injection h with h; subst h; exact wanted_none hg _
  · rename_i j pol hg
    split at h
    · rename_i d hs
      split at h
      · rename_i y hy
        injection h with h; subst h
        rw [wanted_some hg, yielded_of hf hs hy]
        cases y <;> cases pol <;> rfl
      · rename_i vs hy
        injection h with h; subst h
        rw [wanted_some hg]
        have hv := hf d
        rw [hy] at hv
        have hv := den_v hv
        unfold slotOf at hs
        have : yielded ops a.tmps j = none := by
          unfold yielded
          rw [hs]
          show (match a.tmps[d]? with | some (.bool b) => some b | _ => none) = none
          rw [Array.getD_eq_getD_getElem?] at hv
          cases hd : a.tmps[d]? with
          | none => rfl
          | some v =>
            rw [hd] at hv
            simp at hv; subst hv; rfl
        rw [this]
        cases pol <;> rfl
      · cases h
    · cases h
theorem guardedU_sound {ops : Array Oper} {Q : Act → World → Prop} : ∀ (l : List Oper) (f : Fr) (S : List Ow) (K : Fr → List Ow → Prop), guardedU P w0 G N ops l f S K → (∀ f' S' a' w', K f' S' → Good w0 G N f' S' a' w' → Q a' w') →
    ∀ a w, Good w0 G N f S a w → seL P ops Q l a w
  | [], f, S, K, h, hK, a, w, hg => hK _ _ _ _ h hg
  | o :: l, f, S, K, h, hK, a, w, hg => by
    obtain ⟨r, hR, hf, hN, hd⟩ := hg
    unfold guardedU at h
    split at h
    · rename_i hg
      unfold seL
      rw [if_pos (wanted_none hg _)]
      exact (opK_sound h).out r a w hR hf hN hd _ (fun _ _ _ => True) fun f' S' a' w' hk hg' => guardedU_sound l f' S' K hk hK a' w' hg'
    rename_i _ _ _
    split at h
    · rename_i x hgd
      have hw := guardU_wanted hf hgd
      cases x with
      | true =>
        unfold seL
        rw [if_pos hw]
        exact (opK_sound (h.1 rfl)).out r a w hR hf hN hd _ (fun _ _ _ => True) fun f' S' a' w' hk hg' => guardedU_sound l f' S' K hk hK a' w' hg'
      | false =>
        have h := h.2 rfl
        split at h
        · rename_i hdst
          have hk := putK_iff.1 h
          unfold seL
          rw [if_neg (by rw [hw]; decide)]
          exact guardedU_sound l _ S K hk hK _ w ⟨r, hR, hf.put (den_one _ _) (by rw [hN]; exact hdst), (put_size a _ _).trans hN, (put_defers a _ _).trans hd⟩
        · exact h.elim
    · exact h.elim
/-- A return out of blocks and loops. -/
theorem atq_up {Q' : Exit → Act → World → Prop} (h : AtQ w0 G N .ret f S Q) (hQ : ∀ a w, Q .ret a w → Q' .ret a w) : AtQ w0 G N .ret f S Q' := ⟨fun a w hg => hQ a w (h.out a w hg)⟩
theorem satq_regionU {id : Nat} {ops : Array Oper} (h : guardedU P w0 G N ops ops.toList f S fun f' S' => AtQ w0 G N .normal f' S' Q) : SatQ P w0 G N (.region id ops false) f S Q :=
  ⟨fun a w hg => wpIn_region_list (seL_wpIn none 10 (guardedU_sound _ f S _ h (fun _f' _S' a' w' hk hg' => hk.out a' w' hg') a w hg))⟩
end
end Go.Proofs.Ytmjfgnnefcimiaa
namespace Go.Proofs.Ytmjfgnnefcimiaa
open Go.RowKit

/-- Whether a variable is live before the first of these operations. -/
def liveAtL : List BOp → Int → Bool
  | [], _ => false
  | o :: l, v => if memI v (reads o) || (observesB o && decide (v < 19)) then true else if writes o == v then false else liveAtL l v
def neededL : List BOp → Bool
  | [] => true
  | o :: l => (!pureB o || liveAtL l o.d) && neededL l
theorem liveAtL_cons (o : BOp) (l : List BOp) (v : Int) : liveAtL (o :: l) v = (memI v (reads o) || (observesB o && decide (v < 19)) || (liveAtL l v && !(writes o == v))) := by
  show (if _ then _ else _) = _
  split
  · rename_i h; rw [h]; rfl
  · rename_i h
    have h' : (memI v (reads o) || (observesB o && decide (v < 19))) = false := by simpa using h
    rw [h', Bool.false_or]
    split
    · rename_i h2; rw [h2]; simp
    · rename_i h2; rw [show (writes o == v) = false by simpa using h2]; simp
theorem setM_bit (m k j : Nat) : (setM m k).testBit j = (m.testBit j || decide (k = j)) := by unfold setM; rw [Nat.testBit_or, Nat.testBit_two_pow]
theorem readsM_bit : ∀ (l : List Int) (m : Nat) (v : Nat), (∀ x ∈ l, 0 ≤ x) → (readsM m l).testBit v = (m.testBit v || memI (v : Int) l)
  | [], m, v, _ => by simp [readsM, memI]
  | x :: l, m, v, h => by
    have hx := h x (by simp)
    show (readsM (setM m x.toNat) l).testBit v = _
    rw [readsM_bit l _ v (fun y hy => h y (by simp [hy])), setM_bit]
    unfold memI
    rw [List.any_cons, Bool.or_assoc]
    congr 2
    rw [Bool.eq_iff_iff]; simp; omega
theorem clrM_bit {m d v : Nat} (hd : d < 32) (hv : v < 32) : (clrM m d).testBit v = (m.testBit v && !decide (d = v)) := by
  unfold clrM
  rw [Nat.testBit_and]
  have : (4294967295 - 2 ^ d).testBit v = !decide (d = v) := by
    have e : 4294967295 - 2 ^ d = 2 ^ 32 - (2 ^ d + 1) := by omega
    have h2 : 2 ^ d < 2 ^ 32 := Nat.pow_lt_pow_right (by omega) hd
    rw [e, Nat.testBit_two_pow_sub_succ h2, Nat.testBit_two_pow]
    simp [hv]
  rw [this]
theorem low19_bit (v : Nat) : (524287 : Nat).testBit v = decide (v < 19) := by
  rw [show (524287 : Nat) = 2 ^ 19 - 1 from rfl, Nat.testBit_two_pow_sub_one]
theorem writes_lt {o : BOp} (hf : formedB o = true) : writes o < 28 := by
  have := writes_var hf
  exact this
theorem beforeM_bit {o : BOp} (hf : formedB o = true) (m : Nat) {v : Nat} (hv : v < 28) : (beforeM o m).testBit v = (memI (v : Int) (reads o) || (observesB o && decide ((v : Int) < 19)) || (m.testBit v && !(writes o == (v : Int)))) := by
  have hr : ∀ x ∈ reads o, 0 ≤ x := fun x hx => (reads_var hf x hx).1
  have hw := writes_lt hf
  have hc : (if 0 ≤ writes o then clrM m (writes o).toNat else m).testBit v = (m.testBit v && !(writes o == (v : Int))) := by
    split
    · rename_i h0
      rw [clrM_bit (by omega) (by omega)]
      congr 2
      rw [Bool.eq_iff_iff]; simp; omega
    · rename_i h0
      have : (writes o == (v : Int)) = false := by rw [beq_eq_false_iff_ne]; omega
      rw [this]; simp
  have h19 : decide ((v : Int) < 19) = decide (v < 19) := by rw [decide_eq_decide]; omega
  unfold beforeM
  split
  · rename_i ho
    rw [Nat.testBit_or, readsM_bit _ _ _ hr, hc, low19_bit, ho, h19]
    cases memI (v : Int) (reads o) <;> cases decide (v < 19) <;> simp
  · rename_i ho
    have ho' : observesB o = false := by simpa using ho
    rw [readsM_bit _ _ _ hr, hc, ho']
    cases memI (v : Int) (reads o) <;> simp
/-- The mask says what is live. -/
def MaskIs (m : Nat) (l : List BOp) : Prop := ∀ v : Nat, v < 28 → m.testBit v = liveAtL l (v : Int)
theorem mask_nil : MaskIs 0 [] := fun v _ => by simp [liveAtL]
theorem mask_cons {o : BOp} (hf : formedB o = true) {m : Nat} {l : List BOp} (h : MaskIs m l) : MaskIs (beforeM o m) (o :: l) := fun v hv => by rw [beforeM_bit hf m hv, liveAtL_cons, h v hv]
theorem dead_needed : ∀ (l : List BOp) (s : DeadS), (∀ o ∈ l, formedB o = true) → MaskIs s.live s.out.reverse → neededL s.out.reverse = true → neededL (l.foldl deadStep s).out.reverse = true
  | [], s, _, _, hn => hn
  | o :: l, s, hf, hm, hn => by
    have hfo := hf o (by simp)
    have hfl : ∀ p ∈ l, formedB p = true := fun p hp => hf p (by simp [hp])
    rw [List.foldl_cons]
    by_cases hd : deadB o s.live = true
    · rw [show deadStep s o = s from if_pos hd]
      exact dead_needed l s hfl hm hn
    · rw [show deadStep s o = ⟨beforeM o s.live, s.out ++ [o]⟩ from if_neg hd]
      refine dead_needed l _ hfl ?_ ?_
      · show MaskIs (beforeM o s.live) (s.out ++ [o]).reverse
        rw [List.reverse_append]
        exact mask_cons hfo hm
      · show neededL (s.out ++ [o]).reverse = true
        rw [List.reverse_append]
        show ((!pureB o || liveAtL s.out.reverse o.d) && neededL s.out.reverse) = true
        rw [hn, Bool.and_true]
        cases hp : pureB o
        · rfl
        · obtain ⟨d0, d1⟩ := pure_formed_d hfo hp
          have hm' := hm o.d.toNat (by omega)
          rw [show ((o.d.toNat : Nat) : Int) = o.d by omega] at hm'
          have : s.live.testBit o.d.toNat = true := by
            unfold deadB at hd
            rw [hp] at hd
            simpa using hd
          rw [← hm', this]; rfl
/-- In the result of Dead every operation that only writes a variable is needed. -/
theorem dead_law {b : Blk} (hv : validB b = true) : neededL (deadAll b) = true := by
  unfold deadAll
  rw [if_pos hv]
  exact dead_needed b.ops.reverse ⟨0, []⟩ (fun o ho => valid_formed hv o (List.mem_reverse.1 ho)) mask_nil rfl
end Go.Proofs.Ytmjfgnnefcimiaa
namespace Go.Proofs.Ytmjfgnnefcimiaa
open Go.RowKit

set_option maxRecDepth 100000 in
theorem reads_has (o : BOp) (v : Int) (w : World) : Calls Try.prog 85 #[opV o, .int .i64 v] w fun e w' => e = .returned (.bool (memI v (reads o))) ∧ Below w.heap.size w w' := by
  unfold opV
  have hrl := reads_len o
  refine calls_val [.agg #[.int .i64 o.code, .int .i64 o.d, .int .i64 o.a, .int .i64 o.b, .int .u32 o.n], .int .i64 v] Try.func85 Try.ntmps85 rfl (by simp) ?_
  conv => whnf
  refine call_row rfl (by kernel_rfl) (fun r w' hR => reads_ref o w') ?_
  conv => whnf
  refine ⟨{ k : Nat // k ≤ (reads o).length ∧ memI v ((reads o).take k) = false }, fun x => [(1, one (.int .i64 v)), (5, .p (.c (.row 1))), (6, one (.int .i64 (x.1 : Int)))], fun x => [.gone, .row 3 1 (reads o).length ((reads o).map (.int .i64))], fun x => (reads o).length - x.1,
    ⟨⟨0, by omega, by simp [memI]⟩, ent_same rfl (And.intro (rfl) (And.intro (rfl) (And.intro (rfl) trivial))) (And.intro ((by trivial)) (And.intro ((And.intro rfl (And.intro rfl (And.intro (rfl) (rfl))))) trivial))⟩, fun x => ?_⟩
  obtain ⟨k, hk, hm⟩ := x
  dsimp only
  conv => whnf
  refine ⟨fun hc => ?_, fun hc => ?_⟩
  · have hlt : k < (reads o).length := by simpa using hc
    obtain ⟨x, hx⟩ : ∃ x, (reads o)[k]? = some x := ⟨_, List.getElem?_eq_getElem hlt⟩
    conv => whnf
    refine ⟨⟨by omega, by omega⟩, ?_⟩
    conv => whnf
    rw [show (List.map CV.v (List.map (Value.int IntKind.i64) (reads o)))[(k : Int).toNat * tsz Try.prog 3]? = some (.v (.int .i64 x)) by
      rw [show (k : Int).toNat * tsz Try.prog 3 = k from (Nat.mul_one _).trans (Int.toNat_natCast k), List.getElem?_map, List.getElem?_map, hx]; rfl]
    conv => whnf
    have hs : memI v ((reads o).take (k + 1)) = (x == v) := by
      rw [List.take_add_one, hx]
      unfold memI at hm ⊢
      rw [List.any_append, hm]
      simp
    refine ⟨fun he => ?_, fun he => ?_⟩
    · conv => whnf
      refine ⟨_, _, ent_refl, ?_⟩
      conv => whnf
      have hall : memI v (reads o) = true := by
        unfold memI
        rw [List.any_eq_true]
        exact ⟨x, List.mem_of_getElem? hx, he⟩
      exact fin_val rfl fun w' hB => ⟨by rw [hall], hB⟩
    · conv => whnf
      refine ⟨_, wr64 (by omega), ?_⟩
      conv => whnf
      exact ⟨⟨k + 1, by omega, by rw [hs]; exact he⟩, ent_same rfl (And.intro (rfl) (And.intro (rfl) (And.intro (rfl) trivial))) (And.intro ((by trivial)) (And.intro ((And.intro rfl (And.intro rfl (And.intro (rfl) (rfl))))) trivial)), by show (reads o).length - (k + 1) < (reads o).length - k; omega⟩
  · have hke : k = (reads o).length := by simp at hc; omega
    subst hke
    conv => whnf
    refine ⟨_, _, ent_refl, ?_⟩
    conv => whnf
    rw [List.take_length] at hm
    exact fin_val rfl fun w' hB => ⟨by rw [hm], hB⟩
set_option maxRecDepth 100000 in
theorem liveAt_walk (l : List BOp) (A1 A2 A3 : Option Addr) (n1 n2 c1 c2 c3 i : Nat) (v : Int) (w : World) (h3 : OpsAt w w.heap.size A3 l) (hl : l.length ≤ 1000000) (hi : i ≤ l.length) :
    Calls Try.prog 59 #[.agg #[.slice A1 n1 c1, .slice A2 n2 c2, .slice A3 l.length c3], .int .i64 (i : Int), .int .i64 v] w fun e w' => e = .returned (.bool (liveAtL (l.drop i) v)) ∧ Below w.heap.size w w' := by
  refine calls_satq [.agg #[.slice A1 n1 c1, .slice A2 n2 c2, .slice A3 l.length c3], .int .i64 (i : Int), .int .i64 v] Try.func59 Try.ntmps59 rfl (by simp) ?_
  refine satq_seq ?_
  conv => whnf
  refine satq_in ?_
  refine satq_seq ?_
  conv => whnf
  refine satq_block ?_
  refine satq_loop (α := { j : Nat // j ≤ l.length ∧ liveAtL (l.drop i) v = liveAtL (l.drop j) v }) (fun x => [(2, one (.int .i64 v)), (3, .p (.c (.ref 0 0))), (7, one (.int .i64 (x.1 : Int)))]) (fun x => [.cells 32 [.v (.slice A1 n1 c1), .v (.slice A2 n2 c2), .v (.slice A3 l.length c3)]]) (fun x => l.length - x.1)
    ⟨i, hi, rfl⟩ (ent_same rfl (And.intro (rfl) (And.intro (rfl) (And.intro (rfl) trivial))) (And.intro ((And.intro rfl (Or.inl rfl))) trivial)) fun x => ?_
  obtain ⟨j, hj, hjl⟩ := x
  dsimp only
  refine satq_seq ?_
  conv => whnf
  refine ⟨fun hc => ?_, fun hc => ?_⟩
  · have hlt : j < l.length := by simpa using hc
    obtain ⟨o, ho⟩ : ∃ o, l[j]? = some o := ⟨_, List.getElem?_eq_getElem hlt⟩
    have hstep : liveAtL (l.drop j) v = (memI v (reads o) || (observesB o && decide (v < 19)) || (liveAtL (l.drop (j + 1)) v && !(writes o == v))) := by
      have e : l[j] = o := by rw [List.getElem?_eq_getElem hlt] at ho; injection ho
      rw [List.drop_eq_getElem_cons hlt, e, liveAtL_cons]
    obtain ⟨bb, off, rfl⟩ := ops_addr h3 (by omega)
    conv => whnf
    refine satq_mid (α := { u : Unit // liveAtL (l.drop j) v = liveAtL (l.drop (j + 1)) v }) (fun _ => [(2, one (.int .i64 v)), (3, .p (.c (.ref 0 0))), (7, one (.int .i64 (j : Int)))]) (fun _ => [.cells 32 [.v (.slice A1 n1 c1), .v (.slice A2 n2 c2), .v (.slice (some ⟨bb, off, none⟩) l.length c3)]]) ?_ fun y => ?_
    · refine satq_block ?_
      refine satq_seq ?_
      conv => whnf
      refine ⟨⟨by omega, by omega⟩, ?_⟩
      conv => whnf
      refine ⟨opC o, cells_op h3 (by simp) ho, rfl, ?_⟩
      conv => whnf
      refine satq_seq ?_
      conv => whnf
      refine call_con rfl (by kernel_rfl) (fun r w' hR => reads_has o v w') ?_
      conv => whnf
      refine satq_seq ?_
      conv => whnf
      refine call_con rfl (by kernel_rfl) (fun r w' hR => observes_ref o w') ?_
      conv => whnf
      refine satq_in ?_
      refine satq_mid (α := Unit) (fun _ => [(2, one (.int .i64 v)), (3, .p (.c (.ref 0 0))), (7, one (.int .i64 (j : Int))), (8, .p (.c (.ref 1 0))), (36, one (.bool (memI v (reads o) || (observesB o && decide (v < 19)))))]) (fun _ => [.cells 32 [.v (.slice A1 n1 c1), .v (.slice A2 n2 c2), .v (.slice (some ⟨bb, off, none⟩) l.length c3)], .cells 53 ((opC o).map .v)]) ?_ fun _ => ?_
      · generalize memI v (reads o) = x
        generalize observesB o = y
        refine satq_regionU ?_
        cases x with
        | true =>
          conv => whnf
          (refine ⟨(fun h => absurd h (by decide)), fun _ => ?_⟩; (conv => whnf))
          (refine ⟨(fun h => absurd h (by decide)), fun _ => ?_⟩; (conv => whnf))
          (refine ⟨(fun h => absurd h (by decide)), fun _ => ?_⟩; (conv => whnf))
          (refine ⟨(fun h => absurd h (by decide)), fun _ => ?_⟩; (conv => whnf))
          (refine ⟨(fun h => absurd h (by decide)), fun _ => ?_⟩; (conv => whnf))
          exact atq_mid () (ent_same rfl (And.intro (rfl) (And.intro (rfl) (And.intro (rfl) (And.intro (rfl) (And.intro (rfl) trivial))))) (And.intro ((And.intro rfl (Or.inl rfl))) (And.intro ((And.intro rfl (Or.inl rfl))) trivial)))
        | false =>
          conv => whnf
          (refine ⟨fun _ => ?_, (fun h => absurd h (by decide))⟩; (conv => whnf))
          (refine ⟨fun _ => ?_, (fun h => absurd h (by decide))⟩; (conv => whnf))
          cases y with
          | true =>
            (refine ⟨fun _ => ?_, (fun h => absurd h (by decide))⟩; (conv => whnf))
            (refine ⟨fun _ => ?_, (fun h => absurd h (by decide))⟩; (conv => whnf))
            (refine ⟨fun _ => ?_, (fun h => absurd h (by decide))⟩; (conv => whnf))
            exact atq_mid () (ent_same rfl (And.intro (rfl) (And.intro (rfl) (And.intro (rfl) (And.intro (rfl) (And.intro ((by show one _ = one _; simp)) trivial))))) (And.intro ((And.intro rfl (Or.inl rfl))) (And.intro ((And.intro rfl (Or.inl rfl))) trivial)))
          | false =>
            (refine ⟨(fun h => absurd h (by decide)), fun _ => ?_⟩; (conv => whnf))
            (refine ⟨(fun h => absurd h (by decide)), fun _ => ?_⟩; (conv => whnf))
            (refine ⟨fun _ => ?_, (fun h => absurd h (by decide))⟩; (conv => whnf))
            exact atq_mid () (ent_same rfl (And.intro (rfl) (And.intro (rfl) (And.intro (rfl) (And.intro (rfl) (And.intro (rfl) trivial))))) (And.intro ((And.intro rfl (Or.inl rfl))) (And.intro ((And.intro rfl (Or.inl rfl))) trivial)))
      refine satq_cond rfl (fun h => ?_) (fun h => ?_)
      · refine satq_vc ?_
        conv => whnf
        refine atq_up (atq_ret (R := fun e w' => e = .returned (.bool (liveAtL (l.drop i) v)) ∧ Below w.heap.size w w') ?_) (by exact fun _ _ h => h)
        conv => whnf
        exact fin_val rfl fun w' hB => ⟨by rw [hjl, hstep, h]; rfl, hB⟩
      refine satq_skip ?_
      refine atq_on ?_
      refine satq_vc ?_
      conv => whnf
      refine call_con rfl (by kernel_rfl) (fun r w' hR => writes_ref o w') ?_
      conv => whnf
      refine ⟨fun he => ?_, fun he => ?_⟩
      · conv => whnf
        refine atq_up (atq_ret (R := fun e w' => e = .returned (.bool (liveAtL (l.drop i) v)) ∧ Below w.heap.size w w') ?_) (by exact fun _ _ h => h)
        conv => whnf
        exact fin_val rfl fun w' hB => ⟨by rw [hjl, hstep, h, he]; simp, hB⟩
      · conv => whnf
        refine atq_block ?_
        exact atq_mid ⟨(), by rw [hstep, h, he]; simp⟩ (ent_drop (And.intro (rfl) (And.intro (rfl) (And.intro (rfl) trivial))) (And.intro ((And.intro rfl (Or.inl rfl))) trivial) rfl rfl)
    refine satq_vc ?_
    conv => whnf
    refine ⟨_, wr64 (by omega), ?_⟩
    conv => whnf
    exact atq_next ⟨j + 1, by omega, by rw [hjl, y.2]⟩ (ent_same rfl (And.intro (rfl) (And.intro (rfl) (And.intro (rfl) trivial))) (And.intro ((And.intro rfl (Or.inl rfl))) trivial)) (by show l.length - (j + 1) < l.length - j; omega)
  · have hje : j = l.length := by simp at hc; omega
    subst hje
    rw [List.drop_length] at hjl
    conv => whnf
    refine atq_out (atq_exit (atq_on ?_))
    refine satq_vc ?_
    conv => whnf
    refine atq_ret ?_
    conv => whnf
    exact fin_val rfl fun w' hB => ⟨by rw [hjl]; rfl, hB⟩
theorem neededL_at : ∀ {l : List BOp} {i : Nat} {o : BOp}, l[i]? = some o → neededL (l.drop i) = ((!pureB o || liveAtL (l.drop (i + 1)) o.d) && neededL (l.drop (i + 1)))
  | [], i, o, h => by simp at h
  | x :: l, 0, o, h => by simp at h; subst h; rfl
  | x :: l, i + 1, o, h => by simpa using neededL_at (l := l) (by simpa using h)
set_option maxRecDepth 100000 in
theorem needed_walk (l : List BOp) (A1 A2 A3 : Option Addr) (n1 n2 c1 c2 c3 : Nat) (w : World) (h3 : OpsAt w w.heap.size A3 l) (hl : l.length ≤ 1000000) :
    Calls Try.prog 26 #[.agg #[.slice A1 n1 c1, .slice A2 n2 c2, .slice A3 l.length c3]] w fun e w' => e = .returned (.bool (neededL l)) ∧ Below w.heap.size w w' := by
  refine calls_val [.agg #[.slice A1 n1 c1, .slice A2 n2 c2, .slice A3 l.length c3]] Try.func26 Try.ntmps26 rfl (by simp) ?_
  conv => whnf
  refine ⟨{ j : Nat // j ≤ l.length ∧ neededL l = neededL (l.drop j) }, fun x => [(1, .p (.c (.ref 0 0))), (3, one (.int .i64 (x.1 : Int)))], fun x => [.cells 32 [.v (.slice A1 n1 c1), .v (.slice A2 n2 c2), .v (.slice A3 l.length c3)]], fun x => l.length - x.1,
    ⟨⟨0, by omega, rfl⟩, ent_same rfl (And.intro (rfl) (And.intro (rfl) trivial)) (And.intro ((And.intro rfl (Or.inl rfl))) trivial)⟩, fun x => ?_⟩
  obtain ⟨j, hj, hjl⟩ := x
  dsimp only
  conv => whnf
  refine ⟨fun hc => ?_, fun hc => ?_⟩
  · have hlt : j < l.length := by simpa using hc
    obtain ⟨o, ho⟩ : ∃ o, l[j]? = some o := ⟨_, List.getElem?_eq_getElem hlt⟩
    have hstep := neededL_at ho
    obtain ⟨bb, off, rfl⟩ := ops_addr h3 (by omega)
    conv => whnf
    refine ⟨⟨by omega, by omega⟩, ?_⟩
    conv => whnf
    refine ⟨opC o, cells_op h3 (by simp) ho, rfl, ?_⟩
    conv => whnf
    refine call_con rfl (by kernel_rfl) (fun r w' hR => pure_ref o w') ?_
    conv => whnf
    refine ⟨fun hp => ?_, fun hp => ?_⟩
    · have hp : pureB o = false := by simpa using hp
      conv => whnf
      refine ⟨_, wr64 (by omega), ?_⟩
      conv => whnf
      exact ⟨⟨j + 1, by omega, by rw [hjl, hstep, hp]; rfl⟩, ent_drop (And.intro (rfl) (And.intro (rfl) trivial)) (And.intro ((And.intro rfl (Or.inl rfl))) trivial) rfl rfl, by show l.length - (j + 1) < l.length - j; omega⟩
    have hp : pureB o = true := by simpa using hp
    conv => whnf
    refine ⟨((j + 1 : Nat) : Int), by rw [wr64 (by omega)]; omega, ?_⟩
    conv => whnf
    refine call_con (xs := [.agg #[.slice A1 n1 c1, .slice A2 n2 c2, .slice (some ⟨bb, off, none⟩) l.length c3], .int .i64 ((j + 1 : Nat) : Int), .int .i64 o.d]) rfl (by kernel_rfl) (fun r w' hR => liveAt_walk l A1 A2 (some ⟨bb, off, none⟩) n1 n2 c1 c2 c3 (j + 1) o.d w' (sl_later h3 hR.toBelow) hl (by omega)) ?_
    conv => whnf
    refine ⟨fun hv => ?_, fun hv => ?_⟩
    · have hv : liveAtL (l.drop (j + 1)) o.d = false := by simpa using hv
      conv => whnf
      refine ⟨_, _, ent_refl, ?_⟩
      conv => whnf
      exact fin_val rfl fun w' hB => ⟨by rw [hjl, hstep, hp, hv]; rfl, hB⟩
    · have hv : liveAtL (l.drop (j + 1)) o.d = true := by simpa using hv
      conv => whnf
      refine ⟨_, wr64 (by omega), ?_⟩
      conv => whnf
      exact ⟨⟨j + 1, by omega, by rw [hjl, hstep, hp, hv]; rfl⟩, ent_drop (And.intro (rfl) (And.intro (rfl) trivial)) (And.intro ((And.intro rfl (Or.inl rfl))) trivial) rfl rfl, by show l.length - (j + 1) < l.length - j; omega⟩
  · have hje : j = l.length := by simp at hc; omega
    subst hje
    rw [List.drop_length] at hjl
    conv => whnf
    refine ⟨_, _, ent_refl, ?_⟩
    conv => whnf
    exact fin_val rfl fun w' hB => ⟨by rw [hjl]; rfl, hB⟩
end Go.Proofs.Ytmjfgnnefcimiaa
namespace Go.Proofs.Ytmjfgnnefcimiaa
open Go.RowKit

/-- The operations of the instruction under way. -/
def segA (acc : List BOp) (o : BOp) : List BOp := if o.code = 20 then [o] else acc ++ [o]
def segF (l : List BOp) : List BOp := l.foldl segA []
def ordB (acc : List BOp) (o : BOp) : Bool := (reads o).all (knownB acc) && (!leaves o.code || freeB acc)
def run2 : Nat → List BOp → List BOp → Option Nat
  | m, _, [] => some m
  | m, acc, o :: l => match shapeStep m o l with | some m' => (if (o.code == 20 || ordB acc o) = true then run2 m' (segA acc o) l else none) | none => none
theorem take_succ_of {l : List BOp} {k : Nat} {o : BOp} (h : l[k]? = some o) : l.take (k + 1) = l.take k ++ [o] := by rw [List.take_add_one, h]; rfl
theorem seg_eq {l : List BOp} : ∀ (i : Nat) {o : BOp}, l[i]? = some o → o.code ≠ 20 → seg l i = segF (l.take i)
  | 0, o, h, hc => by simp [seg, segF]
  | k + 1, o, h, hc => by
    have hk : k < l.length := by
      rcases Nat.lt_or_ge (k + 1) l.length with h1 | h1
      · omega
      · rw [List.getElem?_eq_none h1] at h; cases h
    obtain ⟨p, hp⟩ : ∃ p, l[k]? = some p := ⟨_, List.getElem?_eq_getElem hk⟩
    have hlen : (l.take k).length = k := by rw [List.length_take]; omega
    have hf : firstI l (k + 1) = firstI l k := by
      show (if _ then _ else _) = _
      rw [if_neg (by rw [h]; simpa using hc)]
    have hs : segF (l.take (k + 1)) = segA (segF (l.take k)) p := by unfold segF; rw [take_succ_of hp, List.foldl_append]; rfl
    rw [hs]
    unfold seg
    rw [hf, take_succ_of hp]
    unfold segA
    by_cases hpc : p.code = 20
    · rw [if_pos hpc]
      have hfk : firstI l k = (k : Int) := by
        cases k with
        | zero => show (if _ then _ else _) = _; rw [if_pos (by rw [hp]; simp [hpc])]; rfl
        | succ k => show (if _ then _ else _) = _; rw [if_pos (by rw [hp]; simp [hpc])]
      rw [hfk, Int.toNat_natCast, List.drop_append, hlen, Nat.sub_self, List.drop_eq_nil_of_le (by omega)]; rfl
    · rw [if_neg hpc]
      have ih := seg_eq k hp hpc
      unfold seg at ih
      have hle := firstI_le l k
      rw [List.drop_append_of_le_length (by rw [hlen]; omega), ih]
theorem ordered_all {l : List BOp} : orderedAll l = true ↔ ∀ i o, l[i]? = some o → (o.code == 20 || ordB (segF (l.take i)) o) = true := by
  unfold orderedAll
  rw [List.all_eq_true]
  have key : ∀ i o, l[i]? = some o → orderedB l i o = (o.code == 20 || ordB (segF (l.take i)) o) := fun i o ho => by
    by_cases hc : o.code = 20
    · have h1 : (o.code == 20) = true := by simp [hc]
      rw [h1, Bool.true_or]
      unfold orderedB
      have e1 : reads o = [] := by unfold reads; rw [hc]; rfl
      have e2 : leaves o.code = false := by rw [hc]; rfl
      rw [e1, e2]; rfl
    · have h1 : (o.code == 20) = false := by simp [hc]
      rw [h1, Bool.false_or]
      unfold orderedB ordB
      rw [seg_eq i ho hc]
  constructor
  · intro h i o ho
    have hi : i < l.length := by
      rcases Nat.lt_or_ge i l.length with h1 | h1
      · exact h1
      · rw [List.getElem?_eq_none h1] at ho; cases ho
    have := h i (List.mem_range.2 hi)
    rw [ho] at this
    rw [← key i o ho]; exact this
  · intro h i hi
    cases ho : l[i]? with
    | none => rfl
    | some o => show orderedB l i o = true; rw [key i o ho]; exact h i o ho
open Classical in
theorem run2_eq : ∀ (l pre : List BOp) (m : Nat), run2 m (segF pre) l = if (∀ i o, l[i]? = some o → (o.code == 20 || ordB (segF (pre ++ l.take i)) o) = true) then shapeRun m l else none
  | [], pre, m => by rw [if_pos (by intro i o h; simp at h)]; rfl
  | o :: l, pre, m => by
    have ih := fun m' => run2_eq l (pre ++ [o]) m'
    have hseg : segF (pre ++ [o]) = segA (segF pre) o := by unfold segF; rw [List.foldl_append]; rfl
    show (match shapeStep m o l with | some m' => (if (o.code == 20 || ordB (segF pre) o) = true then run2 m' (segA (segF pre) o) l else none) | none => none) = _
    have hiff : (∀ i q, (o :: l)[i]? = some q → (q.code == 20 || ordB (segF (pre ++ (o :: l).take i)) q) = true) ↔ ((o.code == 20 || ordB (segF pre) o) = true ∧ ∀ i q, l[i]? = some q → (q.code == 20 || ordB (segF (pre ++ [o] ++ l.take i)) q) = true) := by
      constructor
      · intro h
        refine ⟨by simpa using h 0 o rfl, fun i q hq => ?_⟩
        have := h (i + 1) q (by simpa using hq)
        simpa using this
      · rintro ⟨h1, h2⟩ i q hq
        cases i with
        | zero => simp at hq; subst hq; simpa using h1
        | succ i => simpa using h2 i q (by simpa using hq)
    show _ = if _ then (match shapeStep m o l with | some m' => shapeRun m' l | none => none) else none
    cases hst : shapeStep m o l with
    | none => simp
    | some m' =>
      show (if _ then run2 m' (segA (segF pre) o) l else none) = if _ then shapeRun m' l else none
      rw [← hseg, ih m']
      by_cases h1 : (o.code == 20 || ordB (segF pre) o) = true
      · rw [if_pos h1]
        by_cases h2 : ∀ i q, l[i]? = some q → (q.code == 20 || ordB (segF (pre ++ [o] ++ l.take i)) q) = true
        · rw [if_pos h2, if_pos (hiff.2 ⟨h1, h2⟩)]
        · rw [if_neg h2, if_neg (fun h => h2 (hiff.1 h).2)]
      · rw [if_neg h1, if_neg (fun h => h1 (hiff.1 h).1)]
/-- The state of the check, and the instruction under way. -/
structure CkRel (s : Ck) (m : Nat) (acc : List BOp) : Prop where
  marks : s.marks = m
  bits : ∀ v : Nat, 20 ≤ v → v < 28 → s.written.testBit v = acc.any fun p => writes p == (v : Int)
  ch : s.changed = !freeB acc
theorem reads_all {s : Ck} {m : Nat} {acc : List BOp} (h : CkRel s m acc) {o : BOp} (hf : formedB o = true) : (reads o).all (readB s) = (reads o).all (knownB acc) := by
  have : ∀ v ∈ reads o, readB s v = knownB acc v := fun v hv => by
    obtain ⟨v0, v1⟩ := reads_var hf v hv
    unfold readB knownB
    by_cases h20 : v < 20
    · simp [h20]
    · have := h.bits v.toNat (by omega) (by omega)
      rw [this, show ((v.toNat : Nat) : Int) = v by omega]
  rw [Bool.eq_iff_iff, List.all_eq_true, List.all_eq_true]
  exact ⟨fun h v hv => by rw [← this v hv]; exact h v hv, fun h v hv => by rw [this v hv]; exact h v hv⟩
theorem ck_run2 : ∀ (l : List BOp) (s : Ck) (m : Nat) (acc : List BOp), CkRel s m acc → (ckRun s l).map (·.marks) = run2 m acc l
  | [], s, m, acc, h => by show some s.marks = some m; rw [h.marks]
  | o :: l, s, m, acc, h => by
    have ihl := ck_run2 l
    show Option.map _ (match ckNext s o l.isEmpty (exitNext l) with | some s' => ckRun s' l | none => none) = match shapeStep m o l with | some m' => (if (o.code == 20 || ordB acc o) = true then run2 m' (segA acc o) l else none) | none => none
    by_cases hf' : formedB o = false
    · unfold ckNext shapeStep
      rw [hf']; rfl
    have hf : formedB o = true := by simpa using hf'
    by_cases hp' : ((endsB o.code == l.isEmpty) && !(o.code == 23 && !exitNext l)) = false
    · unfold ckNext shapeStep placedB
      rw [hp', hf, Bool.false_and, Bool.and_false]
      have : (true && (endsB o.code == l.isEmpty) && !(o.code == 23 && !exitNext l)) = false := by rw [Bool.true_and]; exact hp'
      rw [this]; rfl
    have hp : ((endsB o.code == l.isEmpty) && !(o.code == 23 && !exitNext l)) = true := by rwa [Bool.not_eq_false] at hp'
    have hsh : shapeStep m o l = if o.code == 20 then (if o.n == (m : Int) then some (m + 1) else none) else some m := by
      unfold shapeStep
      rw [if_pos (by rw [hf, Bool.true_and]; exact hp)]
    rw [hsh]
    by_cases hc : o.code = 20
    · have hc' : (o.code == 20) = true := by simp [hc]
      have hl : leaves o.code = false := by rw [hc]; rfl
      have hck : ckNext s o l.isEmpty (exitNext l) = if o.n == (s.marks : Int) then some ⟨s.marks + 1, 0, false⟩ else none := by
        unfold ckNext placedB
        rw [hf, hp, hl, hc']; rfl
      rw [hck, h.marks, hc']
      simp only [if_true, Bool.true_or]
      by_cases hn : (o.n == (m : Int)) = true
      · rw [if_pos hn, if_pos hn]
        refine ihl _ _ _ ⟨rfl, fun v v0 v1 => ?_, ?_⟩
        · unfold segA
          rw [if_pos hc]
          have hw : writes o = -1 := by unfold writes; rw [hc]; rfl
          have : (writes o == (v : Int)) = false := by rw [hw, beq_eq_false_iff_ne]; omega
          simp [this]
        · unfold segA freeB
          rw [if_pos hc]
          have hw : writes o = -1 := by unfold writes; rw [hc]; rfl
          simp [hw, hc]
      · rw [if_neg hn, if_neg hn]; rfl
    · have hc' : (o.code == 20) = false := by simp [hc]
      rw [hc']
      simp only [Bool.false_eq_true, if_false, Bool.false_or]
      have hck : ckNext s o l.isEmpty (exitNext l) = if ordB acc o = true then some ⟨s.marks, if 20 ≤ writes o then s.written ||| 2 ^ (writes o).toNat else s.written, s.changed || (stores o.code || decide (0 ≤ writes o ∧ writes o < 20))⟩ else none := by
        unfold ckNext placedB ordB
        rw [hf, hp, hc', reads_all h hf, h.ch]
        cases leaves o.code <;> cases freeB acc <;> cases (reads o).all (knownB acc) <;> rfl
      rw [hck]
      by_cases ho : ordB acc o = true
      · rw [if_pos ho, if_pos ho]
        refine ihl _ _ _ ⟨h.marks, fun v v0 v1 => ?_, ?_⟩
        · unfold segA
          rw [if_neg hc, List.any_append, ← h.bits v v0 v1]
          simp only [List.any_cons, List.any_nil, Bool.or_false]
          split
          · rename_i hw
            rw [Nat.testBit_or, Nat.testBit_two_pow]
            congr 1
            rw [Bool.eq_iff_iff]; simp; omega
          · rename_i hw
            have : (writes o == (v : Int)) = false := by rw [beq_eq_false_iff_ne]; omega
            rw [this, Bool.or_false]
        · unfold segA
          rw [if_neg hc]
          show (s.changed || _) = !(List.all (acc ++ [o]) _)
          rw [List.all_append, h.ch]
          have h19 : writes o ≠ 19 := by
            unfold writes
            split
            · rename_i hD
              unfold formedB at hf
              simp only [Bool.and_eq_true] at hf
              have hd := hf.1.1.1.2
              rw [hD] at hd
              unfold fieldB at hd
              rw [if_pos rfl, decide_eq_true_eq] at hd
              exact hd.2.2
            · omega
          have e : (stores o.code || decide (0 ≤ writes o ∧ writes o < 20)) = (decide (0 ≤ writes o ∧ writes o ≤ 18) || o.code == 18 || o.code == 19) := by
            unfold stores
            rw [Bool.eq_iff_iff]
            simp
            omega
          rw [e]
          unfold freeB
          simp only [List.all_cons, List.all_nil, Bool.and_true, Bool.not_and, Bool.not_not]
      · rw [if_neg ho, if_neg ho]; rfl
/-- The two checks agree. -/
theorem valid_same (b : Blk) : validR b = validB b := by
  unfold validR validB
  cases headerB b
  · rfl
  have h1 := ck_run2 b.ops ⟨0, 0, false⟩ 0 [] ⟨rfl, fun v _ _ => by simp, rfl⟩
  have h2 := run2_eq b.ops [] 0
  have h3 := ordered_all (l := b.ops)
  rw [show segF [] = [] from rfl] at h2
  rw [h2] at h1
  simp only [List.nil_append] at h1
  by_cases ho : orderedAll b.ops = true
  · rw [if_pos (h3.1 ho)] at h1
    rw [ho]
    cases hs : ckRun ⟨0, 0, false⟩ b.ops with
    | none => rw [hs] at h1; rw [← h1]; rfl
    | some s => rw [hs] at h1; rw [← h1]; rfl
  · rw [if_neg (fun h => ho (h3.2 h))] at h1
    have ho' : orderedAll b.ops = false := by simpa using ho
    rw [ho']
    cases hs : ckRun ⟨0, 0, false⟩ b.ops with
    | none => cases shapeRun 0 b.ops <;> rfl
    | some s => rw [hs] at h1; cases h1
end Go.Proofs.Ytmjfgnnefcimiaa
namespace Go.Proofs.Ytmjfgnnefcimiaa
open Go.RowKit

theorem call_turned {w0 : World} {S : List Ow} {K : AV → List Ow → Prop} (i j k : Nat) (b : Blk) (q0 q1 q2 : Int) (hi : S[i]? = some (.row 24 1 b.at_.length (b.at_.map (.int .u32)))) (hj : S[j]? = some (.row 3 1 b.pages.length (b.pages.map (.int .i64)))) (hk : S[k]? = some (.row 53 5 b.ops.length (b.ops.flatMap opC))) (hb : MadeOk b)
    (hK : ∀ b', TurnOk b' → K (.p (.agg [.row S.length, .row (S.length + 1), .row (S.length + 2)])) (S ++ blkRows b')) : CallS Try.prog w0 Gs.nil 21 [.p (.agg [.row i, .row j, .row k]), .p (.agg [.v (.int .i64 q0), .v (.int .i64 q1), .v (.int .i64 q2)])] S K := by
  refine call_blk TurnOk (by kernel_rfl) (fun r w us hR hd => ?_) hK
  obtain ⟨u1, l1, rfl, d1, u2, l2, rfl, d2, d3⟩ := hd
  obtain rfl : l2 = [] := d3
  obtain rfl := AV.val_den (x := .agg #[.int .i64 q0, .int .i64 q1, .int .i64 q2]) rfl d2
  obtain ⟨vs, rfl, hl⟩ := den_agg d1
  simp only [denL, CV.den] at hl
  obtain ⟨u1, l1, rfl, e1, u2, l2, rfl, e2, u3, l3, rfl, e3, rfl⟩ := hl
  obtain ⟨A1, c1, rfl, s1, _⟩ := hR.rowAt hi e1
  obtain ⟨A2, c2, rfl, s2, _⟩ := hR.rowAt hj e2
  obtain ⟨A3, c3, rfl, s3, _⟩ := hR.rowAt hk e3
  have hv := hb.valid
  have hlat : b.at_.length ≤ 900 := by
    unfold validB headerB at hv
    simp only [Bool.and_eq_true, decide_eq_true_eq] at hv
    omega
  have hlen := hb.len
  have hlp : b.pages.length ≤ 900 := Nat.le_trans hb.lp (by omega)
  exact turned_walk b A1 A2 A3 c1 c2 c3 q0 q1 q2 w hb.ok hlat hlp (by omega) s1 s2 s3
/-- A block that three rows and a cell hold, seen as plain memory. -/
theorem own_blkRows {w0 : World} {G : Gs} {S : List Ow} {r : Env} {w : World} (hR : Rel w0 G S r w) (k i1 i2 i3 : Nat) (b : Blk) {t : TypeId} (hk : S[k]? = some (.cells t [.row i1, .row i2, .row i3])) (h1 : S[i1]? = some (.row 24 1 b.at_.length (b.at_.map (.int .u32)))) (h2 : S[i2]? = some (.row 3 1 b.pages.length (b.pages.map (.int .i64)))) (h3 : S[i3]? = some (.row 53 5 b.ops.length (b.ops.flatMap opC))) :
    ∃ g A1 c1 A2 c2 A3 c3, r.blk k = some g ∧ CellsAt w Gs.nil g 0 [.slice A1 b.at_.length c1, .slice A2 b.pages.length c2, .slice A3 b.ops.length c3] ∧ SlAt w w.heap.size A1 (b.at_.map (.int .u32)) ∧ SlAt w w.heap.size A2 (b.pages.map (.int .i64)) ∧ OpsAt w w.heap.size A3 b.ops ∧ b.ops.length ≤ c3 ∧ c3 ≤ maxLen := by
  obtain ⟨g, us, e1, e2, e3⟩ := own_cellsAt hR k hk
  simp only [denL, CV.den] at e2
  obtain ⟨u1, l1, rfl, d1, u2, l2, rfl, d2, u3, l3, rfl, d3, rfl⟩ := e2
  obtain ⟨A1, c1, rfl, s1, _⟩ := hR.rowAt h1 d1
  obtain ⟨A2, c2, rfl, s2, _⟩ := hR.rowAt h2 d2
  obtain ⟨A3, c3, rfl, s3, m1, m2⟩ := hR.rowAt h3 d3
  exact ⟨g, A1, c1, A2, c2, A3, c3, e1, e3, s1, s2, s3, m1, m2⟩
section
variable {w0 : World} {S : List Ow} {K : AV → List Ow → Prop} {b : Blk} {A1 A2 A3 : Option Addr} {n1 n2 n3 c1 c2 c3 : Nat}
/-- A pass over a block in plain memory. -/
theorem call_pass_pl {P : Program} {fid : FuncId} {F : Blk → List BOp} (hp : Pass P fid F) (hok : fnOk P fid = true) (hb : b.ok) (h0 : b.ops = [] → F b = []) (hn1 : b.at_.length = n1) (hn2 : b.pages.length = n2) (hn3 : b.ops.length = n3)
    (h1 : SlAt w0 w0.heap.size A1 (b.at_.map (.int .u32))) (h2 : SlAt w0 w0.heap.size A2 (b.pages.map (.int .i64))) (h3 : OpsAt w0 w0.heap.size A3 b.ops) (hc3 : n3 ≤ c3) (hm3 : c3 ≤ maxLen)
    (hK : K (.p (.agg [.v (.slice A1 n1 c1), .v (.slice A2 n2 c2), .row S.length])) (S ++ [.view viewT (F b).length ((F b).flatMap opC)])) :
    CallS P w0 Gs.nil fid [.p (.agg [.v (.slice A1 n1 c1), .v (.slice A2 n2 c2), .v (.slice A3 n3 c3)])] S K := by
  subst hn1; subst hn2; subst hn3
  refine ⟨hok, fun r w us hR hd => ?_⟩
  obtain ⟨u1, l1, rfl, d1, d2⟩ := hd
  obtain rfl : l1 = [] := d2
  obtain rfl := AV.val_den (x := .agg #[.slice A1 b.at_.length c1, .slice A2 b.pages.length c2, .slice A3 b.ops.length c3]) rfl d1
  refine (hp b A1 A2 A3 c1 c2 c3 w hb (sl_later h1 hR.toBelow) (sl_later h2 hR.toBelow) (sl_later h3 hR.toBelow) hc3 hm3).mono fun e w' ⟨A', c', he, ho, k1, k2, k3, hB⟩ => ?_
  refine ⟨.p (.agg [.v (.slice A1 b.at_.length c1), .v (.slice A2 b.pages.length c2), .row S.length]), _, _, r.set S.length none (some (.slice A' (F b).length c')), he, ⟨[.slice A1 b.at_.length c1, .slice A2 b.pages.length c2, .slice A' (F b).length c'], rfl, ?_⟩,
    hR.snoc (o := .view viewT (F b).length ((F b).flatMap opC)) hB (b := none) nofun ⟨A', c', by simp [Env.set], k1, ⟨k2, trivial⟩, by simp [Env.set], fun j u hj => ?_⟩, hR.le_new _ _, hK⟩
  · simp only [denL, CV.den]
    exact ⟨_, _, rfl, rfl, _, _, rfl, rfl, _, _, rfl, by simp [Env.set], rfl⟩
  · obtain ⟨b', off, e4, e5, e6⟩ := ho j u hj
    refine ⟨b', off, e4, e5, fun q hq => ?_, e6⟩
    simp only [Env.set] at hq
    split at hq
    · cases hq
    · rcases k3 with k3 | rfl
      · have := k3 b' off none e4
        have := (hR.new q b' hq).1
        omega
      · have hpos : 0 < b.ops.length := by
          rcases Nat.eq_zero_or_pos b.ops.length with h | h
          · rw [h0 (List.eq_nil_of_length_eq_zero h)] at hj; simp at hj
          · exact h
        have h5 := ops_lt (e4 ▸ h3) hpos
        exact absurd ((hR.new q b' hq).2 h5) (by simp)
/-- A call whose argument is a block with its operations in a view. -/
theorem call_blkV {fid : FuncId} (i : Nat) {φ : Option Addr → Prop} {n : Nat} {xs : List Value} {x : Value} {s1 s2 : Value} (hi : S[i]? = some (.view φ n xs)) (hok : fnOk Try.prog fid = true)
    (h : ∀ r w A c, Rel w0 Gs.nil S r w → SlAt w w.heap.size A xs → n ≤ c → c ≤ maxLen → Calls Try.prog fid #[.agg #[s1, s2, .slice A n c]] w fun e w' => e = .returned x ∧ Below w.heap.size w w') (hK : K (AV.of x) S) :
    CallS Try.prog w0 Gs.nil fid [.p (.agg [.v s1, .v s2, .row i])] S K := by
  refine callS_val x hok (fun r w us hR hd => ?_) hK
  obtain ⟨u1, l1, rfl, d1, d2⟩ := hd
  obtain rfl : l1 = [] := d2
  obtain ⟨us, rfl, hl'⟩ := den_agg d1
  simp only [denL, CV.den] at hl'
  obtain ⟨u1, l1, rfl, rfl, u2, l2, rfl, rfl, u3, l3, rfl, e3, rfl⟩ := hl'
  obtain ⟨A, c, rfl, s, k1, k2, _⟩ := viewAt hR hi e3
  exact h r w A c hR s k1 k2
theorem call_blkV2 {fid : FuncId} (i : Nat) {φ : Option Addr → Prop} {n : Nat} {xs : List Value} {x : Value} {s1 s2 t1 t2 t3 : Value} (hi : S[i]? = some (.view φ n xs)) (hok : fnOk Try.prog fid = true)
    (h : ∀ r w A c, Rel w0 Gs.nil S r w → SlAt w w.heap.size A xs → n ≤ c → c ≤ maxLen → Calls Try.prog fid #[.agg #[t1, t2, t3], .agg #[s1, s2, .slice A n c]] w fun e w' => e = .returned x ∧ Below w.heap.size w w') (hK : K (AV.of x) S) :
    CallS Try.prog w0 Gs.nil fid [.p (.agg [.v t1, .v t2, .v t3]), .p (.agg [.v s1, .v s2, .row i])] S K := by
  refine callS_val x hok (fun r w us hR hd => ?_) hK
  obtain ⟨u1, l1, rfl, d1, u2, l2, rfl, d2, d3⟩ := hd
  obtain rfl : l2 = [] := d3
  obtain rfl := AV.val_den (x := .agg #[t1, t2, t3]) rfl d1
  obtain ⟨us, rfl, hl'⟩ := den_agg d2
  simp only [denL, CV.den] at hl'
  obtain ⟨u1, l1, rfl, rfl, u2, l2, rfl, rfl, u3, l3, rfl, e3, rfl⟩ := hl'
  obtain ⟨A, c, rfl, s, k1, k2, _⟩ := viewAt hR hi e3
  exact h r w A c hR s k1 k2
end
theorem slot_val {r : Env} {f : Fr} {a : Act} (hf : FDen r f a) {d : Nat} {x : Value} (h : (f.get d).val = some x) : a.tmps.getD d undef = x := AV.val_den h (hf d)
/-- sanity, with its measure. -/
theorem sanity_law (w : World) : Calls Try.prog 14 #[] w fun e w' => e = .returned (.bool true) ∧ Below w.heap.size w w' := sanity_true once_mu w
theorem sameB_self (b : Blk) : sameB b b = true := by simp [sameB]
end Go.Proofs.Ytmjfgnnefcimiaa
namespace Go.Proofs.Ytmjfgnnefcimiaa
open Go.ChangeShapes Go.WideShapes Go.ChangeAt Go.RowKit

theorem ownK : ownKnob Try.prog.godebug = none := by kernel_rfl
theorem laidOutP : laidOutB Try.prog = true := by kernel_rfl
theorem cells_lt {w : World} {b o : Nat} {u : Value} (h : w.cell? ⟨b, o, none⟩ = some u) : b < w.heap.size := by
  rcases Nat.lt_or_ge b w.heap.size with h1 | h1
  · exact h1
  · simp [World.cell?, Array.getElem?_eq_none h1] at h
/-- A slice of integers that came in. -/
theorem open_sl {H : Type} {enc : TypeId × Value → H} {W : World} {a : Option Addr} {len cap : Nat} {d : DataW H} {p : List MemPlace} (h : DataW.Trod enc Try.prog W 0 (fun _ => true) true 22 (.slice a len cap) d p) :
    ∃ xs : List Int, SlAt W W.heap.size a (xs.map (.int .i64)) ∧ xs.length = len ∧ len ≤ cap := by
  obtain ⟨fuel, hf⟩ := h
  rcases open_ints Try.underlying22 Try.underlying3 (by kernel_rfl) hf with ⟨hcs, _⟩ | ⟨x, l, c, zs, hcs, _, hl, hm, hz, _, hcell, hwz⟩
  · simp [Value.cells] at hcs
    obtain ⟨rfl, rfl, rfl⟩ := hcs
    exact ⟨[], SlAt.nil, rfl, Nat.le_refl _⟩
  · simp [Value.cells] at hcs
    obtain ⟨rfl, rfl, rfl⟩ := hcs
    have hz : zs.length = cap := by simpa using hz
    refine ⟨zs.take len, fun j u hj => ?_, by rw [List.length_take]; omega, hl⟩
    rw [List.getElem?_map, List.getElem?_take] at hj
    split at hj
    · rename_i hjl
      have hjz : j < zs.length := by omega
      have hc := hcell j hjz
      obtain ⟨b, off, spot⟩ := x
      have hsp : spot = none := by
        have h0 := hcell 0 (by omega)
        simpa [Addr.add] using World.cell?_spot h0
      subst hsp
      rw [addr_add] at hc
      rw [List.getElem?_eq_getElem hjz] at hj
      have hg : zs.getD j 0 = zs[j] := by rw [List.getD_eq_getElem?_getD, List.getElem?_eq_getElem hjz]; rfl
      rw [hg] at hc
      injection hj with hj; subst hj
      exact ⟨b, off, rfl, cells_lt hc, hc⟩
    · cases hj
set_option maxRecDepth 100000 in
/-- An array of three integers. -/
theorem open_q {H : Type} {enc : TypeId × Value → H} {W : World} {r : Reach} {b0 : Nat} {v : Value} {d : DataW H} {p : List MemPlace} (hv : Value.okWide Try.prog W r b0 23 v) (h : DataW.Trod enc Try.prog W 0 (fun _ => true) true 23 v d p) :
    ∃ x y z : Int, v = .agg #[.int .i64 x, .int .i64 y, .int .i64 z] := by
  simp only [Value.okWide, Try.underlying23] at hv
  obtain ⟨cs, rfl, hsz, _⟩ := hv
  have hc3 : Try.prog.cellsOf 23 = 3 := by kernel_rfl
  have hc1 : Try.prog.cellsOf 3 = 1 := by kernel_rfl
  rw [hc3] at hsz
  obtain ⟨c0, c1, c2, rfl⟩ := Go.Joins.array3 hsz
  obtain ⟨fuel, hf⟩ := h
  obtain ⟨xs, m, _, _, _, hlen, hel⟩ := DataW.trod_array Try.underlying23 hf
  have get : ∀ i, i < 3 → ∃ y, DataW.trod enc Try.prog W 0 (fun _ => true) true m 3 (([c0, c1, c2].drop (i * 1)).take 1) = some y := fun i hi => by
    have := hel i hi
    rw [hc1] at this
    exact ⟨xs[i], by rw [List.getElem?_eq_getElem (by omega)] at this; exact this⟩
  obtain ⟨y0, h0⟩ := get 0 (by omega)
  obtain ⟨y1, h1⟩ := get 1 (by omega)
  obtain ⟨y2, h2⟩ := get 2 (by omega)
  obtain ⟨n0, e0, _⟩ := DataW.trod_int Try.underlying3 h0
  obtain ⟨n1, e1, _⟩ := DataW.trod_int Try.underlying3 h1
  obtain ⟨n2, e2, _⟩ := DataW.trod_int Try.underlying3 h2
  simp at e0 e1 e2
  subst e0; subst e1; subst e2
  exact ⟨n0, n1, n2, rfl⟩
end Go.Proofs.Ytmjfgnnefcimiaa
