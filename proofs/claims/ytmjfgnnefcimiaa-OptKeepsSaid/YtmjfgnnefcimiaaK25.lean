/- Walks: the passes: Copies. -/
import Derived.Test.YtmjfgnnefcimiaaK1
import Derived.Test.YtmjfgnnefcimiaaK12
import Derived.Test.YtmjfgnnefcimiaaK13
import Derived.Test.YtmjfgnnefcimiaaK14
import Derived.Test.YtmjfgnnefcimiaaK15
import Derived.Test.YtmjfgnnefcimiaaK16
import Derived.Test.YtmjfgnnefcimiaaK2
import Derived.Test.YtmjfgnnefcimiaaK20
import Derived.Test.YtmjfgnnefcimiaaK21
import Derived.Test.YtmjfgnnefcimiaaK22
import Derived.Test.YtmjfgnnefcimiaaK23
import Derived.Test.YtmjfgnnefcimiaaK3
import Derived.Test.YtmjfgnnefcimiaaK5
import Derived.Test.YtmjfgnnefcimiaaK6
namespace Go.Proofs.Ytmjfgnnefcimiaa
open Go.RowKit

set_option maxRecDepth 100000 in
theorem orig_any (h : Bool) (v : Int) (g b n : Nat) (s : Int → Option Int) (w : World) (hg : w.cell? ⟨g, 0, none⟩ = some (.map (some b))) (hgl : g < w.heap.size) (hm : IMap i64R i64D w b n s) (hv : mid v) :
    Calls Try.prog 42 #[.bool h, .int .i64 v, .pointer (some ⟨g, 0, none⟩)] w fun e w' => e = .returned (.int .i64 (origS s h v)) ∧ Below w.heap.size w w' := by
  refine calls_val [.bool h, .int .i64 v, .pointer (some ⟨g, 0, none⟩)] Try.func42 Try.ntmps42 rfl (by simp) ?_
  conv => whnf
  refine ⟨_, cells_one hgl (by simp) hg, ?_⟩
  conv => whnf
  refine q_look_i64_old rfl v rfl hm (by simp) rfl (wf_mid hv) ?_
  conv => whnf
  (apply Exists.intro; refine aI (fun h => ?_) ?_; (conv => whnf); exact ⟨rfl, rfl, rfl, rfl, rfl⟩; (conv => whnf))
  refine ⟨fun h1 => ?_, fun h1 => ?_⟩
  · conv => whnf
    refine fin_val rfl fun w' hb => ⟨?_, hb⟩
    have e : origS s h v = (s v).getD 0 := if_pos h1
    rw [e]
  · conv => whnf
    refine fin_val rfl fun w' hb => ⟨?_, hb⟩
    have e : origS s h v = v := if_neg (Bool.eq_false_iff.1 h1)
    rw [e]
theorem callq_contains {w0 : World} {G : Gs} {S : List Ow} {K : AV → Prop} {e : TypeId} {n : Nat} {xs : List Int} {v : Int} (i : Nat) (hi : S[i]? = some (.row e 1 n (xs.map (.int .i64)))) (hn : xs.length = n) (hm : n ≤ 1000000000) (hK : K (one (.bool (memI v xs)))) :
    QCall Try.prog w0 G S 45 [.p (.c (.row i)), .p (.c (.v (.int .i64 v)))] K := by
  refine ⟨⟨by kernel_rfl, .bool (memI v xs), hK, fun r w us hR hd => ?_⟩⟩
  obtain ⟨u1, l1, rfl, d1, u2, l2, rfl, d2, d3⟩ := hd
  obtain rfl : l2 = [] := d3
  obtain rfl := den_v d2
  obtain ⟨A, c, rfl, hs, _⟩ := hR.rowAt hi (den_row d1)
  exact (contains_int A n c v xs w hs hn hm).mono fun e w' ⟨h1, h2⟩ => ⟨h1, by subst h2; exact Below.refl _ _⟩
theorem callq_orig {w0 : World} {G : Gs} {S : List Ow} {K : AV → Prop} {t : TypeId} {n : Nat} {s : Int → Option Int} {h : Bool} {v : Int} (i j : Nat) (hi : S[i]? = some (.cells t [.mp j])) (hj : S[j]? = some (mapOw i64R i64D n s)) (hv : mid v) {y : Int} (hy : origS s h v = y) (hK : K (one (.int .i64 y))) :
    QCall Try.prog w0 G S 42 [.p (.c (.v (.bool h))), .p (.c (.v (.int .i64 v))), .p (.c (.ref i 0))] K := by
  subst hy
  refine ⟨⟨by kernel_rfl, .int .i64 (origS s h v), hK, fun r w us hR hd => ?_⟩⟩
  obtain ⟨u1, l1, rfl, d1, u2, l2, rfl, d2, u3, l3, rfl, d3, d4⟩ := hd
  obtain rfl : l3 = [] := d4
  obtain rfl := den_v d1
  obtain rfl := den_v d2
  obtain ⟨gb, hgb, rfl⟩ := den_ref d3
  obtain ⟨b1, v1, e1, e2, e3⟩ := hR.cell hi (off := 0) rfl
  rw [hgb] at e1; injection e1 with e1; subst e1
  simp only [CV.den] at e3
  obtain ⟨b2, e4, rfl⟩ := e3
  obtain ⟨b3, e5, hmap, _⟩ := hR.own j _ hj
  rw [e4] at e5; injection e5 with e5; subst e5
  exact orig_any h v gb b2 n s w e2 (hR.new i gb hgb).1 hmap hv
theorem copyUpd_move {g : Int → Option Int} {p : BOp} (hd : ¬ writes p < 0) (h : (p.code == 2) = true) (k : Int) : mput (copyKill g (writes p)) (writes p) p.a k = copyUpd g p k := by unfold copyUpd; rw [if_neg hd, if_pos h]
theorem copyUpd_other {g : Int → Option Int} {p : BOp} (hd : ¬ writes p < 0) (h : (p.code == 2) = false) (k : Int) : copyKill g (writes p) k = copyUpd g p k := by unfold copyUpd; rw [if_neg hd, h, if_neg (by simp)]
structure CopySt (n : Nat) (ops : List BOp) where
  k : Nat
  f : Int → Option Int
  out : List BOp
  hk : k ≤ n
  hm : midF f
  hl : out.length ≤ k
  eq : copyRun noneF ops = out ++ copyRun f (ops.drop k)
set_option maxRecDepth 100000 in
set_option maxHeartbeats 1000000 in
theorem copies_pass : Pass Try.prog 18 copyAll := by
  intro b A1 A2 A3 c1 c2 c3 w hb h1 h2 h3 hc3 hm3
  cases hv : validB b
  · have hF : copyAll b = b.ops := by unfold copyAll; rw [hv]; rfl
    refine calls_val [.agg #[.slice A1 b.at_.length c1, .slice A2 b.pages.length c2, .slice A3 b.ops.length c3]] Try.func18 Try.ntmps18 rfl (by simp) ?_
    conv => whnf
    refine call_con rfl (by kernel_rfl) (fun r w' hR => valid_ir A1 A2 A3 c1 c2 c3 b w' hb (sl_later h2 hR.toBelow) (sl_later h3 hR.toBelow)) ?_
    conv => whnf
    refine ⟨fun h => ?_, (fun h => by rw [hv] at h; cases h)⟩
    conv => whnf
    refine fin_val rfl fun w' hB => ⟨A3, c3, by rw [hF], by rw [hF]; exact sl_later h3 hB, by rw [hF]; exact hc3, hm3, .inr rfl, hB⟩
  · have hF : copyAll b = copyRun noneF b.ops := by unfold copyAll; rw [hv]; rfl
    obtain ⟨hpos, hmax⟩ := valid_pos hv
    obtain ⟨bb, off, rfl⟩ := ops_addr h3 hpos
    refine calls_val [.agg #[.slice A1 b.at_.length c1, .slice A2 b.pages.length c2, .slice (some ⟨bb, off, none⟩) b.ops.length c3]] Try.func18 Try.ntmps18 rfl (by simp) ?_
    conv => whnf
    refine call_con rfl (by kernel_rfl) (fun r w' hR => valid_ir A1 A2 _ c1 c2 c3 b w' hb (sl_later h2 hR.toBelow) (sl_later h3 hR.toBelow)) ?_
    conv => whnf
    refine ⟨(fun h => by rw [hv] at h; cases h), fun h => ?_⟩
    conv => whnf
    refine op_makeMap (R := i64R) (cd := i64D) rfl rfl ?_
    conv => whnf
    refine ⟨CopySt b.ops.length b.ops, fun x => [(1, .p (.c (.ref 0 0))), (2, .p (.c (.ref 1 0))), (3, .p (.c (.ref 3 0))), (4, .p (.c (.clo (.func 42) [.ref 3 0]))), (5, .p (.c (.row 4))), (21, one (.slice (some ⟨bb, off, none⟩) b.ops.length c3)), (22, one (.int .i64 b.ops.length)), (23, one (.int .i64 x.k))], fun x => [.cells 32 [.v (.slice A1 b.at_.length c1), .v (.slice A2 b.pages.length c2), .v (.slice (some ⟨bb, off, none⟩) b.ops.length c3)], .cells 32 [.v (.slice none 0 0), .v (.slice none 0 0), .v (.slice none 0 0)], mapOw i64R i64D x.k x.f, .cells 64 [.mp 2], .row 53 5 x.out.length (x.out.flatMap opC)], fun x => b.ops.length - x.k, ⟨⟨0, noneF, [], Nat.zero_le _, midF_none, Nat.le_refl _, by simp⟩, ?_⟩, fun x => ?_⟩
    · exact ent_trans (ent_row 5 53 5 rfl) (ent_same rfl (aI rfl (aI rfl (aI rfl (aI rfl (aI rfl (aI rfl (aI rfl (aI rfl trivial)))))))) (aI ((aI rfl (Or.inl rfl))) (aI ((aI rfl (Or.inl rfl))) (aI ((fun _ _ h => h)) (aI ((aI rfl (Or.inl rfl))) (aI ((aI rfl (aI rfl (aI rfl rfl)))) trivial))))))
    have hk := x.hk
    have hl := x.hl
    have heq := x.eq
    conv => whnf
    refine ⟨fun hc => ?_, fun hc => ?_⟩
    · have hlt : x.k < b.ops.length := by simpa using hc
      obtain ⟨o, hx⟩ : ∃ o, b.ops[x.k]? = some o := ⟨_, List.getElem?_eq_getElem hlt⟩
      have ho : o.ok := hb.ops o (List.mem_of_getElem? hx)
      have hat := copyRun_at (f := x.f) hx
      conv => whnf
      refine ⟨⟨by omega, by omega⟩, ?_⟩
      conv => whnf
      refine ⟨opC o, cells_op h3 (by simp) hx, rfl, ?_⟩
      conv => whnf
      obtain ⟨g, hg⟩ : ∃ g, g = copyMark x.f o := ⟨_, rfl⟩
      have hgm : midF g := by rw [hg]; exact midF_mark x.hm o
      rw [← hg] at hat
      refine ⟨fun hm => ?_, fun hm => ?_⟩
      · conv => whnf
        refine call_map (m' := fdel x.f 8) 2 rfl (by kernel_rfl) (fun w' b' hmap => forget_int w' hmap) ?_
        conv => whnf
        refine op_range rfl Try.underlying64 2 rfl rfl rfl (fun b' q M I left cnt hrg hleft => ?_)
        conv => whnf
        refine ⟨FiltSt b' q x.k (fdel x.f 8) (fun w => !decide (20 ≤ w)), fun y => [(1, .p (.c (.ref 0 0))), (2, .p (.c (.ref 1 0))), (3, .p (.c (.ref 3 0))), (4, .p (.c (.clo (.func 42) [.ref 3 0]))), (5, .p (.c (.row 4))), (21, one (.slice (some ⟨bb, off, none⟩) b.ops.length c3)), (22, one (.int .i64 b.ops.length)), (23, one (.int .i64 x.k)), (7, .p (.c (.ref 5 0))), (33, .p (.c (.ref 6 0)))], fun y => [.cells 32 [.v (.slice A1 b.at_.length c1), .v (.slice A2 b.pages.length c2), .v (.slice (some ⟨bb, off, none⟩) b.ops.length c3)], .cells 32 [.v (.slice none 0 0), .v (.slice none 0 0), .v (.slice none 0 0)], objOw b' y.M, .cells 64 [.mp 2], .row 53 5 x.out.length (x.out.flatMap opC), .cells 53 [.v (.int .i64 o.code), .v (.int .i64 o.d), .v (.int .i64 o.a), .v (.int .i64 o.b), .v (.int .u32 o.n)], objOw q y.I], fun y => y.cnt, ⟨⟨M, I, left, cnt, hrg.is (fun k hk => filt_start _ (hleft k hk))⟩, ?_⟩, fun y => ?_⟩
        · exact ent_same rfl (aI rfl (aI rfl (aI rfl (aI rfl (aI rfl (aI rfl (aI rfl (aI rfl (aI rfl (aI rfl trivial)))))))))) (aI ((aI rfl (Or.inl rfl))) (aI ((aI rfl (Or.inl rfl))) (aI ((fun _ _ h => h)) (aI ((aI rfl (Or.inl rfl))) (aI ((aI rfl (aI rfl (aI rfl rfl)))) (aI ((aI rfl (Or.inl rfl))) (aI ((fun _ _ h => h)) trivial)))))))
        conv => whnf
        refine op_next_i64 rfl 2 6 b' q y.M y.I y.left y.cnt rfl rfl rfl y.h rfl (fun hno => ?_) (fun x' c I' cnt' hwf hlx hcx hlt' hrg' hent => ?_)
        · conv => whnf
          refine ⟨nofun, fun _ => ?_⟩
          conv => whnf
          refine ⟨[(1, .p (.c (.ref 0 0))), (2, .p (.c (.ref 1 0))), (3, .p (.c (.ref 3 0))), (4, .p (.c (.clo (.func 42) [.ref 3 0]))), (5, .p (.c (.row 4))), (21, one (.slice (some ⟨bb, off, none⟩) b.ops.length c3)), (22, one (.int .i64 b.ops.length)), (23, one (.int .i64 x.k)), (7, .p (.c (.ref 5 0)))], [.cells 32 [.v (.slice A1 b.at_.length c1), .v (.slice A2 b.pages.length c2), .v (.slice (some ⟨bb, off, none⟩) b.ops.length c3)], .cells 32 [.v (.slice none 0 0), .v (.slice none 0 0), .v (.slice none 0 0)], mapOw i64R i64D x.k g, .cells 64 [.mp 2], .row 53 5 x.out.length (x.out.flatMap opC), .cells 53 [.v (.int .i64 o.code), .v (.int .i64 o.d), .v (.int .i64 o.a), .v (.int .i64 o.b), .v (.int .u32 o.n)]], ent_drop (aI rfl (aI rfl (aI rfl (aI rfl (aI rfl (aI rfl (aI rfl (aI rfl (aI rfl trivial))))))))) (aI ((aI rfl (Or.inl rfl))) (aI ((aI rfl (Or.inl rfl))) (aI (obj_le_wf y.h (Nat.le_refl _) (fun k hk => (filt_end (hno k hk)).trans (by rw [hg]; unfold copyMark; rw [if_pos hm]))) (aI ((aI rfl (Or.inl rfl))) (aI ((aI rfl (aI rfl (aI rfl rfl)))) (aI ((aI rfl (Or.inl rfl))) trivial)))))) rfl rfl, ?_⟩
          conv => whnf
          refine call_row rfl (by kernel_rfl) (fun r w' hR => reads_ir o w') ?_
          conv => whnf
          refine sat_tail 14 mixed (by kernel_rfl) ?_
          conv => whnf
          refine callq_contains 6 rfl rfl (by have := reads_len o; omega) ?_
          conv => whnf
          refine ⟨fun hin => ?_, fun hin => ?_⟩
          · obtain ⟨p, hp⟩ : ∃ p, p = copyOp g o := ⟨_, rfl⟩
            have hpa : origS g (o.code != 20) o.a = p.a := by rw [hp]; unfold copyOp; rw [hin]; simp
            have hpb : origS g (twoB o.code) o.b = p.b := by rw [hp]; rfl
            have hpc : o.code = p.code := by rw [hp]; rfl
            have hpd : o.d = p.d := by rw [hp]; rfl
            have hpn : o.n = p.n := by rw [hp]; rfl
            have hpok : p.ok := by rw [hp]; exact copyOp_ok hgm ho
            conv => whnf
            (refine ⟨fun _ => ?_, (fun h => absurd h (by decide))⟩; (conv => whnf))
            (refine ⟨fun _ => ?_, (fun h => absurd h (by decide))⟩; (conv => whnf))
            refine callq_orig (t := 64) (n := x.k) (s := g) 3 2 ?_ ?_ ho.a hpa ?_
            · rfl
            · rfl
            conv => whnf
            refine sat_tail 8 mixed (by kernel_rfl) ?_
            conv => whnf
            refine q_same rfl (by kernel_rfl) (fun r w' _ => two_any _ w') ?_
            conv => whnf
            refine callq_orig (t := 64) (n := x.k) (s := g) 3 2 ?_ ?_ ho.b hpb ?_
            · rfl
            · rfl
            rw [hpc, hpd, hpn]
            rw [← hp] at hat
            conv => whnf
            (apply Exists.intro; refine aI (fun h => ?_) ?_; (conv => whnf); exact ⟨rfl, rfl, rfl, rfl, rfl⟩; (conv => whnf))
            refine ⟨fun hs => ?_, fun hs => ?_⟩
            · conv => whnf
              refine ⟨(x.k : Int) + 1, wr64 (by omega), ?_⟩
              conv => whnf
              refine ⟨⟨x.k + 1, g, x.out, by omega, hgm, by omega, by rw [heq, hat, if_pos (show copySkip p = true from hs)]⟩, ent_drop (aI rfl (aI rfl (aI rfl (aI rfl (aI rfl (aI rfl (aI rfl (aI (num_succ x.k) trivial)))))))) (aI ((aI rfl (Or.inl rfl))) (aI ((aI rfl (Or.inl rfl))) (aI (imap_le (Nat.le_succ _) (fun _ => rfl)) (aI ((aI rfl (Or.inl rfl))) (aI ((aI rfl (aI rfl (aI rfl rfl)))) trivial))))) rfl rfl, by dsimp only; omega⟩
            conv => whnf
            refine appK_sound rfl ?_ rfl
            conv => whnf
            refine ⟨by omega, ?_⟩
            conv => whnf
            refine call_con rfl (by kernel_rfl) (fun r w' _ => writes_ir p w') ?_
            conv => whnf
            refine ⟨fun hd => ?_, fun hd => ?_⟩
            · conv => whnf
              have hd' : writes p < 0 := by simpa using hd
              have hu : copyUpd g p = g := by unfold copyUpd; rw [if_pos hd']
              refine ⟨(x.k : Int) + 1, wr64 (by omega), ?_⟩
              conv => whnf
              refine ⟨⟨x.k + 1, g, x.out ++ [p], by omega, hgm, by simp; omega, by rw [heq, hat, if_neg (Bool.eq_false_iff.1 (show copySkip p = false from hs)), hu]; simp⟩, ent_drop (aI rfl (aI rfl (aI rfl (aI rfl (aI rfl (aI rfl (aI rfl (aI (num_succ x.k) trivial)))))))) (aI ((aI rfl (Or.inl rfl))) (aI ((aI rfl (Or.inl rfl))) (aI (imap_le (Nat.le_succ _) (fun _ => rfl)) (aI ((aI rfl (Or.inl rfl))) (aI ((aI rfl (aI rfl (aI (by simp) (by simp [opC]))))) trivial))))) rfl rfl, by dsimp only; omega⟩
            have hd' : ¬ writes p < 0 := by simpa using hd
            conv => whnf
            refine op_delete rfl Try.underlying64 2 (writes p) rfl rfl rfl (wf_mid (writes_mid hpok)) rfl ?_
            conv => whnf
            refine op_range rfl Try.underlying64 2 rfl rfl rfl (fun b' q M I left cnt hrg hleft => ?_)
            conv => whnf
            refine ⟨FiltSt b' q x.k (mdel g (writes p)) (fun w => !(w == writes p)), fun y => [(1, .p (.c (.ref 0 0))), (2, .p (.c (.ref 1 0))), (3, .p (.c (.ref 3 0))), (4, .p (.c (.clo (.func 42) [.ref 3 0]))), (5, .p (.c (.row 4))), (21, one (.slice (some ⟨bb, off, none⟩) b.ops.length c3)), (22, one (.int .i64 b.ops.length)), (23, one (.int .i64 x.k)), (7, .p (.c (.ref 5 0))), (88, .p (.c (.ref 8 0))), (11, one (.int .i64 (writes p)))], fun y => [.cells 32 [.v (.slice A1 b.at_.length c1), .v (.slice A2 b.pages.length c2), .v (.slice (some ⟨bb, off, none⟩) b.ops.length c3)], .cells 32 [.v (.slice none 0 0), .v (.slice none 0 0), .v (.slice none 0 0)], objOw b' y.M, .cells 64 [.mp 2], .row 53 5 (x.out.length + 1) (x.out.flatMap opC ++ [.int .i64 p.code, .int .i64 p.d, .int .i64 p.a, .int .i64 p.b, .int .u32 p.n]), .cells 53 [.v (.int .i64 p.code), .v (.int .i64 p.d), .v (.int .i64 p.a), .v (.int .i64 p.b), .v (.int .u32 p.n)], .gone, .gone, objOw q y.I], fun y => y.cnt, ⟨⟨M, I, left, cnt, hrg.is (fun k hk => filt_start _ (hleft k hk))⟩, ?_⟩, fun y => ?_⟩
            · exact ent_same rfl (aI rfl (aI rfl (aI rfl (aI rfl (aI rfl (aI rfl (aI rfl (aI rfl (aI rfl (aI rfl (aI rfl trivial))))))))))) (aI ((aI rfl (Or.inl rfl))) (aI ((aI rfl (Or.inl rfl))) (aI ((fun _ _ h => h)) (aI ((aI rfl (Or.inl rfl))) (aI ((aI rfl (aI rfl (aI rfl rfl)))) (aI ((aI rfl (Or.inl rfl))) (aI (trivial) (aI (trivial) (aI ((fun _ _ h => h)) trivial)))))))))
            conv => whnf
            refine op_next_i64 rfl 2 8 b' q y.M y.I y.left y.cnt rfl rfl rfl y.h rfl (fun hno => ?_) (fun x' c I' cnt' hwf hlx hcx hlt' hrg' hent => ?_)
            · conv => whnf
              refine ⟨nofun, fun _ => ?_⟩
              conv => whnf
              refine ⟨[(1, .p (.c (.ref 0 0))), (2, .p (.c (.ref 1 0))), (3, .p (.c (.ref 3 0))), (4, .p (.c (.clo (.func 42) [.ref 3 0]))), (5, .p (.c (.row 4))), (21, one (.slice (some ⟨bb, off, none⟩) b.ops.length c3)), (22, one (.int .i64 b.ops.length)), (23, one (.int .i64 x.k)), (7, .p (.c (.ref 5 0))), (11, one (.int .i64 (writes p)))], [.cells 32 [.v (.slice A1 b.at_.length c1), .v (.slice A2 b.pages.length c2), .v (.slice (some ⟨bb, off, none⟩) b.ops.length c3)], .cells 32 [.v (.slice none 0 0), .v (.slice none 0 0), .v (.slice none 0 0)], mapOw i64R i64D x.k (copyKill g (writes p)), .cells 64 [.mp 2], .row 53 5 (x.out.length + 1) (x.out.flatMap opC ++ [.int .i64 p.code, .int .i64 p.d, .int .i64 p.a, .int .i64 p.b, .int .u32 p.n]), .cells 53 [.v (.int .i64 p.code), .v (.int .i64 p.d), .v (.int .i64 p.a), .v (.int .i64 p.b), .v (.int .u32 p.n)]], ent_drop (aI rfl (aI rfl (aI rfl (aI rfl (aI rfl (aI rfl (aI rfl (aI rfl (aI rfl (aI rfl trivial)))))))))) (aI ((aI rfl (Or.inl rfl))) (aI ((aI rfl (Or.inl rfl))) (aI (obj_le_wf y.h (Nat.le_refl _) (fun k hk => (filt_end (hno k hk)).trans rfl)) (aI ((aI rfl (Or.inl rfl))) (aI ((aI rfl (aI rfl (aI rfl rfl)))) (aI ((aI rfl (Or.inl rfl))) trivial)))))) rfl rfl, ?_⟩
              conv => whnf
              refine ⟨fun h2 => ?_, fun h2 => ?_⟩
              · conv => whnf
                refine op_mapUpdate rfl Try.underlying64 i64Elems 2 (writes p) p.a rfl rfl rfl rfl (by omega) (wf_mid (writes_mid hpok)) hpok.a rfl ?_
                conv => whnf
                refine ⟨(x.k : Int) + 1, wr64 (by omega), ?_⟩
                conv => whnf
                refine ⟨⟨x.k + 1, copyUpd g p, x.out ++ [p], by omega, midF_upd hgm hpok, by simp; omega, by rw [heq, hat, if_neg (Bool.eq_false_iff.1 (show copySkip p = false from hs))]; simp⟩, ent_drop (aI rfl (aI rfl (aI rfl (aI rfl (aI rfl (aI rfl (aI rfl (aI (num_succ x.k) trivial)))))))) (aI ((aI rfl (Or.inl rfl))) (aI ((aI rfl (Or.inl rfl))) (aI (imap_le (Nat.le_refl _) (copyUpd_move hd' h2)) (aI ((aI rfl (Or.inl rfl))) (aI ((aI rfl (aI rfl (aI (by simp) (by simp [opC]))))) trivial))))) rfl rfl, by dsimp only; omega⟩
              · conv => whnf
                refine ⟨(x.k : Int) + 1, wr64 (by omega), ?_⟩
                conv => whnf
                refine ⟨⟨x.k + 1, copyUpd g p, x.out ++ [p], by omega, midF_upd hgm hpok, by simp; omega, by rw [heq, hat, if_neg (Bool.eq_false_iff.1 (show copySkip p = false from hs))]; simp⟩, ent_drop (aI rfl (aI rfl (aI rfl (aI rfl (aI rfl (aI rfl (aI rfl (aI (num_succ x.k) trivial)))))))) (aI ((aI rfl (Or.inl rfl))) (aI ((aI rfl (Or.inl rfl))) (aI (imap_le (Nat.le_succ _) (copyUpd_other hd' h2)) (aI ((aI rfl (Or.inl rfl))) (aI ((aI rfl (aI rfl (aI (by simp) (by simp [opC]))))) trivial))))) rfl rfl, by dsimp only; omega⟩
            · conv => whnf
              refine ⟨fun _ => ?_, nofun⟩
              conv => whnf
              refine op_entry rfl 2 8 b' q y.M I' x' (.int .i64 c) rfl rfl rfl rfl hent ?_
              conv => whnf
              refine ⟨fun hge => ?_, fun hge => ?_⟩
              · conv => whnf
                refine op_delete_in rfl Try.underlying64 2 8 b' q y.M I' _ cnt' x' rfl rfl rfl hrg' rfl hwf rfl (fun M' cnt2 hle hrg2 => ?_)
                conv => whnf
                exact ⟨⟨M', I', _, cnt2, hrg2.is (fun k _ => filt_drop hcx hlx (by simpa using hge) k)⟩, ent_same rfl (aI rfl (aI rfl (aI rfl (aI rfl (aI rfl (aI rfl (aI rfl (aI rfl (aI rfl (aI rfl (aI rfl trivial))))))))))) (aI ((aI rfl (Or.inl rfl))) (aI ((aI rfl (Or.inl rfl))) (aI ((fun _ _ h => h)) (aI ((aI rfl (Or.inl rfl))) (aI ((aI rfl (aI rfl (aI rfl rfl)))) (aI ((aI rfl (Or.inl rfl))) (aI (trivial) (aI (trivial) (aI ((fun _ _ h => h)) trivial))))))))), by dsimp only; omega⟩
              · conv => whnf
                exact ⟨⟨y.M, I', _, cnt', hrg'.is (fun k _ => filt_keep hcx hlx (by simpa using hge) k)⟩, ent_same rfl (aI rfl (aI rfl (aI rfl (aI rfl (aI rfl (aI rfl (aI rfl (aI rfl (aI rfl (aI rfl (aI rfl trivial))))))))))) (aI ((aI rfl (Or.inl rfl))) (aI ((aI rfl (Or.inl rfl))) (aI ((fun _ _ h => h)) (aI ((aI rfl (Or.inl rfl))) (aI ((aI rfl (aI rfl (aI rfl rfl)))) (aI ((aI rfl (Or.inl rfl))) (aI (trivial) (aI (trivial) (aI ((fun _ _ h => h)) trivial))))))))), by dsimp only; omega⟩
          · obtain ⟨p, hp⟩ : ∃ p, p = copyOp g o := ⟨_, rfl⟩
            have hpa : origS g false o.a = p.a := by rw [hp]; unfold copyOp; rw [show memI o.a (reads o) = false from hin]; simp
            have hpb : origS g (twoB o.code) o.b = p.b := by rw [hp]; rfl
            have hpc : o.code = p.code := by rw [hp]; rfl
            have hpd : o.d = p.d := by rw [hp]; rfl
            have hpn : o.n = p.n := by rw [hp]; rfl
            have hpok : p.ok := by rw [hp]; exact copyOp_ok hgm ho
            conv => whnf
            (refine ⟨(fun h => absurd h (by decide)), fun _ => ?_⟩; (conv => whnf))
            (refine ⟨(fun h => absurd h (by decide)), fun _ => ?_⟩; (conv => whnf))
            refine callq_orig (t := 64) (n := x.k) (s := g) 3 2 ?_ ?_ ho.a hpa ?_
            · rfl
            · rfl
            conv => whnf
            refine sat_tail 8 mixed (by kernel_rfl) ?_
            conv => whnf
            refine q_same rfl (by kernel_rfl) (fun r w' _ => two_any _ w') ?_
            conv => whnf
            refine callq_orig (t := 64) (n := x.k) (s := g) 3 2 ?_ ?_ ho.b hpb ?_
            · rfl
            · rfl
            rw [hpc, hpd, hpn]
            rw [← hp] at hat
            conv => whnf
            (apply Exists.intro; refine aI (fun h => ?_) ?_; (conv => whnf); exact ⟨rfl, rfl, rfl, rfl, rfl⟩; (conv => whnf))
            refine ⟨fun hs => ?_, fun hs => ?_⟩
            · conv => whnf
              refine ⟨(x.k : Int) + 1, wr64 (by omega), ?_⟩
              conv => whnf
              refine ⟨⟨x.k + 1, g, x.out, by omega, hgm, by omega, by rw [heq, hat, if_pos (show copySkip p = true from hs)]⟩, ent_drop (aI rfl (aI rfl (aI rfl (aI rfl (aI rfl (aI rfl (aI rfl (aI (num_succ x.k) trivial)))))))) (aI ((aI rfl (Or.inl rfl))) (aI ((aI rfl (Or.inl rfl))) (aI (imap_le (Nat.le_succ _) (fun _ => rfl)) (aI ((aI rfl (Or.inl rfl))) (aI ((aI rfl (aI rfl (aI rfl rfl)))) trivial))))) rfl rfl, by dsimp only; omega⟩
            conv => whnf
            refine appK_sound rfl ?_ rfl
            conv => whnf
            refine ⟨by omega, ?_⟩
            conv => whnf
            refine call_con rfl (by kernel_rfl) (fun r w' _ => writes_ir p w') ?_
            conv => whnf
            refine ⟨fun hd => ?_, fun hd => ?_⟩
            · conv => whnf
              have hd' : writes p < 0 := by simpa using hd
              have hu : copyUpd g p = g := by unfold copyUpd; rw [if_pos hd']
              refine ⟨(x.k : Int) + 1, wr64 (by omega), ?_⟩
              conv => whnf
              refine ⟨⟨x.k + 1, g, x.out ++ [p], by omega, hgm, by simp; omega, by rw [heq, hat, if_neg (Bool.eq_false_iff.1 (show copySkip p = false from hs)), hu]; simp⟩, ent_drop (aI rfl (aI rfl (aI rfl (aI rfl (aI rfl (aI rfl (aI rfl (aI (num_succ x.k) trivial)))))))) (aI ((aI rfl (Or.inl rfl))) (aI ((aI rfl (Or.inl rfl))) (aI (imap_le (Nat.le_succ _) (fun _ => rfl)) (aI ((aI rfl (Or.inl rfl))) (aI ((aI rfl (aI rfl (aI (by simp) (by simp [opC]))))) trivial))))) rfl rfl, by dsimp only; omega⟩
            have hd' : ¬ writes p < 0 := by simpa using hd
            conv => whnf
            refine op_delete rfl Try.underlying64 2 (writes p) rfl rfl rfl (wf_mid (writes_mid hpok)) rfl ?_
            conv => whnf
            refine op_range rfl Try.underlying64 2 rfl rfl rfl (fun b' q M I left cnt hrg hleft => ?_)
            conv => whnf
            refine ⟨FiltSt b' q x.k (mdel g (writes p)) (fun w => !(w == writes p)), fun y => [(1, .p (.c (.ref 0 0))), (2, .p (.c (.ref 1 0))), (3, .p (.c (.ref 3 0))), (4, .p (.c (.clo (.func 42) [.ref 3 0]))), (5, .p (.c (.row 4))), (21, one (.slice (some ⟨bb, off, none⟩) b.ops.length c3)), (22, one (.int .i64 b.ops.length)), (23, one (.int .i64 x.k)), (7, .p (.c (.ref 5 0))), (88, .p (.c (.ref 8 0))), (11, one (.int .i64 (writes p)))], fun y => [.cells 32 [.v (.slice A1 b.at_.length c1), .v (.slice A2 b.pages.length c2), .v (.slice (some ⟨bb, off, none⟩) b.ops.length c3)], .cells 32 [.v (.slice none 0 0), .v (.slice none 0 0), .v (.slice none 0 0)], objOw b' y.M, .cells 64 [.mp 2], .row 53 5 (x.out.length + 1) (x.out.flatMap opC ++ [.int .i64 p.code, .int .i64 p.d, .int .i64 p.a, .int .i64 p.b, .int .u32 p.n]), .cells 53 [.v (.int .i64 p.code), .v (.int .i64 p.d), .v (.int .i64 p.a), .v (.int .i64 p.b), .v (.int .u32 p.n)], .gone, .gone, objOw q y.I], fun y => y.cnt, ⟨⟨M, I, left, cnt, hrg.is (fun k hk => filt_start _ (hleft k hk))⟩, ?_⟩, fun y => ?_⟩
            · exact ent_same rfl (aI rfl (aI rfl (aI rfl (aI rfl (aI rfl (aI rfl (aI rfl (aI rfl (aI rfl (aI rfl (aI rfl trivial))))))))))) (aI ((aI rfl (Or.inl rfl))) (aI ((aI rfl (Or.inl rfl))) (aI ((fun _ _ h => h)) (aI ((aI rfl (Or.inl rfl))) (aI ((aI rfl (aI rfl (aI rfl rfl)))) (aI ((aI rfl (Or.inl rfl))) (aI (trivial) (aI (trivial) (aI ((fun _ _ h => h)) trivial)))))))))
            conv => whnf
            refine op_next_i64 rfl 2 8 b' q y.M y.I y.left y.cnt rfl rfl rfl y.h rfl (fun hno => ?_) (fun x' c I' cnt' hwf hlx hcx hlt' hrg' hent => ?_)
            · conv => whnf
              refine ⟨nofun, fun _ => ?_⟩
              conv => whnf
              refine ⟨[(1, .p (.c (.ref 0 0))), (2, .p (.c (.ref 1 0))), (3, .p (.c (.ref 3 0))), (4, .p (.c (.clo (.func 42) [.ref 3 0]))), (5, .p (.c (.row 4))), (21, one (.slice (some ⟨bb, off, none⟩) b.ops.length c3)), (22, one (.int .i64 b.ops.length)), (23, one (.int .i64 x.k)), (7, .p (.c (.ref 5 0))), (11, one (.int .i64 (writes p)))], [.cells 32 [.v (.slice A1 b.at_.length c1), .v (.slice A2 b.pages.length c2), .v (.slice (some ⟨bb, off, none⟩) b.ops.length c3)], .cells 32 [.v (.slice none 0 0), .v (.slice none 0 0), .v (.slice none 0 0)], mapOw i64R i64D x.k (copyKill g (writes p)), .cells 64 [.mp 2], .row 53 5 (x.out.length + 1) (x.out.flatMap opC ++ [.int .i64 p.code, .int .i64 p.d, .int .i64 p.a, .int .i64 p.b, .int .u32 p.n]), .cells 53 [.v (.int .i64 p.code), .v (.int .i64 p.d), .v (.int .i64 p.a), .v (.int .i64 p.b), .v (.int .u32 p.n)]], ent_drop (aI rfl (aI rfl (aI rfl (aI rfl (aI rfl (aI rfl (aI rfl (aI rfl (aI rfl (aI rfl trivial)))))))))) (aI ((aI rfl (Or.inl rfl))) (aI ((aI rfl (Or.inl rfl))) (aI (obj_le_wf y.h (Nat.le_refl _) (fun k hk => (filt_end (hno k hk)).trans rfl)) (aI ((aI rfl (Or.inl rfl))) (aI ((aI rfl (aI rfl (aI rfl rfl)))) (aI ((aI rfl (Or.inl rfl))) trivial)))))) rfl rfl, ?_⟩
              conv => whnf
              refine ⟨fun h2 => ?_, fun h2 => ?_⟩
              · conv => whnf
                refine op_mapUpdate rfl Try.underlying64 i64Elems 2 (writes p) p.a rfl rfl rfl rfl (by omega) (wf_mid (writes_mid hpok)) hpok.a rfl ?_
                conv => whnf
                refine ⟨(x.k : Int) + 1, wr64 (by omega), ?_⟩
                conv => whnf
                refine ⟨⟨x.k + 1, copyUpd g p, x.out ++ [p], by omega, midF_upd hgm hpok, by simp; omega, by rw [heq, hat, if_neg (Bool.eq_false_iff.1 (show copySkip p = false from hs))]; simp⟩, ent_drop (aI rfl (aI rfl (aI rfl (aI rfl (aI rfl (aI rfl (aI rfl (aI (num_succ x.k) trivial)))))))) (aI ((aI rfl (Or.inl rfl))) (aI ((aI rfl (Or.inl rfl))) (aI (imap_le (Nat.le_refl _) (copyUpd_move hd' h2)) (aI ((aI rfl (Or.inl rfl))) (aI ((aI rfl (aI rfl (aI (by simp) (by simp [opC]))))) trivial))))) rfl rfl, by dsimp only; omega⟩
              · conv => whnf
                refine ⟨(x.k : Int) + 1, wr64 (by omega), ?_⟩
                conv => whnf
                refine ⟨⟨x.k + 1, copyUpd g p, x.out ++ [p], by omega, midF_upd hgm hpok, by simp; omega, by rw [heq, hat, if_neg (Bool.eq_false_iff.1 (show copySkip p = false from hs))]; simp⟩, ent_drop (aI rfl (aI rfl (aI rfl (aI rfl (aI rfl (aI rfl (aI rfl (aI (num_succ x.k) trivial)))))))) (aI ((aI rfl (Or.inl rfl))) (aI ((aI rfl (Or.inl rfl))) (aI (imap_le (Nat.le_succ _) (copyUpd_other hd' h2)) (aI ((aI rfl (Or.inl rfl))) (aI ((aI rfl (aI rfl (aI (by simp) (by simp [opC]))))) trivial))))) rfl rfl, by dsimp only; omega⟩
            · conv => whnf
              refine ⟨fun _ => ?_, nofun⟩
              conv => whnf
              refine op_entry rfl 2 8 b' q y.M I' x' (.int .i64 c) rfl rfl rfl rfl hent ?_
              conv => whnf
              refine ⟨fun hge => ?_, fun hge => ?_⟩
              · conv => whnf
                refine op_delete_in rfl Try.underlying64 2 8 b' q y.M I' _ cnt' x' rfl rfl rfl hrg' rfl hwf rfl (fun M' cnt2 hle hrg2 => ?_)
                conv => whnf
                exact ⟨⟨M', I', _, cnt2, hrg2.is (fun k _ => filt_drop hcx hlx (by simpa using hge) k)⟩, ent_same rfl (aI rfl (aI rfl (aI rfl (aI rfl (aI rfl (aI rfl (aI rfl (aI rfl (aI rfl (aI rfl (aI rfl trivial))))))))))) (aI ((aI rfl (Or.inl rfl))) (aI ((aI rfl (Or.inl rfl))) (aI ((fun _ _ h => h)) (aI ((aI rfl (Or.inl rfl))) (aI ((aI rfl (aI rfl (aI rfl rfl)))) (aI ((aI rfl (Or.inl rfl))) (aI (trivial) (aI (trivial) (aI ((fun _ _ h => h)) trivial))))))))), by dsimp only; omega⟩
              · conv => whnf
                exact ⟨⟨y.M, I', _, cnt', hrg'.is (fun k _ => filt_keep hcx hlx (by simpa using hge) k)⟩, ent_same rfl (aI rfl (aI rfl (aI rfl (aI rfl (aI rfl (aI rfl (aI rfl (aI rfl (aI rfl (aI rfl (aI rfl trivial))))))))))) (aI ((aI rfl (Or.inl rfl))) (aI ((aI rfl (Or.inl rfl))) (aI ((fun _ _ h => h)) (aI ((aI rfl (Or.inl rfl))) (aI ((aI rfl (aI rfl (aI rfl rfl)))) (aI ((aI rfl (Or.inl rfl))) (aI (trivial) (aI (trivial) (aI ((fun _ _ h => h)) trivial))))))))), by dsimp only; omega⟩
        · conv => whnf
          refine ⟨fun _ => ?_, nofun⟩
          conv => whnf
          refine op_entry rfl 2 6 b' q y.M I' x' (.int .i64 c) rfl rfl rfl rfl hent ?_
          conv => whnf
          refine ⟨fun hge => ?_, fun hge => ?_⟩
          · conv => whnf
            refine op_delete_in rfl Try.underlying64 2 6 b' q y.M I' _ cnt' x' rfl rfl rfl hrg' rfl hwf rfl (fun M' cnt2 hle hrg2 => ?_)
            conv => whnf
            exact ⟨⟨M', I', _, cnt2, hrg2.is (fun k _ => filt_drop hcx hlx (by simpa using hge) k)⟩, ent_same rfl (aI rfl (aI rfl (aI rfl (aI rfl (aI rfl (aI rfl (aI rfl (aI rfl (aI rfl (aI rfl trivial)))))))))) (aI ((aI rfl (Or.inl rfl))) (aI ((aI rfl (Or.inl rfl))) (aI ((fun _ _ h => h)) (aI ((aI rfl (Or.inl rfl))) (aI ((aI rfl (aI rfl (aI rfl rfl)))) (aI ((aI rfl (Or.inl rfl))) (aI ((fun _ _ h => h)) trivial))))))), by dsimp only; omega⟩
          · conv => whnf
            exact ⟨⟨y.M, I', _, cnt', hrg'.is (fun k _ => filt_keep hcx hlx (by simpa using hge) k)⟩, ent_same rfl (aI rfl (aI rfl (aI rfl (aI rfl (aI rfl (aI rfl (aI rfl (aI rfl (aI rfl (aI rfl trivial)))))))))) (aI ((aI rfl (Or.inl rfl))) (aI ((aI rfl (Or.inl rfl))) (aI ((fun _ _ h => h)) (aI ((aI rfl (Or.inl rfl))) (aI ((aI rfl (aI rfl (aI rfl rfl)))) (aI ((aI rfl (Or.inl rfl))) (aI ((fun _ _ h => h)) trivial))))))), by dsimp only; omega⟩
      · rw [show x.f = g by rw [hg]; unfold copyMark; rw [if_neg (Bool.eq_false_iff.1 hm)]]
        conv => whnf
        refine call_row rfl (by kernel_rfl) (fun r w' hR => reads_ir o w') ?_
        conv => whnf
        refine sat_tail 14 mixed (by kernel_rfl) ?_
        conv => whnf
        refine callq_contains 6 rfl rfl (by have := reads_len o; omega) ?_
        conv => whnf
        refine ⟨fun hin => ?_, fun hin => ?_⟩
        · obtain ⟨p, hp⟩ : ∃ p, p = copyOp g o := ⟨_, rfl⟩
          have hpa : origS g (o.code != 20) o.a = p.a := by rw [hp]; unfold copyOp; rw [hin]; simp
          have hpb : origS g (twoB o.code) o.b = p.b := by rw [hp]; rfl
          have hpc : o.code = p.code := by rw [hp]; rfl
          have hpd : o.d = p.d := by rw [hp]; rfl
          have hpn : o.n = p.n := by rw [hp]; rfl
          have hpok : p.ok := by rw [hp]; exact copyOp_ok hgm ho
          conv => whnf
          (refine ⟨fun _ => ?_, (fun h => absurd h (by decide))⟩; (conv => whnf))
          (refine ⟨fun _ => ?_, (fun h => absurd h (by decide))⟩; (conv => whnf))
          refine callq_orig (t := 64) (n := x.k) (s := g) 3 2 ?_ ?_ ho.a hpa ?_
          · rfl
          · rfl
          conv => whnf
          refine sat_tail 8 mixed (by kernel_rfl) ?_
          conv => whnf
          refine q_same rfl (by kernel_rfl) (fun r w' _ => two_any _ w') ?_
          conv => whnf
          refine callq_orig (t := 64) (n := x.k) (s := g) 3 2 ?_ ?_ ho.b hpb ?_
          · rfl
          · rfl
          rw [hpc, hpd, hpn]
          rw [← hp] at hat
          conv => whnf
          (apply Exists.intro; refine aI (fun h => ?_) ?_; (conv => whnf); exact ⟨rfl, rfl, rfl, rfl, rfl⟩; (conv => whnf))
          refine ⟨fun hs => ?_, fun hs => ?_⟩
          · conv => whnf
            refine ⟨(x.k : Int) + 1, wr64 (by omega), ?_⟩
            conv => whnf
            refine ⟨⟨x.k + 1, g, x.out, by omega, hgm, by omega, by rw [heq, hat, if_pos (show copySkip p = true from hs)]⟩, ent_drop (aI rfl (aI rfl (aI rfl (aI rfl (aI rfl (aI rfl (aI rfl (aI (num_succ x.k) trivial)))))))) (aI ((aI rfl (Or.inl rfl))) (aI ((aI rfl (Or.inl rfl))) (aI (imap_le (Nat.le_succ _) (fun _ => rfl)) (aI ((aI rfl (Or.inl rfl))) (aI ((aI rfl (aI rfl (aI rfl rfl)))) trivial))))) rfl rfl, by dsimp only; omega⟩
          conv => whnf
          refine appK_sound rfl ?_ rfl
          conv => whnf
          refine ⟨by omega, ?_⟩
          conv => whnf
          refine call_con rfl (by kernel_rfl) (fun r w' _ => writes_ir p w') ?_
          conv => whnf
          refine ⟨fun hd => ?_, fun hd => ?_⟩
          · conv => whnf
            have hd' : writes p < 0 := by simpa using hd
            have hu : copyUpd g p = g := by unfold copyUpd; rw [if_pos hd']
            refine ⟨(x.k : Int) + 1, wr64 (by omega), ?_⟩
            conv => whnf
            refine ⟨⟨x.k + 1, g, x.out ++ [p], by omega, hgm, by simp; omega, by rw [heq, hat, if_neg (Bool.eq_false_iff.1 (show copySkip p = false from hs)), hu]; simp⟩, ent_drop (aI rfl (aI rfl (aI rfl (aI rfl (aI rfl (aI rfl (aI rfl (aI (num_succ x.k) trivial)))))))) (aI ((aI rfl (Or.inl rfl))) (aI ((aI rfl (Or.inl rfl))) (aI (imap_le (Nat.le_succ _) (fun _ => rfl)) (aI ((aI rfl (Or.inl rfl))) (aI ((aI rfl (aI rfl (aI (by simp) (by simp [opC]))))) trivial))))) rfl rfl, by dsimp only; omega⟩
          have hd' : ¬ writes p < 0 := by simpa using hd
          conv => whnf
          refine op_delete rfl Try.underlying64 2 (writes p) rfl rfl rfl (wf_mid (writes_mid hpok)) rfl ?_
          conv => whnf
          refine op_range rfl Try.underlying64 2 rfl rfl rfl (fun b' q M I left cnt hrg hleft => ?_)
          conv => whnf
          refine ⟨FiltSt b' q x.k (mdel g (writes p)) (fun w => !(w == writes p)), fun y => [(1, .p (.c (.ref 0 0))), (2, .p (.c (.ref 1 0))), (3, .p (.c (.ref 3 0))), (4, .p (.c (.clo (.func 42) [.ref 3 0]))), (5, .p (.c (.row 4))), (21, one (.slice (some ⟨bb, off, none⟩) b.ops.length c3)), (22, one (.int .i64 b.ops.length)), (23, one (.int .i64 x.k)), (7, .p (.c (.ref 5 0))), (88, .p (.c (.ref 8 0))), (11, one (.int .i64 (writes p)))], fun y => [.cells 32 [.v (.slice A1 b.at_.length c1), .v (.slice A2 b.pages.length c2), .v (.slice (some ⟨bb, off, none⟩) b.ops.length c3)], .cells 32 [.v (.slice none 0 0), .v (.slice none 0 0), .v (.slice none 0 0)], objOw b' y.M, .cells 64 [.mp 2], .row 53 5 (x.out.length + 1) (x.out.flatMap opC ++ [.int .i64 p.code, .int .i64 p.d, .int .i64 p.a, .int .i64 p.b, .int .u32 p.n]), .cells 53 [.v (.int .i64 p.code), .v (.int .i64 p.d), .v (.int .i64 p.a), .v (.int .i64 p.b), .v (.int .u32 p.n)], .gone, .gone, objOw q y.I], fun y => y.cnt, ⟨⟨M, I, left, cnt, hrg.is (fun k hk => filt_start _ (hleft k hk))⟩, ?_⟩, fun y => ?_⟩
          · exact ent_same rfl (aI rfl (aI rfl (aI rfl (aI rfl (aI rfl (aI rfl (aI rfl (aI rfl (aI rfl (aI rfl (aI rfl trivial))))))))))) (aI ((aI rfl (Or.inl rfl))) (aI ((aI rfl (Or.inl rfl))) (aI ((fun _ _ h => h)) (aI ((aI rfl (Or.inl rfl))) (aI ((aI rfl (aI rfl (aI rfl rfl)))) (aI ((aI rfl (Or.inl rfl))) (aI (trivial) (aI (trivial) (aI ((fun _ _ h => h)) trivial)))))))))
          conv => whnf
          refine op_next_i64 rfl 2 8 b' q y.M y.I y.left y.cnt rfl rfl rfl y.h rfl (fun hno => ?_) (fun x' c I' cnt' hwf hlx hcx hlt' hrg' hent => ?_)
          · conv => whnf
            refine ⟨nofun, fun _ => ?_⟩
            conv => whnf
            refine ⟨[(1, .p (.c (.ref 0 0))), (2, .p (.c (.ref 1 0))), (3, .p (.c (.ref 3 0))), (4, .p (.c (.clo (.func 42) [.ref 3 0]))), (5, .p (.c (.row 4))), (21, one (.slice (some ⟨bb, off, none⟩) b.ops.length c3)), (22, one (.int .i64 b.ops.length)), (23, one (.int .i64 x.k)), (7, .p (.c (.ref 5 0))), (11, one (.int .i64 (writes p)))], [.cells 32 [.v (.slice A1 b.at_.length c1), .v (.slice A2 b.pages.length c2), .v (.slice (some ⟨bb, off, none⟩) b.ops.length c3)], .cells 32 [.v (.slice none 0 0), .v (.slice none 0 0), .v (.slice none 0 0)], mapOw i64R i64D x.k (copyKill g (writes p)), .cells 64 [.mp 2], .row 53 5 (x.out.length + 1) (x.out.flatMap opC ++ [.int .i64 p.code, .int .i64 p.d, .int .i64 p.a, .int .i64 p.b, .int .u32 p.n]), .cells 53 [.v (.int .i64 p.code), .v (.int .i64 p.d), .v (.int .i64 p.a), .v (.int .i64 p.b), .v (.int .u32 p.n)]], ent_drop (aI rfl (aI rfl (aI rfl (aI rfl (aI rfl (aI rfl (aI rfl (aI rfl (aI rfl (aI rfl trivial)))))))))) (aI ((aI rfl (Or.inl rfl))) (aI ((aI rfl (Or.inl rfl))) (aI (obj_le_wf y.h (Nat.le_refl _) (fun k hk => (filt_end (hno k hk)).trans rfl)) (aI ((aI rfl (Or.inl rfl))) (aI ((aI rfl (aI rfl (aI rfl rfl)))) (aI ((aI rfl (Or.inl rfl))) trivial)))))) rfl rfl, ?_⟩
            conv => whnf
            refine ⟨fun h2 => ?_, fun h2 => ?_⟩
            · conv => whnf
              refine op_mapUpdate rfl Try.underlying64 i64Elems 2 (writes p) p.a rfl rfl rfl rfl (by omega) (wf_mid (writes_mid hpok)) hpok.a rfl ?_
              conv => whnf
              refine ⟨(x.k : Int) + 1, wr64 (by omega), ?_⟩
              conv => whnf
              refine ⟨⟨x.k + 1, copyUpd g p, x.out ++ [p], by omega, midF_upd hgm hpok, by simp; omega, by rw [heq, hat, if_neg (Bool.eq_false_iff.1 (show copySkip p = false from hs))]; simp⟩, ent_drop (aI rfl (aI rfl (aI rfl (aI rfl (aI rfl (aI rfl (aI rfl (aI (num_succ x.k) trivial)))))))) (aI ((aI rfl (Or.inl rfl))) (aI ((aI rfl (Or.inl rfl))) (aI (imap_le (Nat.le_refl _) (copyUpd_move hd' h2)) (aI ((aI rfl (Or.inl rfl))) (aI ((aI rfl (aI rfl (aI (by simp) (by simp [opC]))))) trivial))))) rfl rfl, by dsimp only; omega⟩
            · conv => whnf
              refine ⟨(x.k : Int) + 1, wr64 (by omega), ?_⟩
              conv => whnf
              refine ⟨⟨x.k + 1, copyUpd g p, x.out ++ [p], by omega, midF_upd hgm hpok, by simp; omega, by rw [heq, hat, if_neg (Bool.eq_false_iff.1 (show copySkip p = false from hs))]; simp⟩, ent_drop (aI rfl (aI rfl (aI rfl (aI rfl (aI rfl (aI rfl (aI rfl (aI (num_succ x.k) trivial)))))))) (aI ((aI rfl (Or.inl rfl))) (aI ((aI rfl (Or.inl rfl))) (aI (imap_le (Nat.le_succ _) (copyUpd_other hd' h2)) (aI ((aI rfl (Or.inl rfl))) (aI ((aI rfl (aI rfl (aI (by simp) (by simp [opC]))))) trivial))))) rfl rfl, by dsimp only; omega⟩
          · conv => whnf
            refine ⟨fun _ => ?_, nofun⟩
            conv => whnf
            refine op_entry rfl 2 8 b' q y.M I' x' (.int .i64 c) rfl rfl rfl rfl hent ?_
            conv => whnf
            refine ⟨fun hge => ?_, fun hge => ?_⟩
            · conv => whnf
              refine op_delete_in rfl Try.underlying64 2 8 b' q y.M I' _ cnt' x' rfl rfl rfl hrg' rfl hwf rfl (fun M' cnt2 hle hrg2 => ?_)
              conv => whnf
              exact ⟨⟨M', I', _, cnt2, hrg2.is (fun k _ => filt_drop hcx hlx (by simpa using hge) k)⟩, ent_same rfl (aI rfl (aI rfl (aI rfl (aI rfl (aI rfl (aI rfl (aI rfl (aI rfl (aI rfl (aI rfl (aI rfl trivial))))))))))) (aI ((aI rfl (Or.inl rfl))) (aI ((aI rfl (Or.inl rfl))) (aI ((fun _ _ h => h)) (aI ((aI rfl (Or.inl rfl))) (aI ((aI rfl (aI rfl (aI rfl rfl)))) (aI ((aI rfl (Or.inl rfl))) (aI (trivial) (aI (trivial) (aI ((fun _ _ h => h)) trivial))))))))), by dsimp only; omega⟩
            · conv => whnf
              exact ⟨⟨y.M, I', _, cnt', hrg'.is (fun k _ => filt_keep hcx hlx (by simpa using hge) k)⟩, ent_same rfl (aI rfl (aI rfl (aI rfl (aI rfl (aI rfl (aI rfl (aI rfl (aI rfl (aI rfl (aI rfl (aI rfl trivial))))))))))) (aI ((aI rfl (Or.inl rfl))) (aI ((aI rfl (Or.inl rfl))) (aI ((fun _ _ h => h)) (aI ((aI rfl (Or.inl rfl))) (aI ((aI rfl (aI rfl (aI rfl rfl)))) (aI ((aI rfl (Or.inl rfl))) (aI (trivial) (aI (trivial) (aI ((fun _ _ h => h)) trivial))))))))), by dsimp only; omega⟩
        · obtain ⟨p, hp⟩ : ∃ p, p = copyOp g o := ⟨_, rfl⟩
          have hpa : origS g false o.a = p.a := by rw [hp]; unfold copyOp; rw [show memI o.a (reads o) = false from hin]; simp
          have hpb : origS g (twoB o.code) o.b = p.b := by rw [hp]; rfl
          have hpc : o.code = p.code := by rw [hp]; rfl
          have hpd : o.d = p.d := by rw [hp]; rfl
          have hpn : o.n = p.n := by rw [hp]; rfl
          have hpok : p.ok := by rw [hp]; exact copyOp_ok hgm ho
          conv => whnf
          (refine ⟨(fun h => absurd h (by decide)), fun _ => ?_⟩; (conv => whnf))
          (refine ⟨(fun h => absurd h (by decide)), fun _ => ?_⟩; (conv => whnf))
          refine callq_orig (t := 64) (n := x.k) (s := g) 3 2 ?_ ?_ ho.a hpa ?_
          · rfl
          · rfl
          conv => whnf
          refine sat_tail 8 mixed (by kernel_rfl) ?_
          conv => whnf
          refine q_same rfl (by kernel_rfl) (fun r w' _ => two_any _ w') ?_
          conv => whnf
          refine callq_orig (t := 64) (n := x.k) (s := g) 3 2 ?_ ?_ ho.b hpb ?_
          · rfl
          · rfl
          rw [hpc, hpd, hpn]
          rw [← hp] at hat
          conv => whnf
          (apply Exists.intro; refine aI (fun h => ?_) ?_; (conv => whnf); exact ⟨rfl, rfl, rfl, rfl, rfl⟩; (conv => whnf))
          refine ⟨fun hs => ?_, fun hs => ?_⟩
          · conv => whnf
            refine ⟨(x.k : Int) + 1, wr64 (by omega), ?_⟩
            conv => whnf
            refine ⟨⟨x.k + 1, g, x.out, by omega, hgm, by omega, by rw [heq, hat, if_pos (show copySkip p = true from hs)]⟩, ent_drop (aI rfl (aI rfl (aI rfl (aI rfl (aI rfl (aI rfl (aI rfl (aI (num_succ x.k) trivial)))))))) (aI ((aI rfl (Or.inl rfl))) (aI ((aI rfl (Or.inl rfl))) (aI (imap_le (Nat.le_succ _) (fun _ => rfl)) (aI ((aI rfl (Or.inl rfl))) (aI ((aI rfl (aI rfl (aI rfl rfl)))) trivial))))) rfl rfl, by dsimp only; omega⟩
          conv => whnf
          refine appK_sound rfl ?_ rfl
          conv => whnf
          refine ⟨by omega, ?_⟩
          conv => whnf
          refine call_con rfl (by kernel_rfl) (fun r w' _ => writes_ir p w') ?_
          conv => whnf
          refine ⟨fun hd => ?_, fun hd => ?_⟩
          · conv => whnf
            have hd' : writes p < 0 := by simpa using hd
            have hu : copyUpd g p = g := by unfold copyUpd; rw [if_pos hd']
            refine ⟨(x.k : Int) + 1, wr64 (by omega), ?_⟩
            conv => whnf
            refine ⟨⟨x.k + 1, g, x.out ++ [p], by omega, hgm, by simp; omega, by rw [heq, hat, if_neg (Bool.eq_false_iff.1 (show copySkip p = false from hs)), hu]; simp⟩, ent_drop (aI rfl (aI rfl (aI rfl (aI rfl (aI rfl (aI rfl (aI rfl (aI (num_succ x.k) trivial)))))))) (aI ((aI rfl (Or.inl rfl))) (aI ((aI rfl (Or.inl rfl))) (aI (imap_le (Nat.le_succ _) (fun _ => rfl)) (aI ((aI rfl (Or.inl rfl))) (aI ((aI rfl (aI rfl (aI (by simp) (by simp [opC]))))) trivial))))) rfl rfl, by dsimp only; omega⟩
          have hd' : ¬ writes p < 0 := by simpa using hd
          conv => whnf
          refine op_delete rfl Try.underlying64 2 (writes p) rfl rfl rfl (wf_mid (writes_mid hpok)) rfl ?_
          conv => whnf
          refine op_range rfl Try.underlying64 2 rfl rfl rfl (fun b' q M I left cnt hrg hleft => ?_)
          conv => whnf
          refine ⟨FiltSt b' q x.k (mdel g (writes p)) (fun w => !(w == writes p)), fun y => [(1, .p (.c (.ref 0 0))), (2, .p (.c (.ref 1 0))), (3, .p (.c (.ref 3 0))), (4, .p (.c (.clo (.func 42) [.ref 3 0]))), (5, .p (.c (.row 4))), (21, one (.slice (some ⟨bb, off, none⟩) b.ops.length c3)), (22, one (.int .i64 b.ops.length)), (23, one (.int .i64 x.k)), (7, .p (.c (.ref 5 0))), (88, .p (.c (.ref 8 0))), (11, one (.int .i64 (writes p)))], fun y => [.cells 32 [.v (.slice A1 b.at_.length c1), .v (.slice A2 b.pages.length c2), .v (.slice (some ⟨bb, off, none⟩) b.ops.length c3)], .cells 32 [.v (.slice none 0 0), .v (.slice none 0 0), .v (.slice none 0 0)], objOw b' y.M, .cells 64 [.mp 2], .row 53 5 (x.out.length + 1) (x.out.flatMap opC ++ [.int .i64 p.code, .int .i64 p.d, .int .i64 p.a, .int .i64 p.b, .int .u32 p.n]), .cells 53 [.v (.int .i64 p.code), .v (.int .i64 p.d), .v (.int .i64 p.a), .v (.int .i64 p.b), .v (.int .u32 p.n)], .gone, .gone, objOw q y.I], fun y => y.cnt, ⟨⟨M, I, left, cnt, hrg.is (fun k hk => filt_start _ (hleft k hk))⟩, ?_⟩, fun y => ?_⟩
          · exact ent_same rfl (aI rfl (aI rfl (aI rfl (aI rfl (aI rfl (aI rfl (aI rfl (aI rfl (aI rfl (aI rfl (aI rfl trivial))))))))))) (aI ((aI rfl (Or.inl rfl))) (aI ((aI rfl (Or.inl rfl))) (aI ((fun _ _ h => h)) (aI ((aI rfl (Or.inl rfl))) (aI ((aI rfl (aI rfl (aI rfl rfl)))) (aI ((aI rfl (Or.inl rfl))) (aI (trivial) (aI (trivial) (aI ((fun _ _ h => h)) trivial)))))))))
          conv => whnf
          refine op_next_i64 rfl 2 8 b' q y.M y.I y.left y.cnt rfl rfl rfl y.h rfl (fun hno => ?_) (fun x' c I' cnt' hwf hlx hcx hlt' hrg' hent => ?_)
          · conv => whnf
            refine ⟨nofun, fun _ => ?_⟩
            conv => whnf
            refine ⟨[(1, .p (.c (.ref 0 0))), (2, .p (.c (.ref 1 0))), (3, .p (.c (.ref 3 0))), (4, .p (.c (.clo (.func 42) [.ref 3 0]))), (5, .p (.c (.row 4))), (21, one (.slice (some ⟨bb, off, none⟩) b.ops.length c3)), (22, one (.int .i64 b.ops.length)), (23, one (.int .i64 x.k)), (7, .p (.c (.ref 5 0))), (11, one (.int .i64 (writes p)))], [.cells 32 [.v (.slice A1 b.at_.length c1), .v (.slice A2 b.pages.length c2), .v (.slice (some ⟨bb, off, none⟩) b.ops.length c3)], .cells 32 [.v (.slice none 0 0), .v (.slice none 0 0), .v (.slice none 0 0)], mapOw i64R i64D x.k (copyKill g (writes p)), .cells 64 [.mp 2], .row 53 5 (x.out.length + 1) (x.out.flatMap opC ++ [.int .i64 p.code, .int .i64 p.d, .int .i64 p.a, .int .i64 p.b, .int .u32 p.n]), .cells 53 [.v (.int .i64 p.code), .v (.int .i64 p.d), .v (.int .i64 p.a), .v (.int .i64 p.b), .v (.int .u32 p.n)]], ent_drop (aI rfl (aI rfl (aI rfl (aI rfl (aI rfl (aI rfl (aI rfl (aI rfl (aI rfl (aI rfl trivial)))))))))) (aI ((aI rfl (Or.inl rfl))) (aI ((aI rfl (Or.inl rfl))) (aI (obj_le_wf y.h (Nat.le_refl _) (fun k hk => (filt_end (hno k hk)).trans rfl)) (aI ((aI rfl (Or.inl rfl))) (aI ((aI rfl (aI rfl (aI rfl rfl)))) (aI ((aI rfl (Or.inl rfl))) trivial)))))) rfl rfl, ?_⟩
            conv => whnf
            refine ⟨fun h2 => ?_, fun h2 => ?_⟩
            · conv => whnf
              refine op_mapUpdate rfl Try.underlying64 i64Elems 2 (writes p) p.a rfl rfl rfl rfl (by omega) (wf_mid (writes_mid hpok)) hpok.a rfl ?_
              conv => whnf
              refine ⟨(x.k : Int) + 1, wr64 (by omega), ?_⟩
              conv => whnf
              refine ⟨⟨x.k + 1, copyUpd g p, x.out ++ [p], by omega, midF_upd hgm hpok, by simp; omega, by rw [heq, hat, if_neg (Bool.eq_false_iff.1 (show copySkip p = false from hs))]; simp⟩, ent_drop (aI rfl (aI rfl (aI rfl (aI rfl (aI rfl (aI rfl (aI rfl (aI (num_succ x.k) trivial)))))))) (aI ((aI rfl (Or.inl rfl))) (aI ((aI rfl (Or.inl rfl))) (aI (imap_le (Nat.le_refl _) (copyUpd_move hd' h2)) (aI ((aI rfl (Or.inl rfl))) (aI ((aI rfl (aI rfl (aI (by simp) (by simp [opC]))))) trivial))))) rfl rfl, by dsimp only; omega⟩
            · conv => whnf
              refine ⟨(x.k : Int) + 1, wr64 (by omega), ?_⟩
              conv => whnf
              refine ⟨⟨x.k + 1, copyUpd g p, x.out ++ [p], by omega, midF_upd hgm hpok, by simp; omega, by rw [heq, hat, if_neg (Bool.eq_false_iff.1 (show copySkip p = false from hs))]; simp⟩, ent_drop (aI rfl (aI rfl (aI rfl (aI rfl (aI rfl (aI rfl (aI rfl (aI (num_succ x.k) trivial)))))))) (aI ((aI rfl (Or.inl rfl))) (aI ((aI rfl (Or.inl rfl))) (aI (imap_le (Nat.le_succ _) (copyUpd_other hd' h2)) (aI ((aI rfl (Or.inl rfl))) (aI ((aI rfl (aI rfl (aI (by simp) (by simp [opC]))))) trivial))))) rfl rfl, by dsimp only; omega⟩
          · conv => whnf
            refine ⟨fun _ => ?_, nofun⟩
            conv => whnf
            refine op_entry rfl 2 8 b' q y.M I' x' (.int .i64 c) rfl rfl rfl rfl hent ?_
            conv => whnf
            refine ⟨fun hge => ?_, fun hge => ?_⟩
            · conv => whnf
              refine op_delete_in rfl Try.underlying64 2 8 b' q y.M I' _ cnt' x' rfl rfl rfl hrg' rfl hwf rfl (fun M' cnt2 hle hrg2 => ?_)
              conv => whnf
              exact ⟨⟨M', I', _, cnt2, hrg2.is (fun k _ => filt_drop hcx hlx (by simpa using hge) k)⟩, ent_same rfl (aI rfl (aI rfl (aI rfl (aI rfl (aI rfl (aI rfl (aI rfl (aI rfl (aI rfl (aI rfl (aI rfl trivial))))))))))) (aI ((aI rfl (Or.inl rfl))) (aI ((aI rfl (Or.inl rfl))) (aI ((fun _ _ h => h)) (aI ((aI rfl (Or.inl rfl))) (aI ((aI rfl (aI rfl (aI rfl rfl)))) (aI ((aI rfl (Or.inl rfl))) (aI (trivial) (aI (trivial) (aI ((fun _ _ h => h)) trivial))))))))), by dsimp only; omega⟩
            · conv => whnf
              exact ⟨⟨y.M, I', _, cnt', hrg'.is (fun k _ => filt_keep hcx hlx (by simpa using hge) k)⟩, ent_same rfl (aI rfl (aI rfl (aI rfl (aI rfl (aI rfl (aI rfl (aI rfl (aI rfl (aI rfl (aI rfl (aI rfl trivial))))))))))) (aI ((aI rfl (Or.inl rfl))) (aI ((aI rfl (Or.inl rfl))) (aI ((fun _ _ h => h)) (aI ((aI rfl (Or.inl rfl))) (aI ((aI rfl (aI rfl (aI rfl rfl)))) (aI ((aI rfl (Or.inl rfl))) (aI (trivial) (aI (trivial) (aI ((fun _ _ h => h)) trivial))))))))), by dsimp only; omega⟩
    · conv => whnf
      refine ⟨_, _, ent_refl, ?_⟩
      conv => whnf
      refine call_with 4 rfl ?_
      conv => whnf
      refine fin_block rfl rfl rfl fun w' A c e1 e2 e3 e4 e5 => ?_
      have he : copyAll b = x.out := by rw [hF, heq, List.drop_eq_nil_of_le (by have := of_decide_eq_false hc; omega)]; simp [copyRun]
      exact ⟨A, c, by rw [he], by rw [he]; exact e1, by rw [he]; exact e2, e3, .inl e4, e5⟩
end Go.Proofs.Ytmjfgnnefcimiaa
