/- Walks: the passes: Fold. make of a slice. Drawn regions in which memory is made: quiet operations are taken first, the others wait for one another. A built slice as a row that may be appended to. slices.Reverse on a row of operations: the shelf's contract. Walks: slices.Equal on operations. Functions that turn one block of cells that their caller owns, over states that are known part by part. -/
import Derived.OrdersHeld
import Derived.Shelf.SlicesQ.Reverse
import Derived.Ground.SlgnProg
import Derived.Test.YtmjfgnnefcimiaaK1
import Derived.Test.YtmjfgnnefcimiaaK12
import Derived.Test.YtmjfgnnefcimiaaK13
import Derived.Test.YtmjfgnnefcimiaaK14
import Derived.Test.YtmjfgnnefcimiaaK15
import Derived.Test.YtmjfgnnefcimiaaK16
import Derived.Test.YtmjfgnnefcimiaaK17
import Derived.Test.YtmjfgnnefcimiaaK19
import Derived.Test.YtmjfgnnefcimiaaK20
import Derived.Test.YtmjfgnnefcimiaaK21
import Derived.Test.YtmjfgnnefcimiaaK22
import Derived.Test.YtmjfgnnefcimiaaK3
import Derived.Test.YtmjfgnnefcimiaaK5
import Derived.Test.YtmjfgnnefcimiaaK6
namespace Go.Proofs.Ytmjfgnnefcimiaa
open Go.RowKit

theorem valid_pos {b : Blk} (h : validB b = true) : 0 < b.ops.length ∧ b.ops.length ≤ 2000 := by
  unfold validB headerB at h
  simp only [Bool.and_eq_true, decide_eq_true_eq] at h
  omega
theorem sl_later {w w' : World} {A : Option Addr} {xs : List Value} (h : SlAt w w.heap.size A xs) (hB : Below w.heap.size w w') : SlAt w' w'.heap.size A xs := (h.below hB (Nat.le_refl _)).more hB.size
structure FoldSt (n : Nat) (ops : List BOp) where
  k : Nat
  f : Int → Option Int
  out : List BOp
  hk : k ≤ n
  hw : wordsF f
  hl : out.length ≤ k
  eq : foldRun noneF ops = out ++ foldRun f (ops.drop k)
theorem foldUpd_put {f : Int → Option Int} {p : BOp} (hc : (p.code == 1) = true) (hd : 0 ≤ writes p) (j : Int) : mput (mdel f (writes p)) (writes p) p.n j = foldUpd f p j := by unfold foldUpd; rw [if_pos hc, if_pos hd]
theorem foldUpd_put2 {f : Int → Option Int} {p : BOp} (hc : (p.code == 1) = true) (hd : ¬ 0 ≤ writes p) (j : Int) : mput f (writes p) p.n j = foldUpd f p j := by unfold foldUpd; rw [if_pos hc, if_neg hd]
theorem foldUpd_del {f : Int → Option Int} {p : BOp} (hc : (p.code == 1) = false) (hd : 0 ≤ writes p) (j : Int) : mdel f (writes p) j = foldUpd f p j := by unfold foldUpd; rw [hc, if_neg (by simp), if_pos hd]
theorem foldUpd_not {f : Int → Option Int} {p : BOp} (hc : (p.code == 1) = false) (hd : ¬ 0 ≤ writes p) (j : Int) : f j = foldUpd f p j := by unfold foldUpd; rw [hc, if_neg (by simp), if_neg hd]
theorem call_with {w0 : World} {G : Gs} {S : List Ow} {K : AV → List Ow → Prop} {A1 A2 A3 : Option Addr} {n1 n2 n3 c1 c2 c3 : Nat} (i : Nat) {e : TypeId} {size n : Nat} {xs : List Value} (hi : S[i]? = some (.row e size n xs))
    (hK : K (.p (.agg [.v (.slice A1 n1 c1), .v (.slice A2 n2 c2), .row i])) S) : CallS Try.prog w0 G 41 [.p (.agg [.v (.slice A1 n1 c1), .v (.slice A2 n2 c2), .v (.slice A3 n3 c3)]), .p (.c (.row i))] S K := by
  refine ⟨by kernel_rfl, fun r w us hR hd => ?_⟩
  obtain ⟨u1, l1, rfl, d1, u2, l2, rfl, d2, d3⟩ := hd
  obtain rfl : l2 = [] := d3
  obtain rfl := AV.val_den (x := .agg #[.slice A1 n1 c1, .slice A2 n2 c2, .slice A3 n3 c3]) rfl d1
  have d2' := den_row d2
  obtain ⟨A, c, hu, _⟩ := hR.rowAt hi d2'
  subst hu
  refine (with_opt A1 A2 A3 A n1 n2 n3 n c1 c2 c3 c w).mono fun e w' ⟨h1, h2⟩ => ⟨.p (.agg [.v (.slice A1 n1 c1), .v (.slice A2 n2 c2), .row i]), _, S, r, h1, ⟨_, rfl, ?_⟩, hR.below h2, Env.le.refl r, hK⟩
  simp only [denL, CV.den]
  exact ⟨_, _, rfl, rfl, _, _, rfl, rfl, _, _, rfl, d2', rfl⟩
set_option maxRecDepth 100000 in
theorem fold_pass : Pass Try.prog 17 foldAll := by
  intro b A1 A2 A3 c1 c2 c3 w hb h1 h2 h3 hc3 hm3
  cases hv : validB b
  · have hF : foldAll b = b.ops := by unfold foldAll; rw [hv]; rfl
    refine calls_val [.agg #[.slice A1 b.at_.length c1, .slice A2 b.pages.length c2, .slice A3 b.ops.length c3]] Try.func17 Try.ntmps17 rfl (by simp) ?_
    conv => whnf
    refine call_con rfl (by kernel_rfl) (fun r w' hR => valid_ir A1 A2 A3 c1 c2 c3 b w' hb (sl_later h2 hR.toBelow) (sl_later h3 hR.toBelow)) ?_
    conv => whnf
    refine ⟨fun h => ?_, (fun h => by rw [hv] at h; cases h)⟩
    conv => whnf
    refine fin_val rfl fun w' hB => ⟨A3, c3, by rw [hF], by rw [hF]; exact sl_later h3 hB, by rw [hF]; exact hc3, hm3, .inr rfl, hB⟩
  · have hF : foldAll b = foldRun noneF b.ops := by unfold foldAll; rw [hv]; rfl
    obtain ⟨hpos, hmax⟩ := valid_pos hv
    obtain ⟨bb, off, rfl⟩ := ops_addr h3 hpos
    refine calls_val [.agg #[.slice A1 b.at_.length c1, .slice A2 b.pages.length c2, .slice (some ⟨bb, off, none⟩) b.ops.length c3]] Try.func17 Try.ntmps17 rfl (by simp) ?_
    conv => whnf
    refine call_con rfl (by kernel_rfl) (fun r w' hR => valid_ir A1 A2 _ c1 c2 c3 b w' hb (sl_later h2 hR.toBelow) (sl_later h3 hR.toBelow)) ?_
    conv => whnf
    refine ⟨(fun h => by rw [hv] at h; cases h), fun h => ?_⟩
    conv => whnf
    refine op_makeMap (R := u32R) (cd := u32D) rfl rfl ?_
    conv => whnf
    refine ⟨FoldSt b.ops.length b.ops, fun x => [(1, .p (.c (.ref 0 0))), (2, .p (.c (.ref 1 0))), (3, .p (.c (.ref 3 0))), (4, .p (.c (.row 4))), (18, one (.slice (some ⟨bb, off, none⟩) b.ops.length c3)), (19, one (.int .i64 b.ops.length)), (20, one (.int .i64 x.k))],
      fun x => [.cells 32 [.v (.slice A1 b.at_.length c1), .v (.slice A2 b.pages.length c2), .v (.slice (some ⟨bb, off, none⟩) b.ops.length c3)], .cells 32 [.v (.slice none 0 0), .v (.slice none 0 0), .v (.slice none 0 0)], mapOw u32R u32D x.k x.f, .cells 58 [.mp 2], .row 53 5 x.out.length (x.out.flatMap opC)],
      fun x => b.ops.length - x.k, ⟨⟨0, noneF, [], Nat.zero_le _, wordsF_none, Nat.le_refl _, by simp⟩, ?_⟩, fun x => ?_⟩
    · exact ent_trans (ent_row 4 53 5 rfl) (ent_same rfl (aI rfl (aI rfl (aI rfl (aI rfl (aI rfl (aI rfl (aI rfl trivial))))))) (aI ((aI rfl (Or.inl rfl))) (aI ((aI rfl (Or.inl rfl))) (aI ((fun _ _ h => h)) (aI ((aI rfl (Or.inl rfl))) (aI ((aI rfl (aI rfl (aI rfl rfl)))) trivial))))))
    have hk := x.hk
    have hl := x.hl
    have heq := x.eq
    conv => whnf
    refine ⟨fun hc => ?_, fun hc => ?_⟩
    · have hlt : x.k < b.ops.length := by simpa using hc
      obtain ⟨o, hx⟩ : ∃ o, b.ops[x.k]? = some o := ⟨_, List.getElem?_eq_getElem hlt⟩
      have ho : o.ok := hb.ops o (List.mem_of_getElem? hx)
      have hat := foldRun_at (f := x.f) hx
      conv => whnf
      refine ⟨⟨by omega, by omega⟩, ?_⟩
      conv => whnf
      refine ⟨opC o, cells_op h3 (by simp) hx, rfl, ?_⟩
      conv => whnf
      obtain ⟨g, hg⟩ : ∃ g, g = foldMark x.f o := ⟨_, rfl⟩
      have hgw : wordsF g := by rw [hg]; exact foldMark_words x.hw
      have hp : (foldB g o).1.ok := foldB_ok hgw ho
      rw [← hg] at hat
      obtain ⟨p, hpe⟩ : ∃ p, p = (foldB g o).1 := ⟨_, rfl⟩
      obtain ⟨kp, hkp⟩ : ∃ kp, kp = (foldB g o).2 := ⟨_, rfl⟩
      rw [← hpe, ← hkp] at hat
      rw [← hpe] at hp
      refine ⟨fun hm => ?_, fun hm => ?_⟩
      · conv => whnf
        refine call_map (m' := g) 2 rfl (by kernel_rfl) (fun w' b' hmap => (forget_u32 w' hmap).mono fun e w2 ⟨e1, e2, e3⟩ => ⟨e1, e2.is (fun j => by rw [hg]; unfold foldMark; rw [if_pos hm]), e3⟩) ?_
        conv => whnf
        refine callS_val (.tuple #[opV p, .bool kp]) (by kernel_rfl) (fun r w' us hR hd => ?_) ?_
        · obtain ⟨u1, l1, rfl, d1, u2, l2, rfl, d2, d3⟩ := hd
          obtain rfl : l2 = [] := d3
          obtain ⟨gb, hgb, rfl⟩ := den_ref d1
          obtain rfl := AV.val_den (x := opV o) rfl d2
          obtain ⟨b1, v1, e1, e2, e3⟩ := hR.cell (i := 3) (off := 0) rfl rfl
          rw [hgb] at e1; injection e1 with e1; subst e1
          simp only [CV.den] at e3
          obtain ⟨b2, e4, rfl⟩ := e3
          obtain ⟨b3, e5, hmap, _⟩ := hR.own 2 _ rfl
          rw [e4] at e5; injection e5 with e5; subst e5
          rw [hpe, hkp]
          exact fold_opt gb b2 x.k g o w' e2 (hR.new 3 gb hgb).1 hmap ho hgw
        conv => whnf
        refine ⟨fun hn => ?_, fun hn => ?_⟩
        · conv => whnf
          have hkf : kp = false := by simpa using hn
          refine ⟨(x.k : Int) + 1, wr64 (by omega), ?_⟩
          conv => whnf
          refine ⟨⟨x.k + 1, g, x.out, by omega, hgw, by omega, by rw [heq, hat, hkf]; rfl⟩, ent_drop (aI rfl (aI rfl (aI rfl (aI rfl (aI rfl (aI rfl (aI (num_succ x.k) trivial))))))) (aI ((aI rfl (Or.inl rfl))) (aI ((aI rfl (Or.inl rfl))) (aI (imap_le (Nat.le_succ _) (fun _ => rfl)) (aI ((aI rfl (Or.inl rfl))) (aI ((aI rfl (aI rfl (aI rfl rfl)))) trivial))))) rfl rfl, by dsimp only; omega⟩
        have hkt : kp = true := by simpa using hn
        conv => whnf
        refine appK_sound rfl ?_ rfl
        conv => whnf
        refine ⟨by omega, ?_⟩
        conv => whnf
        refine call_con rfl (by kernel_rfl) (fun r w' _ => writes_ir p w') ?_
        conv => whnf
        refine ⟨fun hd => ?_, fun hd => ?_⟩
        · have hd' : 0 ≤ writes p := by simpa using hd
          conv => whnf
          refine op_delete rfl Try.underlying56 2 (writes p) rfl rfl rfl (wf_mid (writes_mid hp)) rfl ?_
          conv => whnf
          refine ⟨fun h1 => ?_, fun h1 => ?_⟩
          · conv => whnf
            refine sat_tail 7 mixed (by kernel_rfl) ?_
            conv => whnf
            refine op_mapUpdate rfl Try.underlying56 u32Elems 2 (writes p) p.n rfl rfl rfl rfl (by omega) (wf_mid (writes_mid hp)) hp.n rfl ?_
            conv => whnf
            refine ⟨fun h2 => ?_, fun h2 => ?_⟩
            · conv => whnf
              refine ⟨_, _, ent_refl, ?_⟩
              conv => whnf
              refine call_with 4 rfl ?_
              conv => whnf
              refine fin_block (l := x.out ++ [p]) rfl (by simp) (by simp [opC]) fun w' A c e1 e2 e3 e4 e5 => ?_
              have he : foldAll b = x.out ++ [p] := by rw [hF, heq, hat, hkt, if_pos rfl, if_pos h2]
              exact ⟨A, c, by rw [he], by rw [he]; exact e1, by rw [he]; exact e2, e3, .inl e4, e5⟩
            · conv => whnf
              refine ⟨(x.k : Int) + 1, wr64 (by omega), ?_⟩
              conv => whnf
              refine ⟨⟨x.k + 1, foldUpd g p, x.out ++ [p], by omega, foldUpd_words hgw hp, by simp; omega, by rw [heq, hat, hkt, if_pos rfl, if_neg (Bool.eq_false_iff.1 h2)]; simp⟩, ent_drop (aI rfl (aI rfl (aI rfl (aI rfl (aI rfl (aI rfl (aI (num_succ x.k) trivial))))))) (aI ((aI rfl (Or.inl rfl))) (aI ((aI rfl (Or.inl rfl))) (aI (imap_le (by simp) (foldUpd_put h1 hd')) (aI ((aI rfl (Or.inl rfl))) (aI ((aI rfl (aI rfl (aI (by simp) (by simp [opC]))))) trivial))))) rfl rfl, by dsimp only; omega⟩
          · conv => whnf
            refine ⟨fun h2 => ?_, fun h2 => ?_⟩
            · conv => whnf
              refine ⟨_, _, ent_refl, ?_⟩
              conv => whnf
              refine call_with 4 rfl ?_
              conv => whnf
              refine fin_block (l := x.out ++ [p]) rfl (by simp) (by simp [opC]) fun w' A c e1 e2 e3 e4 e5 => ?_
              have he : foldAll b = x.out ++ [p] := by rw [hF, heq, hat, hkt, if_pos rfl, if_pos h2]
              exact ⟨A, c, by rw [he], by rw [he]; exact e1, by rw [he]; exact e2, e3, .inl e4, e5⟩
            · conv => whnf
              refine ⟨(x.k : Int) + 1, wr64 (by omega), ?_⟩
              conv => whnf
              refine ⟨⟨x.k + 1, foldUpd g p, x.out ++ [p], by omega, foldUpd_words hgw hp, by simp; omega, by rw [heq, hat, hkt, if_pos rfl, if_neg (Bool.eq_false_iff.1 h2)]; simp⟩, ent_drop (aI rfl (aI rfl (aI rfl (aI rfl (aI rfl (aI rfl (aI (num_succ x.k) trivial))))))) (aI ((aI rfl (Or.inl rfl))) (aI ((aI rfl (Or.inl rfl))) (aI (imap_le (by simp) (foldUpd_del h1 hd')) (aI ((aI rfl (Or.inl rfl))) (aI ((aI rfl (aI rfl (aI (by simp) (by simp [opC]))))) trivial))))) rfl rfl, by dsimp only; omega⟩
        · have hd' : ¬ 0 ≤ writes p := by simpa using hd
          conv => whnf
          refine ⟨fun h1 => ?_, fun h1 => ?_⟩
          · conv => whnf
            refine sat_tail 7 mixed (by kernel_rfl) ?_
            conv => whnf
            refine op_mapUpdate rfl Try.underlying56 u32Elems 2 (writes p) p.n rfl rfl rfl rfl (by omega) (wf_mid (writes_mid hp)) hp.n rfl ?_
            conv => whnf
            refine ⟨fun h2 => ?_, fun h2 => ?_⟩
            · conv => whnf
              refine ⟨_, _, ent_refl, ?_⟩
              conv => whnf
              refine call_with 4 rfl ?_
              conv => whnf
              refine fin_block (l := x.out ++ [p]) rfl (by simp) (by simp [opC]) fun w' A c e1 e2 e3 e4 e5 => ?_
              have he : foldAll b = x.out ++ [p] := by rw [hF, heq, hat, hkt, if_pos rfl, if_pos h2]
              exact ⟨A, c, by rw [he], by rw [he]; exact e1, by rw [he]; exact e2, e3, .inl e4, e5⟩
            · conv => whnf
              refine ⟨(x.k : Int) + 1, wr64 (by omega), ?_⟩
              conv => whnf
              refine ⟨⟨x.k + 1, foldUpd g p, x.out ++ [p], by omega, foldUpd_words hgw hp, by simp; omega, by rw [heq, hat, hkt, if_pos rfl, if_neg (Bool.eq_false_iff.1 h2)]; simp⟩, ent_drop (aI rfl (aI rfl (aI rfl (aI rfl (aI rfl (aI rfl (aI (num_succ x.k) trivial))))))) (aI ((aI rfl (Or.inl rfl))) (aI ((aI rfl (Or.inl rfl))) (aI (imap_le (by simp) (foldUpd_put2 h1 hd')) (aI ((aI rfl (Or.inl rfl))) (aI ((aI rfl (aI rfl (aI (by simp) (by simp [opC]))))) trivial))))) rfl rfl, by dsimp only; omega⟩
          · conv => whnf
            refine ⟨fun h2 => ?_, fun h2 => ?_⟩
            · conv => whnf
              refine ⟨_, _, ent_refl, ?_⟩
              conv => whnf
              refine call_with 4 rfl ?_
              conv => whnf
              refine fin_block (l := x.out ++ [p]) rfl (by simp) (by simp [opC]) fun w' A c e1 e2 e3 e4 e5 => ?_
              have he : foldAll b = x.out ++ [p] := by rw [hF, heq, hat, hkt, if_pos rfl, if_pos h2]
              exact ⟨A, c, by rw [he], by rw [he]; exact e1, by rw [he]; exact e2, e3, .inl e4, e5⟩
            · conv => whnf
              refine ⟨(x.k : Int) + 1, wr64 (by omega), ?_⟩
              conv => whnf
              refine ⟨⟨x.k + 1, foldUpd g p, x.out ++ [p], by omega, foldUpd_words hgw hp, by simp; omega, by rw [heq, hat, hkt, if_pos rfl, if_neg (Bool.eq_false_iff.1 h2)]; simp⟩, ent_drop (aI rfl (aI rfl (aI rfl (aI rfl (aI rfl (aI rfl (aI (num_succ x.k) trivial))))))) (aI ((aI rfl (Or.inl rfl))) (aI ((aI rfl (Or.inl rfl))) (aI (imap_le (by simp) (foldUpd_not h1 hd')) (aI ((aI rfl (Or.inl rfl))) (aI ((aI rfl (aI rfl (aI (by simp) (by simp [opC]))))) trivial))))) rfl rfl, by dsimp only; omega⟩
      · rw [show x.f = g by rw [hg]; unfold foldMark; rw [if_neg (Bool.eq_false_iff.1 hm)]]
        conv => whnf
        refine callS_val (.tuple #[opV p, .bool kp]) (by kernel_rfl) (fun r w' us hR hd => ?_) ?_
        · obtain ⟨u1, l1, rfl, d1, u2, l2, rfl, d2, d3⟩ := hd
          obtain rfl : l2 = [] := d3
          obtain ⟨gb, hgb, rfl⟩ := den_ref d1
          obtain rfl := AV.val_den (x := opV o) rfl d2
          obtain ⟨b1, v1, e1, e2, e3⟩ := hR.cell (i := 3) (off := 0) rfl rfl
          rw [hgb] at e1; injection e1 with e1; subst e1
          simp only [CV.den] at e3
          obtain ⟨b2, e4, rfl⟩ := e3
          obtain ⟨b3, e5, hmap, _⟩ := hR.own 2 _ rfl
          rw [e4] at e5; injection e5 with e5; subst e5
          rw [hpe, hkp]
          exact fold_opt gb b2 x.k g o w' e2 (hR.new 3 gb hgb).1 hmap ho hgw
        conv => whnf
        refine ⟨fun hn => ?_, fun hn => ?_⟩
        · conv => whnf
          have hkf : kp = false := by simpa using hn
          refine ⟨(x.k : Int) + 1, wr64 (by omega), ?_⟩
          conv => whnf
          refine ⟨⟨x.k + 1, g, x.out, by omega, hgw, by omega, by rw [heq, hat, hkf]; rfl⟩, ent_drop (aI rfl (aI rfl (aI rfl (aI rfl (aI rfl (aI rfl (aI (num_succ x.k) trivial))))))) (aI ((aI rfl (Or.inl rfl))) (aI ((aI rfl (Or.inl rfl))) (aI (imap_le (Nat.le_succ _) (fun _ => rfl)) (aI ((aI rfl (Or.inl rfl))) (aI ((aI rfl (aI rfl (aI rfl rfl)))) trivial))))) rfl rfl, by dsimp only; omega⟩
        have hkt : kp = true := by simpa using hn
        conv => whnf
        refine appK_sound rfl ?_ rfl
        conv => whnf
        refine ⟨by omega, ?_⟩
        conv => whnf
        refine call_con rfl (by kernel_rfl) (fun r w' _ => writes_ir p w') ?_
        conv => whnf
        refine ⟨fun hd => ?_, fun hd => ?_⟩
        · have hd' : 0 ≤ writes p := by simpa using hd
          conv => whnf
          refine op_delete rfl Try.underlying56 2 (writes p) rfl rfl rfl (wf_mid (writes_mid hp)) rfl ?_
          conv => whnf
          refine ⟨fun h1 => ?_, fun h1 => ?_⟩
          · conv => whnf
            refine sat_tail 7 mixed (by kernel_rfl) ?_
            conv => whnf
            refine op_mapUpdate rfl Try.underlying56 u32Elems 2 (writes p) p.n rfl rfl rfl rfl (by omega) (wf_mid (writes_mid hp)) hp.n rfl ?_
            conv => whnf
            refine ⟨fun h2 => ?_, fun h2 => ?_⟩
            · conv => whnf
              refine ⟨_, _, ent_refl, ?_⟩
              conv => whnf
              refine call_with 4 rfl ?_
              conv => whnf
              refine fin_block (l := x.out ++ [p]) rfl (by simp) (by simp [opC]) fun w' A c e1 e2 e3 e4 e5 => ?_
              have he : foldAll b = x.out ++ [p] := by rw [hF, heq, hat, hkt, if_pos rfl, if_pos h2]
              exact ⟨A, c, by rw [he], by rw [he]; exact e1, by rw [he]; exact e2, e3, .inl e4, e5⟩
            · conv => whnf
              refine ⟨(x.k : Int) + 1, wr64 (by omega), ?_⟩
              conv => whnf
              refine ⟨⟨x.k + 1, foldUpd g p, x.out ++ [p], by omega, foldUpd_words hgw hp, by simp; omega, by rw [heq, hat, hkt, if_pos rfl, if_neg (Bool.eq_false_iff.1 h2)]; simp⟩, ent_drop (aI rfl (aI rfl (aI rfl (aI rfl (aI rfl (aI rfl (aI (num_succ x.k) trivial))))))) (aI ((aI rfl (Or.inl rfl))) (aI ((aI rfl (Or.inl rfl))) (aI (imap_le (by simp) (foldUpd_put h1 hd')) (aI ((aI rfl (Or.inl rfl))) (aI ((aI rfl (aI rfl (aI (by simp) (by simp [opC]))))) trivial))))) rfl rfl, by dsimp only; omega⟩
          · conv => whnf
            refine ⟨fun h2 => ?_, fun h2 => ?_⟩
            · conv => whnf
              refine ⟨_, _, ent_refl, ?_⟩
              conv => whnf
              refine call_with 4 rfl ?_
              conv => whnf
              refine fin_block (l := x.out ++ [p]) rfl (by simp) (by simp [opC]) fun w' A c e1 e2 e3 e4 e5 => ?_
              have he : foldAll b = x.out ++ [p] := by rw [hF, heq, hat, hkt, if_pos rfl, if_pos h2]
              exact ⟨A, c, by rw [he], by rw [he]; exact e1, by rw [he]; exact e2, e3, .inl e4, e5⟩
            · conv => whnf
              refine ⟨(x.k : Int) + 1, wr64 (by omega), ?_⟩
              conv => whnf
              refine ⟨⟨x.k + 1, foldUpd g p, x.out ++ [p], by omega, foldUpd_words hgw hp, by simp; omega, by rw [heq, hat, hkt, if_pos rfl, if_neg (Bool.eq_false_iff.1 h2)]; simp⟩, ent_drop (aI rfl (aI rfl (aI rfl (aI rfl (aI rfl (aI rfl (aI (num_succ x.k) trivial))))))) (aI ((aI rfl (Or.inl rfl))) (aI ((aI rfl (Or.inl rfl))) (aI (imap_le (by simp) (foldUpd_del h1 hd')) (aI ((aI rfl (Or.inl rfl))) (aI ((aI rfl (aI rfl (aI (by simp) (by simp [opC]))))) trivial))))) rfl rfl, by dsimp only; omega⟩
        · have hd' : ¬ 0 ≤ writes p := by simpa using hd
          conv => whnf
          refine ⟨fun h1 => ?_, fun h1 => ?_⟩
          · conv => whnf
            refine sat_tail 7 mixed (by kernel_rfl) ?_
            conv => whnf
            refine op_mapUpdate rfl Try.underlying56 u32Elems 2 (writes p) p.n rfl rfl rfl rfl (by omega) (wf_mid (writes_mid hp)) hp.n rfl ?_
            conv => whnf
            refine ⟨fun h2 => ?_, fun h2 => ?_⟩
            · conv => whnf
              refine ⟨_, _, ent_refl, ?_⟩
              conv => whnf
              refine call_with 4 rfl ?_
              conv => whnf
              refine fin_block (l := x.out ++ [p]) rfl (by simp) (by simp [opC]) fun w' A c e1 e2 e3 e4 e5 => ?_
              have he : foldAll b = x.out ++ [p] := by rw [hF, heq, hat, hkt, if_pos rfl, if_pos h2]
              exact ⟨A, c, by rw [he], by rw [he]; exact e1, by rw [he]; exact e2, e3, .inl e4, e5⟩
            · conv => whnf
              refine ⟨(x.k : Int) + 1, wr64 (by omega), ?_⟩
              conv => whnf
              refine ⟨⟨x.k + 1, foldUpd g p, x.out ++ [p], by omega, foldUpd_words hgw hp, by simp; omega, by rw [heq, hat, hkt, if_pos rfl, if_neg (Bool.eq_false_iff.1 h2)]; simp⟩, ent_drop (aI rfl (aI rfl (aI rfl (aI rfl (aI rfl (aI rfl (aI (num_succ x.k) trivial))))))) (aI ((aI rfl (Or.inl rfl))) (aI ((aI rfl (Or.inl rfl))) (aI (imap_le (by simp) (foldUpd_put2 h1 hd')) (aI ((aI rfl (Or.inl rfl))) (aI ((aI rfl (aI rfl (aI (by simp) (by simp [opC]))))) trivial))))) rfl rfl, by dsimp only; omega⟩
          · conv => whnf
            refine ⟨fun h2 => ?_, fun h2 => ?_⟩
            · conv => whnf
              refine ⟨_, _, ent_refl, ?_⟩
              conv => whnf
              refine call_with 4 rfl ?_
              conv => whnf
              refine fin_block (l := x.out ++ [p]) rfl (by simp) (by simp [opC]) fun w' A c e1 e2 e3 e4 e5 => ?_
              have he : foldAll b = x.out ++ [p] := by rw [hF, heq, hat, hkt, if_pos rfl, if_pos h2]
              exact ⟨A, c, by rw [he], by rw [he]; exact e1, by rw [he]; exact e2, e3, .inl e4, e5⟩
            · conv => whnf
              refine ⟨(x.k : Int) + 1, wr64 (by omega), ?_⟩
              conv => whnf
              refine ⟨⟨x.k + 1, foldUpd g p, x.out ++ [p], by omega, foldUpd_words hgw hp, by simp; omega, by rw [heq, hat, hkt, if_pos rfl, if_neg (Bool.eq_false_iff.1 h2)]; simp⟩, ent_drop (aI rfl (aI rfl (aI rfl (aI rfl (aI rfl (aI rfl (aI (num_succ x.k) trivial))))))) (aI ((aI rfl (Or.inl rfl))) (aI ((aI rfl (Or.inl rfl))) (aI (imap_le (by simp) (foldUpd_not h1 hd')) (aI ((aI rfl (Or.inl rfl))) (aI ((aI rfl (aI rfl (aI (by simp) (by simp [opC]))))) trivial))))) rfl rfl, by dsimp only; omega⟩
    · conv => whnf
      refine ⟨_, _, ent_refl, ?_⟩
      conv => whnf
      refine call_with 4 rfl ?_
      conv => whnf
      refine fin_block rfl rfl rfl fun w' A c e1 e2 e3 e4 e5 => ?_
      have he : foldAll b = x.out := by rw [hF, heq, List.drop_eq_nil_of_le (by have := of_decide_eq_false hc; omega)]; simp [foldRun]
      exact ⟨A, c, by rw [he], by rw [he]; exact e1, by rw [he]; exact e2, e3, .inl e4, e5⟩
end Go.Proofs.Ytmjfgnnefcimiaa
namespace Go.Proofs.Ytmjfgnnefcimiaa
open Go.RowKit

theorem op_makeSlice {P : Program} {w0 : World} {G : Gs} {N : Nd} {o : Oper} {f : Fr} {S : List Ow} {K : Fr → List Ow → Prop} {t e : TypeId} {i : TypeInfo} {z : Value} {x y : Operand} (size n : Nat) (hop : o.op = .makeSlice t x y) (ht : P.underlying t = some (.slice e)) (hi : P.info? e = some i) (hz : i.zero = some z) (hsize : i.size = size)
    (hx : f.ev x = one (.int .i64 (n : Int))) (hy : f.ev y = one (.int .i64 (n : Int))) (hn : n * size ≤ 16777216) (hb : i.bytes * n ≤ 281474976710656) (hm : n ≤ maxLen) (hdst : dstOk N.n o.dst = true) {xs : List Value} (hxs : (madeCells z.cells (n * size)).toList = xs)
    (hk : K (f.put o.dst (.p (.c (.row S.length)))) (S ++ [.row e size n xs])) : OpS P w0 G N o f S K := by
  refine ⟨fun r a w hR hf hN hd next Q hK => ?_⟩
  have h1 := hf.ev x
  have h2 := hf.ev y
  rw [hx] at h1; rw [hy] at h2
  obtain ⟨w', hrun, hown, hg⟩ := run_makeSlice_full (w := w) 0 t e i z size ht hi hz hsize .i64 .i64 n hn hb hm (Nat.zero_le _)
  rw [hxs] at hown
  have hex : (execOp a.eval o).run P w = .ok (.value (.slice (some ⟨w.heap.size, 0, none⟩) n n)) w' := by
    simp [execOp, hop, den_v h1, den_v h2, hrun]
  have hB : Below w.heap.size w w' := ⟨hg.os, hg.tape, hg.output, hg.size, fun k hk => hg.block k hk (by simp)⟩
  have hlt : w.heap.size < w'.heap.size := by
    rcases hown.2 with ⟨h, _⟩ | ⟨g, cap, cur, h, _, hh, _⟩
    · cases h
    · injection h with h; injection h with h; injection h with h; subst h; exact (Array.getElem?_eq_some_iff.1 hh).1
  have hle := hR.le_new (some w.heap.size) (some (.slice (some ⟨w.heap.size, 0, none⟩) n n))
  refine wp_of_value hex (hK _ _ _ _ hk (good_value hR hf hN hd hdst (r' := r.set S.length (some w.heap.size) (some (.slice (some ⟨w.heap.size, 0, none⟩) n n))) ?_ (hR.snoc hB (fun x hx => by injection hx with hx; subst hx; exact ⟨Nat.le_refl _, hlt⟩) ⟨_, by simp [Env.set], by simp [Env.set, Value.ownBlock], hown⟩) hle))
  simp only [AV.den, Pc.den, CV.den]
  simp [Env.set]
/-- The end of a function that hands back a row. -/
theorem fin_row {w0 : World} {S : List Ow} {i n size : Nat} {e : TypeId} {xs : List Value} {R : Ending → World → Prop} (hi : S[i]? = some (.row e size n xs))
    (h : ∀ w' A c, SlAt w' w'.heap.size A xs → n ≤ c → c ≤ maxLen → Fresh w0.heap.size A → Below w0.heap.size w0 w' → R (.returned (.slice A n c)) w') : Fin w0 Gs.nil S (.p (.c (.row i))) R := by
  refine ⟨fun r w u hR hd => ?_⟩
  obtain ⟨A, c, hu, hs, hc, hm⟩ := hR.rowAt hi (den_row hd)
  have d3 := den_row hd
  subst hu
  refine h w A c hs hc hm (fun b off sp hA => ?_) hR.toBelow
  subst hA
  obtain ⟨v, hv, hob, _⟩ := hR.own i _ hi
  rw [d3] at hv; injection hv with hv; subst hv
  have hb : r.blk i = some b := by rw [← hob]; rfl
  rcases Nat.lt_or_ge b w0.heap.size with h1 | h1
  · have := (hR.new i b hb).2 h1; simp at this
  · exact h1
end Go.Proofs.Ytmjfgnnefcimiaa
namespace Go.Proofs.Ytmjfgnnefcimiaa
open Go.RowKit

def plainF : Fr → Fr
  | [] => []
  | (d, x) :: f => match x.fx (fun _ => false) with | true => (d, x) :: plainF f | false => (d, .p (.c .any)) :: plainF f
theorem plain_den {r : Env} {f : Fr} {a : Act} (hf : FDen r f a) : FDen Env.none (plainF f) a := by
  have key : ∀ f : Fr, ∀ k u, (f.get k).den r u → ((plainF f).get k).den Env.none u := by
    intro f
    induction f with
    | nil => intro k u _; simp [plainF, Fr.get, AV.den, Pc.den, CV.den]
    | cons p f ih =>
      obtain ⟨d, x⟩ := p
      intro k u h
      unfold plainF
      cases hx : x.fx (fun _ => false) <;> cases hk : Nat.beq d k <;> simp only [Fr.get, hk] at h ⊢
      · exact ih k u h
      · simp [AV.den, Pc.den, CV.den]
      · exact ih k u h
      · exact AV.den_fx (ok := fun _ => false) (fun i b hi => by cases hi) hx h
  exact fun k => key f k _ (hf k)
/-- The flags fit: a quiet one may be taken first; another one is the only one that may come up. -/
def mixB (ops : Array Oper) : List Bool → Nat → Array Bool → Bool
  | [], _, listed => (Region.ready .any ops listed).isEmpty
  | q :: qs, k, listed => (match q with
      | true => Region.free .any ops listed k && (Region.ready .any ops listed).contains k
      | false => Region.ready .any ops listed == [k]) && mixB ops qs (k + 1) (listed.setIfInBounds k true)
def guardOf (ops : Array Oper) (f : Fr) (o : Oper) : Option Bool := match o.guard with
  | none => some true
  | some (j, pol) => (match slotOf ops j with
    | some d => (match f.get d with | .p (.c (.v (.bool x))) => some (x == pol) | _ => none)
    | none => none)
section
variable (P : Program) (W : World) (N : Nd) (ops : Array Oper)
def mixK : List Oper → List Bool → Fr → List Ow → (Fr → List Ow → Prop) → Prop
  | [], [], f, T, K => K f T
  | o :: rest, q :: qs, f, T, K => (match dstOk N.n o.dst with
    | false => False
    | true => (match guardOf ops f o with
      | some true => (match q with
        | true => (match opTy P o.op with | true => qop P W Gs.nil [] (plainF f) o fun v => f.putK o.dst v fun f' => mixK rest qs f' T K | false => False)
        | false => opK P W Gs.nil N o f T fun f' T' => mixK rest qs f' T' K)
      | some false => (match q with | true => f.putK o.dst (.p (.c .any)) fun f' => mixK rest qs f' T K | false => False)
      | none => False))
  | _, _, _, _, _ => False
end
section
variable {P : Program} {W : World} {N : Nd} {ops : Array Oper}
theorem guard_wanted {r : Env} {f : Fr} {a : Act} {o : Oper} {x : Bool} (hf : FDen r f a) (h : guardOf ops f o = some x) : Region.wanted o (yielded ops a.tmps) = x := by
  unfold guardOf at h
  split at h
  · rename_i hg; injection h with h; subst h; exact wanted_none hg _
  · rename_i j pol hg
    split at h
    · rename_i d hs
      split at h
      · rename_i y hy
        injection h with h; subst h
        rw [wanted_some hg, yielded_of hf hs hy]
        cases y <;> cases pol <;> rfl
      · cases h
    · cases h
theorem mixK_sound (hns : Region.noSelect ops = true) {K : Fr → List Ow → Prop} {Q : Exit → Act → World → Prop} (hQ0 : ∀ c a w, ¬ Q (.panic c) a w) (hQ : ∀ f T a w, K f T → Good W Gs.nil N f T a w → Q .normal a w) :
    ∀ (l : List Oper) (qs : List Bool) (k : Nat) (listed : Array Bool) (f : Fr) (T : List Ow), (∀ j o, l[j]? = some o → ops[k + j]? = some o) → mixB ops qs k listed = true → mixK P W N ops l qs f T K →
    ∀ a w, Good W Gs.nil N f T a w → wpAnyH P .any ops Q (fun w' => Below W.heap.size W w') l.length listed a w
  | [], [], k, listed, f, T, _, hB, h, a, w, hg => wpAnyH_done (by simpa [mixB] using hB) (hQ f T a w h hg) _
  | o :: l, q :: qs, k, listed, f, T, hl, hB, h, a, w, ⟨r, hR, hf, hN, hd⟩ => by
    have h0 : ops[k]? = some o := hl 0 o rfl
    have hl2 : ∀ j p, l[j]? = some p → ops[k + 1 + j]? = some p := fun j p hj => by have := hl (j + 1) p (by simpa using hj); rwa [show k + 1 + j = k + (j + 1) by omega]
    simp only [mixB, Bool.and_eq_true] at hB
    unfold mixK at h
    split at h
    · exact h.elim
    · rename_i hdst
      split at h
      · rename_i hgd
        have hw := guard_wanted hf hgd
        cases q with
        | true =>
          simp only [Bool.and_eq_true] at hB
          simp only at h
          split at h
          · rename_i hty
            obtain ⟨v, u, hK, hden, hrun⟩ := qop_sound h hty (rel_none W) (plain_den hf)
            have hK := putK_iff.1 hK
            refine wpAnyH_take (v := u) h0 hns hB.1.1 hB.1.2 (fun c a w h => absurd h (hQ0 c _ w)) (.inl ⟨hw, fun w' hw' => hrun w' hw'⟩) hR.toBelow ?_
            refine mixK_sound hns hQ0 hQ l qs (k + 1) _ _ T hl2 hB.2 hK _ w ⟨r, hR, hf.put (AV.den_mono ⟨(fun i b h => by cases h), (fun i b h => by cases h)⟩ _ _ hden) (by rw [hN]; exact hdst), (put_size a _ _).trans hN, (put_defers a _ _).trans hd⟩
          · exact h.elim
        | false =>
          simp only at h hB
          have hr : Region.ready .any ops listed = [k] := by simpa using hB.1
          refine wpAnyH_all (rs := [k]) hr (by simp) fun i hi => ?_
          obtain rfl : i = k := by simpa using hi
          unfold wpOp
          simp only [h0, hw, if_true]
          refine .inl (se_wp ((opK_sound h).out r a w hR hf hN hd (fun a' w' => Below W.heap.size W w' ∧ wpAnyH P .any ops Q (fun w' => Below W.heap.size W w') l.length (listed.setIfInBounds i true) a' w') Q fun f' T' a' w' hk hg' => ?_) fun _ _ h => h)
          refine ⟨?_, mixK_sound hns hQ0 hQ l qs (i + 1) _ f' T' hl2 hB.2 hk a' w' hg'⟩
          obtain ⟨r', hR', _⟩ := hg'
          exact hR'.toBelow
      · rename_i hgd
        have hw := guard_wanted hf hgd
        cases q with
        | true =>
          simp only [Bool.and_eq_true] at hB
          simp only at h
          have hK := putK_iff.1 h
          refine wpAnyH_take (v := undef) h0 hns hB.1.1 hB.1.2 (fun c a w h => absurd h (hQ0 c _ w)) (.inr ⟨hw, rfl⟩) hR.toBelow ?_
          exact mixK_sound hns hQ0 hQ l qs (k + 1) _ _ T hl2 hB.2 hK _ w ⟨r, hR, hf.putAny _ (by rw [hN]; exact hdst), (put_size a _ _).trans hN, (put_defers a _ _).trans hd⟩
        | false => exact h.elim
      · exact h.elim
  | [], _ :: _, _, _, _, _, _, _, h, _, _, _ => h.elim
  | _ :: _, [], _, _, _, _, _, _, h, _, _, _ => h.elim
/-- A drawn region over plain memory. -/
theorem sat_mix {id : Nat} {l : List Oper} {f : Fr} {K : Exit → Fr → List Ow → Prop} (qs : List Bool) (hm : P.follows .mixedOrders = true) (hns : Region.noSelect l.toArray = true) (hB : mixB l.toArray qs 0 (Array.replicate l.toArray.size false) = true)
    (h : mixK P W N l.toArray l qs f [] (K .normal)) : Sat none P W Gs.nil N (.region id l.toArray true) f [] K := by
  refine ⟨fun n a w ⟨r, hR, hf, hN, hd⟩ => wpIn_wide.2 ?_⟩
  have hf0 : FDen Env.none f a := hf.mono ⟨(fun i x hx => by rw [hR.outB i (by simp)] at hx; cases hx), (fun i x hx => by rw [hR.outV i (by simp)] at hx; cases hx)⟩
  refine Code.wp_mono (Q := fun e a w => match e with | .normal => PostK W Gs.nil N K .normal a w | _ => False) (fun e a w h => by cases e <;> first | exact h | exact h.elim) (wp_region_held (S := fun w' => Below W.heap.size W w') hm ?_)
  have := mixK_sound (P := P) (W := W) (N := N) (Q := fun e a w => match e with | .normal => PostK W Gs.nil N K .normal a w | _ => False) hns (fun c a w h => h) (fun f T a w hk hg => ⟨f, T, hk, hg⟩) l qs 0 _ f [] (fun j o hj => by simpa using hj) hB h a w.drew ⟨Env.none, (rel_none W).below hR.drew.toBelow, hf0, hN, hd⟩
  simpa using this
/-- The memory seen anew, as plain memory. -/
theorem satq_restart {w0 : World} {d : Code} {f : Fr} {S : List Ow} {Q : Exit → Act → World → Prop} (h : ∀ r w, Rel w0 Gs.nil S r w → ∃ f2, (∀ a, FDen r f a → FDen Env.none f2 a) ∧ SatQ P w Gs.nil N d f2 [] Q) : SatQ P w0 Gs.nil N d f S Q :=
  ⟨fun a w ⟨r, hR, hf, hN, hd⟩ => by
    obtain ⟨f2, h1, h2⟩ := h r w hR
    exact h2.out a w ⟨Env.none, rel_none w, h1 a hf, hN, hd⟩⟩
end
end Go.Proofs.Ytmjfgnnefcimiaa
namespace Go.Proofs.Ytmjfgnnefcimiaa
open Go.RowKit

theorem opS_ent {P : Program} {w0 : World} {G : Gs} {N : Nd} {o : Oper} {f f1 : Fr} {S S1 : List Ow} {K : Fr → List Ow → Prop} (h : Ent w0 G N f S f1 S1) (k : OpS P w0 G N o f1 S1 K) : OpS P w0 G N o f S K :=
  ⟨fun r a w hR hf hN hd next Q hK => by
    obtain ⟨r1, hR1, hf1, hN1, hd1⟩ := h.out a w ⟨r, hR, hf, hN, hd⟩
    exact k.out r1 a w hR1 hf1 hN1 hd1 next Q hK⟩
def othersFx (i : Nat) : List Ow → Nat → Bool
  | [], _ => true
  | .cells _ l :: S, k => (match Nat.beq k i with | true => othersFx i S (k + 1) | false => (match fxL (fun _ => true) l with | true => othersFx i S (k + 1) | false => false))
  | _ :: S, k => othersFx i S (k + 1)
theorem othersFx_get {i : Nat} : ∀ {S : List Ow} {k j : Nat} {t : TypeId} {l : List CV}, othersFx i S k = true → S[j]? = some (.cells t l) → k + j ≠ i → fxL (fun _ => true) l = true
  | [], k, j, t, l, _, h, _ => by simp at h
  | o :: S, k, 0, t, l, hb, h, hne => by
    simp at h; subst h
    simp only [othersFx] at hb
    have : Nat.beq k i = false := by
      cases hk : Nat.beq k i
      · rfl
      · exact absurd (Nat.eq_of_beq_eq_true hk) (by omega)
    rw [this] at hb
    simp only at hb
    split at hb
    · assumption
    · cases hb
  | o :: S, k, j + 1, t, l, hb, h, hne => by
    have hb2 : othersFx i S (k + 1) = true := by
      cases o <;> simp only [othersFx] at hb <;> try exact hb
      split at hb
      · exact hb
      · split at hb
        · exact hb
        · cases hb
    exact othersFx_get (k := k + 1) (j := j) hb2 (by simpa using h) (by omega)
theorem ent_slrow {w0 : World} {G : Gs} {N : Nd} {f f' : Fr} {S : List Ow} (i d size n : Nat) {e : TypeId} {xs : List Value} (hs : f.get d = .p (.c (.sl i 0 n n))) (hi : S[i]? = some (.cells e (xs.map .v))) (hlen : xs.length = n * size) (hn : n ≤ maxLen) (hf : FLe f f') (hfx : f'.fx (fun _ => true) = true) (hS : othersFx i S 0 = true) : Ent w0 G N f S ((d, .p (.c (.row i))) :: f') (S.set i (.row e size n xs)) := by
  refine ⟨fun a w ⟨r, hR, hd, hN, hdf⟩ => ?_⟩
  obtain ⟨b, us, h1, h2, h3⟩ := hR.own i _ hi
  obtain rfl := denL_vals_inv h3
  have hil := hR.lt_of_blk h1
  obtain ⟨r1, hr1⟩ : ∃ r1 : Env, r1 = ⟨r.blk, fun j => if j = i then some (.slice (some ⟨b, 0, none⟩) n n) else r.val j⟩ := ⟨_, rfl⟩
  have hb1 : r1.blk = r.blk := by rw [hr1]
  have hv1 : ∀ j, j ≠ i → r1.val j = r.val j := fun j hj => by rw [hr1]; exact if_neg hj
  have hvi : r1.val i = some (.slice (some ⟨b, 0, none⟩) n n) := by rw [hr1]; exact if_pos rfl
  have hag : ∀ j x, (true = true) → r.blk j = some x → r1.blk j = some x := fun j x _ h => by rw [hb1]; exact h
  refine ⟨r1, ⟨hR.os, hR.tape, hR.output, hR.size, hR.old, fun j o hj => ?_, fun j k x h k' => hR.inj j k x (hb1 ▸ h) (hb1 ▸ k'), fun j x h => hR.new j x (hb1 ▸ h), fun j hj => by rw [hb1]; exact hR.outB j (by simpa using hj), fun j hj => ?_, fun j g h => by rw [hb1]; exact hR.first j g h⟩, fun k => ?_, hN, hdf⟩
  · rw [List.getElem?_set] at hj
    split at hj
    · rename_i hij; subst hij
      injection hj with hj; subst hj
      exact ⟨_, hvi, by rw [hb1, h1]; rfl, hlen, .inr ⟨b, n, us.toArray, rfl, Nat.zero_le _, h2, Nat.le_refl _, hn, by simpa using hlen, by rw [← hlen]; simp⟩⟩
    · rename_i hij
      have hh := hR.own j o hj
      have hv := hv1 j (Ne.symm hij)
      cases o with
      | cells t l =>
        obtain ⟨b', us', j1, j2, j3⟩ := hh
        exact ⟨b', us', by rw [hb1]; exact j1, j2, denL_fx (ok := fun _ => true) (fun k x hk hx => hag k x rfl hx) (othersFx_get hS hj (by omega)) j3⟩
      | row e' size' m ys => obtain ⟨v, j1, j2, j3⟩ := hh; exact ⟨v, hv.trans j1, by rw [hb1]; exact j2, j3⟩
      | ext φ => obtain ⟨b', j1, j2⟩ := hh; exact ⟨b', by rw [hb1]; exact j1, j2⟩
      | view φ m ys => obtain ⟨A, c, j1, j2, j3, j4, j5⟩ := hh; exact ⟨A, c, hv.trans j1, j2, j3, by rw [hb1]; exact j4, by rw [hb1]; exact j5⟩
      | gone => trivial
  · have : j ≠ i := fun e => by subst e; simp at hj; omega
    rw [hv1 j this]; exact hR.outV j (by simpa using hj)
  · simp only [Fr.get]
    split
    · rename_i hk
      have := Nat.eq_of_beq_eq_true hk; subst this
      have hsl := hd d
      rw [hs] at hsl
      obtain ⟨b', h4, h5⟩ := den_sl hsl
      rw [h1] at h4; injection h4 with h4; subst h4
      simp only [AV.den, Pc.den, CV.den]
      rw [h5, hvi]
    · exact ((hf.den hd).fx (ok := fun _ => true) (fun k x hk hx => hag k x rfl hx) hfx) k
end Go.Proofs.Ytmjfgnnefcimiaa
namespace Go.Proofs
open Go.Shelf Go.Lib
def Try.reverseOp_ren : Go.Shelf.Ren := ⟨fun | 35 => 50 | n => n, fun | 22 => 30 | 23 => 53 | 3 => 3 | 4 => 4 | 0 => 0 | n => n, fun n => n⟩
theorem Try.reverseOp : SlLaysE0.n35 Try.prog Try.reverseOp_ren where
  mixed := by kernel_rfl
  f35 := ⟨Try.f50.name, by decide, Try.func50.trans (congrArg some (by kernel_rfl))⟩
  t0 := Try.underlying0
  a0 := Try.isAgg0
  z0 := Try.sizeOf0
  v0 := Try.zeroValue0
  t3 := Try.underlying3
  a3 := Try.isAgg3
  z3 := Try.sizeOf3
  v3 := Try.zeroValue3
  t4 := Try.underlying4
  a4 := Try.isAgg4
  z4 := Try.sizeOf4
  v4 := Try.zeroValue4
  t22 := Try.underlying30
  a22 := Try.isAgg30
  z22 := Try.sizeOf30
  v22 := Try.zeroValue30
end Go.Proofs
namespace Go.Proofs.Ytmjfgnnefcimiaa
open Go.RowKit

theorem ops_get : ∀ {l : List BOp} {t : Nat}, t < l.length * 5 → (l.flatMap opC)[t]? = some ((opC l[t / 5]!)[t % 5]!)
  | [], t, h => by simp at h
  | x :: l, t, h => by
    rw [List.flatMap_cons]
    rcases Nat.lt_or_ge t 5 with h1 | h1
    · rw [List.getElem?_append_left (by simpa [opC] using h1), Nat.div_eq_of_lt h1, Nat.mod_eq_of_lt h1]
      have : t < (opC x).length := by simpa [opC] using h1
      rw [List.getElem?_eq_getElem this]
      simp [this]
    · obtain ⟨s, rfl⟩ : ∃ s, t = s + 5 := ⟨t - 5, by omega⟩
      rw [List.getElem?_append_right (by simp [opC])]
      have := ops_get (l := l) (t := s) (by simp at h; omega)
      rw [show s + 5 - (opC x).length = s by simp [opC], this, show (s + 5) / 5 = s / 5 + 1 by omega, show (s + 5) % 5 = s % 5 by omega]
      simp
theorem flatK_ops (l : List BOp) : Sort.flatK opC 5 l.toArray = (l.flatMap opC).toArray := by
  refine Array.ext (by simp only [Sort.size_flatK, List.size_toArray, ops_length]) fun t h1 h2 => ?_
  have h1 : t < l.length * 5 := by simpa using h1
  have e := ops_get h1
  rw [← getElem!_pos, Sort.get_flatK _ _ _ _ (by simpa using h1)]
  have h2' : t < (l.flatMap opC).length := by rw [ops_length]; exact h1
  rw [List.getElem?_eq_getElem h2'] at e
  injection e with e
  simp only [List.getElem_toArray]
  rw [e]
  simp
theorem opC_one {x : BOp} : ∀ v ∈ opC x, v.oneCell' = true := by
  intro v hv
  simp only [opC, List.mem_cons, List.not_mem_nil, or_false] at hv
  rcases hv with rfl | rfl | rfl | rfl | rfl <;> rfl
theorem putRow_block {w : World} {g : Nat} {cur : Array Value} {e : TypeId} {F : Array Value} (h : w.heap[g]? = some (.cells cur e (0, 0))) (hF : F.size ≤ cur.size) : ∃ cur' : Array Value, (Sort.putRow id w g 0 F).heap[g]? = some (.cells cur' e (0, 0)) ∧ cur'.size = cur.size ∧ cur'.toList.take F.size = F.toList := by
  refine ⟨Sort.putCells id 0 F cur, by simp [Sort.putRow, Sort.mapBlock, Array.getElem?_modify, h, Sort.onCells], by simp [Sort.putCells], ?_⟩
  refine List.ext_getElem? fun i => ?_
  rw [List.getElem?_take]
  split
  · rename_i hi
    simp only [Sort.putCells, Array.getElem?_toList, Array.getElem?_mapIdx]
    rw [Array.getElem?_eq_getElem (by omega), Array.getElem?_eq_getElem hi]
    simp [hi]
  · rename_i hi
    rw [List.getElem?_eq_none (by simp; omega)]
theorem reverse_row (l : List BOp) (hl : l.length ≤ 1000000) (base : Nat) (v : Value) (w : World) (h : w.ownsRow base 53 5 v l.length (l.flatMap opC)) :
    Calls Try.prog 50 #[v] w fun e w' => e = .returned (.tuple #[]) ∧ w'.ownsRow base 53 5 v l.length (l.reverse.flatMap opC) ∧ w.grownBy w' v.ownBlock := by
  obtain ⟨h1, h2⟩ := h
  rcases h2 with ⟨rfl, h0⟩ | ⟨g, cap, cur, rfl, hg, hh, hn, hcap, hsz, htake⟩
  · have hl0 : l = [] := List.eq_nil_of_length_eq_zero h0
    subst hl0
    refine (AnyQ.slices_Reverse_empty Try.reverseOp none 0 w).mono fun e w' ⟨h3, h4⟩ => ⟨h3, ?_, ?_⟩
    · exact ⟨rfl, .inl ⟨rfl, rfl⟩⟩
    · rw [h4]; exact World.grownBy.refl _ _
  · have hH : Sort.HoldsK opC 5 w g 0 l.toArray := by
      unfold Sort.HoldsK
      rw [flatK_ops]
      intro j hj
      have hj : j < (l.flatMap opC).length := by simpa using hj
      refine ⟨?_, by simp [World.frozen?, hh]⟩
      have hjc : (l.flatMap opC)[j]? = cur[j]? := by
        rw [← htake, List.getElem?_take, if_pos (by rw [h1] at hj; exact hj)]; simp
      simp only [World.cell?, Nat.zero_add, hh]
      rw [← hjc]
      simp [List.getElem?_eq_getElem hj]
    refine (AnyQ.slices_Reverse Try.reverseOp 5 (fun w => by kernel_rfl) (fun w => by kernel_rfl) opC (fun x => rfl) (fun x => opC_one) g 0 cap l.toArray w hH (by simp; omega)).mono fun e w' ⟨h3, q, h4⟩ => ⟨h3, ?_, ?_⟩
    · obtain ⟨cur', k1, k2, k3⟩ := putRow_block (w := Sort.ahead w q) (F := (l.reverse.flatMap opC).toArray) hh (by
        have : (l.reverse.flatMap opC).toArray.size = l.length * 5 := by simp only [List.size_toArray, ops_length, List.length_reverse]
        rw [this, hsz]; exact Nat.mul_le_mul_right 5 hn)
      have e : w' = Sort.putRow id (Sort.ahead w q) g 0 (l.reverse.flatMap opC).toArray := by
        rw [h4]; unfold Sort.putRowK; rw [← flatK_ops]; simp
      refine ⟨by rw [ops_length, List.length_reverse], .inr ⟨g, cap, cur', rfl, hg, by rw [e]; exact k1, hn, hcap, k2.trans hsz, ?_⟩⟩
      have : (l.reverse.flatMap opC).toArray.size = l.length * 5 := by simp only [List.size_toArray, ops_length, List.length_reverse]
      rw [← this]; simpa using k3
    · rw [h4]
      refine ⟨rfl, rfl, rfl, by simp [Sort.putRowK, Sort.ahead], fun k hk hne => ?_⟩
      have hne : g ≠ k := fun e => hne (by rw [e]; rfl)
      simp [Sort.putRowK, Sort.putRow, Sort.mapBlock, Array.getElem?_modify, hne, Sort.ahead]
theorem call_reverse {w0 : World} {G : Gs} {S : List Ow} {K : AV → List Ow → Prop} {l : List BOp} (i : Nat) (hi : S[i]? = some (.row 53 5 l.length (l.flatMap opC))) (hl : l.length ≤ 1000000)
    (hK : K (.tup []) (S.set i (.row 53 5 l.length (l.reverse.flatMap opC)))) : CallS Try.prog w0 G 50 [.p (.c (.row i))] S K := by
  refine ⟨by kernel_rfl, fun r w us hR hd => ?_⟩
  obtain ⟨u1, l1, rfl, d1, d2⟩ := hd
  obtain rfl : l1 = [] := d2
  obtain ⟨v, e1, e2, e3⟩ := hR.own i _ hi
  have d1 := den_row d1
  rw [e1] at d1; injection d1 with d1; subst d1
  refine (reverse_row l hl 0 v w e3).mono fun e w' ⟨he, ho, hg⟩ => ?_
  rw [e2] at hg
  cases hb : r.blk i with
  | none =>
    rw [hb] at hg
    have hB : Below w.heap.size w w' := ⟨hg.os, hg.tape, hg.output, hg.size, fun k hk => hg.block k hk (by simp)⟩
    have hR2 := hR.below hB
    refine ⟨.tup [], _, _, r, he, ⟨_, rfl, rfl⟩, rel_setSame (o := .row 53 5 l.length (l.reverse.flatMap opC)) hR2 ⟨v, e1, e2, ho⟩, Env.le.refl r, hK⟩
  | some b =>
    rw [hb] at hg
    exact ⟨.tup [], _, _, r, he, ⟨_, rfl, rfl⟩, hR.setBlock (o := .row 53 5 l.length (l.reverse.flatMap opC)) hb hg ⟨v, e1, e2, ho⟩ (hR.lt_of_blk hb), Env.le.refl r, hK⟩
end Go.Proofs.Ytmjfgnnefcimiaa
namespace Go.Proofs.Ytmjfgnnefcimiaa
open Go.RowKit

theorem op_guard (op : BinOp) (x y : Operand) (p q : BOp) (w : World) : (eqGuard op 53 x y (opV p) (opV q)).run Try.prog w = .ok () w := by
  have h : Try.prog.eqGuardType Try.prog.depth 53 = false := by kernel_rfl
  unfold eqGuard opV
  cases op <;> simp [h]
theorem q_neq_op {w0 : World} {G : Gs} {S : List Ow} {f : Fr} {o : Oper} {K : AV → Prop} {x y : Operand} (p q : BOp) {t : TypeId} (hop : o.op = .binOp .neq 53 x y t) (hx : f.ev x = .p (.agg ((opC p).map .v))) (hy : f.ev y = .p (.agg ((opC q).map .v))) (hK : K (one (.bool (!(p == q))))) : QRun Try.prog w0 G S f o K := by
  refine ⟨_, hK, fun r a hf => ⟨.bool (!(p == q)), den_one _ _, fun w _ => ?_⟩⟩
  have h1 := hf.ev x
  have h2 := hf.ev y
  rw [hx] at h1; rw [hy] at h2
  have e1 : a.eval x = opV p := by obtain ⟨us, hu, hl⟩ := h1; rw [hu, denL_vals_inv hl]; rfl
  have e2 : a.eval y = opV q := by obtain ⟨us, hu, hl⟩ := h2; rw [hu, denL_vals_inv hl]; rfl
  simp [execOp, hop, e1, e2, op_guard, op_neq]
structure EqSt (l m : List BOp) where
  k : Nat
  hk : k ≤ l.length
  h : l.take k = m.take k
set_option maxRecDepth 100000 in
theorem equal_ops (A1 A2 : Option Addr) (c1 c2 : Nat) (l m : List BOp) (w : World) (h1 : OpsAt w w.heap.size A1 l) (h2 : OpsAt w w.heap.size A2 m) (hl : l.length ≤ 1000000) :
    Calls Try.prog 77 #[.slice A1 l.length c1, .slice A2 m.length c2] w fun e w' => e = .returned (.bool (l == m)) ∧ Below w.heap.size w w' := by
  by_cases hlm : l.length = m.length
  · by_cases h0 : l.length = 0
    · have e1 : l = [] := List.eq_nil_of_length_eq_zero h0
      have e2 : m = [] := List.eq_nil_of_length_eq_zero (by omega)
      subst e1; subst e2
      refine calls_val [.slice A1 0 c1, .slice A2 0 c2] Try.func77 Try.ntmps77 rfl (by simp) ?_
      conv => whnf
      (refine ⟨(fun h => absurd h (by decide)), fun _ => ?_⟩; (conv => whnf))
      refine ⟨Unit, fun x => [(12, one (.int .i64 0)), (13, one (.int .i64 0))], fun x => [], fun x => 0, ⟨(), ent_same rfl (aI rfl (aI rfl trivial)) trivial⟩, fun x => ?_⟩
      conv => whnf
      (refine ⟨(fun h => absurd h (by decide)), fun _ => ?_⟩; (conv => whnf))
      refine ⟨_, _, ent_refl, ?_⟩
      conv => whnf
      exact fin_val rfl fun w' hB => ⟨rfl, hB⟩
    · obtain ⟨b1, o1, rfl⟩ := ops_addr h1 (by omega)
      obtain ⟨b2, o2, rfl⟩ := ops_addr h2 (by omega)
      refine calls_val [.slice (some ⟨b1, o1, none⟩) l.length c1, .slice (some ⟨b2, o2, none⟩) m.length c2] Try.func77 Try.ntmps77 rfl (by simp) ?_
      conv => whnf
      refine ⟨fun hn => absurd hn (by simp [hlm]), fun _ => ?_⟩
      conv => whnf
      refine ⟨EqSt l m, fun x => [(0, one (.slice (some ⟨b1, o1, none⟩) l.length c1)), (1, one (.slice (some ⟨b2, o2, none⟩) m.length c2)), (12, one (.int .i64 l.length)), (13, one (.int .i64 x.k))], fun x => [], fun x => l.length - x.k, ⟨⟨0, by omega, rfl⟩, ent_same rfl (aI rfl (aI rfl (aI rfl (aI rfl trivial)))) trivial⟩, fun x => ?_⟩
      have hk := x.hk
      have hx := x.h
      conv => whnf
      refine ⟨fun hc => ?_, fun hc => ?_⟩
      · have hlt : x.k < l.length := by simpa using hc
        obtain ⟨p, hp⟩ : ∃ p, l[x.k]? = some p := ⟨_, List.getElem?_eq_getElem hlt⟩
        obtain ⟨q, hq⟩ : ∃ q, m[x.k]? = some q := ⟨_, List.getElem?_eq_getElem (by omega)⟩
        conv => whnf
        refine sat_quiet mixed (by kernel_rfl) ?_
        conv => whnf
        refine ⟨⟨by omega, by omega⟩, ?_⟩
        conv => whnf
        refine ⟨opC p, cells_op h1 (by simp) hp, rfl, ?_⟩
        conv => whnf
        refine ⟨⟨by omega, by omega⟩, ?_⟩
        conv => whnf
        refine ⟨opC q, cells_op h2 (by simp) hq, rfl, ?_⟩
        conv => whnf
        refine q_neq_op p q rfl rfl rfl ?_
        conv => whnf
        refine ⟨fun hn => ?_, fun hn => ?_⟩
        · conv => whnf
          refine ⟨_, _, ent_refl, ?_⟩
          conv => whnf
          refine fin_val rfl fun w' hB => ⟨?_, hB⟩
          have : (l == m) = false := by
            rw [Bool.eq_false_iff]
            intro e
            have e : l = m := by simpa using e
            subst e
            rw [hp] at hq; injection hq with hq; subst hq
            simp at hn
          rw [this]
        · conv => whnf
          refine ⟨(x.k : Int) + 1, wr64 (by omega), ?_⟩
          conv => whnf
          refine ⟨⟨x.k + 1, by omega, ?_⟩, ent_same rfl (aI rfl (aI rfl (aI rfl (aI (num_succ x.k) trivial)))) trivial, by dsimp only; omega⟩
          have : p = q := by simpa using hn
          rw [List.take_add_one, List.take_add_one, hx, hp, hq, this]
      · have hge : ¬ x.k < l.length := by simpa using hc
        conv => whnf
        refine ⟨_, _, ent_refl, ?_⟩
        conv => whnf
        refine fin_val rfl fun w' hB => ⟨?_, hB⟩
        have : l = m := by
          rw [List.take_of_length_le (by omega), List.take_of_length_le (by omega)] at hx
          exact hx
        subst this
        simp
  · refine calls_val [.slice A1 l.length c1, .slice A2 m.length c2] Try.func77 Try.ntmps77 rfl (by simp) ?_
    conv => whnf
    refine ⟨fun _ => ?_, fun hn => absurd hn (by simp; omega)⟩
    conv => whnf
    refine fin_val rfl fun w' hB => ⟨?_, hB⟩
    have : (l == m) = false := by
      rw [Bool.eq_false_iff]
      intro e
      have e : l = m := by simpa using e
      exact hlm (by rw [e])
    rw [this]
end Go.Proofs.Ytmjfgnnefcimiaa
namespace Go.Proofs.Ytmjfgnnefcimiaa
open Go.RowKit
def envOne (g : Nat) : Env := ⟨fun i => if i = 0 then some g else Option.none, fun _ => Option.none⟩
theorem envOne_blk {g i b : Nat} (h : (envOne g).blk i = some b) : i = 0 ∧ b = g := by
  simp only [envOne] at h
  split at h
  · rename_i hi; injection h with h; exact ⟨hi, h.symm⟩
  · cases h
theorem rel_own1 (w : World) {g : Nat} {t : TypeId} {us : List Value} (h : w.heap[g]? = some (.cells us.toArray t (0, 0))) : Rel w ⟨[g], []⟩ [.cells t (us.map .v)] (envOne g) w := by
  have hlt : g < w.heap.size := by
    rcases Nat.lt_or_ge g w.heap.size with h1 | h1
    · exact h1
    · rw [Array.getElem?_eq_none h1] at h; cases h
  refine ⟨rfl, rfl, rfl, Nat.le_refl _, fun k _ _ => rfl, fun i o ho => ?_, fun i j b hi hj => ?_, fun i b hb => ?_, fun i hi => ?_, fun i _ => rfl, fun i x hx => ?_⟩
  · cases i with
    | zero => simp at ho; subst ho; exact ⟨g, us, rfl, h, denL_vals us⟩
    | succ i => simp at ho
  · rw [(envOne_blk hi).1, (envOne_blk hj).1]
  · rw [(envOne_blk hb).2]; exact ⟨hlt, fun _ => .inl (by simp)⟩
  · show (if i = 0 then some g else Option.none) = Option.none
    have : ¬ i = 0 := by intro e; subst e; simp at hi
    rw [if_neg this]
  · cases i with
    | zero => simp at hx; subst hx; rfl
    | succ i => simp at hx
/-- A function whose first argument is the address of a block that it may turn. -/
theorem calls_own {P : Program} {fid : FuncId} {fn : Func} {c : Code} {N : Nat} {w : World} {g : Nat} {t : TypeId} {us : List Value} (xs : List Value) (hf : P.funcs[fid]? = some fn) (hN : fn.ntmps = N) (hb : fn.body = some c) (hle : xs.length + 1 ≤ N) (hg : w.heap[g]? = some (.cells us.toArray t (0, 0))) {R : Ending → World → Prop}
    (h : vc none P w ⟨[g], []⟩ ⟨N, []⟩ c (argFr (.p (.c (.ref 0 0)) :: xs.map fun x => AV.of x) 0) [.cells t (us.map .v)] (RetK P w ⟨[g], []⟩ fn.results.toList R)) : Calls P fid (.pointer (some ⟨g, 0, none⟩) :: xs).toArray w R :=
  calls_vc hf hN hb (rel_own1 w hg) (avs := .p (.c (.ref 0 0)) :: xs.map fun x => AV.of x) (args := .pointer (some ⟨g, 0, none⟩) :: xs) ⟨_, _, rfl, den_mk_ref (by simp [envOne]), avdenL_of xs⟩ (by simpa using hle) h
theorem Rel.grown {w0 : World} {g : Nat} {S : List Ow} {r : Env} {w : World} (h : Rel w0 ⟨[g], []⟩ S r w) : w0.grownBy w (some g) :=
  ⟨h.os, h.tape, h.output, h.size, fun k hk hn => h.old k hk (by
    rintro (h1 | h1)
    · simp at h1; exact hn (by rw [h1])
    · cases h1)⟩
/-- The end of such a function. -/
theorem fin_own {w0 : World} {g : Nat} {S : List Ow} {t : TypeId} {us : List Value} {v : AV} {x : Value} {R : Ending → World → Prop} (hv : v.val = some x) (h0 : S[0]? = some (.cells t (us.map .v))) (h : ∀ w, w.heap[g]? = some (.cells us.toArray t (0, 0)) → w0.grownBy w (some g) → R (.returned x) w) : Fin w0 ⟨[g], []⟩ S v R := by
  refine ⟨fun r w u hR hd => ?_⟩
  obtain rfl := AV.val_den hv hd
  obtain ⟨b, us', e1, e2, e3⟩ := hR.own 0 _ h0
  have := hR.first 0 g rfl
  rw [this] at e1; injection e1 with e1; subst e1
  obtain rfl := denL_vals_inv e3
  exact h w e2 hR.grown
/-- What the caller knows of old slices, seen by the callee. -/
def OldKeep (w0 : World) (G : Gs) (w : World) (g : Nat) : Prop := ∀ A ys, SlOld w0 G A ys → SlOld w ⟨[g], []⟩ A ys
theorem Rel.oldKeep {w0 : World} {G : Gs} {S : List Ow} {r : Env} {w : World} (hR : Rel w0 G S r w) {i g : Nat} (hg : r.blk i = some g) : OldKeep w0 G w g := by
  intro A ys h j u hj
  obtain ⟨b, off, e1, e2, e3, e4⟩ := h j u hj
  have hne : b ≠ g := by
    intro e; subst e
    exact e3 ((hR.new i b hg).2 e2)
  refine ⟨b, off, e1, Nat.lt_of_lt_of_le e2 hR.size, ?_, by rw [hR.oldCell e2 e3]; exact e4⟩
  rintro (h1 | h1)
  · simp at h1; exact hne h1
  · cases h1
theorem call_own {P : Program} {w0 : World} {G : Gs} {fid : FuncId} {S : List Ow} {K : AV → List Ow → Prop} {t : TypeId} {us : List Value} {args : List AV} {xs : List Value} (post : Value → List Value → Prop) (i : Nat) (hi : S[i]? = some (.cells t (us.map .v))) (hx : avals args = some xs) (hok : fnOk P fid = true)
    (h : ∀ w g, OldKeep w0 G w g → w.heap[g]? = some (.cells us.toArray t (0, 0)) → Calls P fid (.pointer (some ⟨g, 0, none⟩) :: xs).toArray w fun e w' => ∃ x us', post x us' ∧ e = .returned x ∧ w'.heap[g]? = some (.cells us'.toArray t (0, 0)) ∧ w.grownBy w' (some g))
    (hK : ∀ x us', post x us' → K (AV.of x) (S.set i (.cells t (us'.map .v)))) : CallS P w0 G fid (.p (.c (.ref i 0)) :: args) S K := by
  refine ⟨hok, fun r w vs hR hd => ?_⟩
  obtain ⟨u1, l1, rfl, d1, d2⟩ := hd
  obtain rfl := avals_den hx d2
  obtain ⟨g, hb, rfl⟩ := den_ref d1
  obtain ⟨b', us1, e1, e2, e3⟩ := hR.own i _ hi
  rw [hb] at e1; injection e1 with e1; subst e1
  obtain rfl := denL_vals_inv e3
  refine (h w g (hR.oldKeep hb) e2).mono fun e w' ⟨x, us', hp, he, hg, hgr⟩ => ?_
  exact ⟨AV.of x, x, _, r, he, AV.of_den r x, hR.setBlock (o := .cells t (us'.map .v)) hb hgr ⟨g, us', hb, hg, denL_vals us'⟩ (hR.lt_of_blk hb), Env.le.refl r, hK x us' hp⟩
end Go.Proofs.Ytmjfgnnefcimiaa
