/- Walks: the reference's memory: Load. Walks: sanity: the pieces. Walks: the law's maker of blocks; a copy of a block. Walks: the reference's memory: Store. Walks: sanity. Walks: the reference's memory: Protect, Poke. Walks: the bytes that follow from a seed; rights. Walks: the reference's memory: Poke of all bytes. Walks: the guest variables; sizes of accesses. Walks: calls that the laws have in common. -/
import Derived.Test.YtmjfgnnefcimiaaM1
import Derived.Test.YtmjfgnnefcimiaaM13
import Derived.Test.YtmjfgnnefcimiaaM14
import Derived.Test.YtmjfgnnefcimiaaM15
import Derived.Test.YtmjfgnnefcimiaaM16
import Derived.Test.YtmjfgnnefcimiaaM17
import Derived.Test.YtmjfgnnefcimiaaM18
import Derived.Test.YtmjfgnnefcimiaaM19
import Derived.Test.YtmjfgnnefcimiaaM20
import Derived.Test.YtmjfgnnefcimiaaM21
import Derived.Test.YtmjfgnnefcimiaaM22
import Derived.Test.YtmjfgnnefcimiaaM23
import Derived.Test.YtmjfgnnefcimiaaM24
import Derived.Test.YtmjfgnnefcimiaaM25
import Derived.Test.YtmjfgnnefcimiaaM27
import Derived.Test.YtmjfgnnefcimiaaM28
import Derived.Test.YtmjfgnnefcimiaaM29
import Derived.Test.YtmjfgnnefcimiaaM3
import Derived.Test.YtmjfgnnefcimiaaM30
import Derived.Test.YtmjfgnnefcimiaaM5
import Derived.Test.YtmjfgnnefcimiaaM6
import Derived.Test.YtmjfgnnefcimiaaM7
namespace Go.Proofs.Ytmjfgnnefcimiaa
open Go.RowKit

theorem bad_none {M : MemP} {a r : Int} : ∀ {i k : Nat}, M.bad a r i k = none → ∀ j, i ≤ j → j < i + k → M.right ((a + j) % 4294967296) r = true
  | i, 0, _, j, h1, h2 => by omega
  | i, k + 1, h, j, h1, h2 => by
    unfold MemP.bad at h
    split at h
    · rename_i hr
      by_cases e : j = i
      · rw [e]; exact hr
      · exact bad_none h j (by omega) (by omega)
    · cases h
theorem right_lt {M : MemP} {a r : Int} (h : M.right a r = true) : a < (M.data.length : Int) := by
  unfold MemP.right at h
  simp only [Bool.and_eq_true, decide_eq_true_eq] at h
  exact h.1
def MemP.get (M : MemP) (x : Int) : Int := (M.data[x.toNat]?).getD 0
/-- The word of k bytes from a + i on. -/
def MemP.load (M : MemP) (a : Int) : Nat → Nat → Int
  | _, 0 => 0
  | i, k + 1 => (M.load a (i + 1) k * 256 + M.get ((a + i) % 4294967296)) % 4294967296
def MemP.loadV (M : MemP) (a : Int) (m : Nat) : Value := match M.bad a 1 0 m with | none => valV (M.load a 0 m) 0 true | some y => valV 0 y false
theorem load_step (M : MemP) (a : Int) {i m : Nat} (h : i < m) : M.load a i (m - i) = (M.load a (i + 1) (m - (i + 1)) * 256 + M.get ((a + i) % 4294967296)) % 4294967296 := by
  obtain ⟨k, hk⟩ : ∃ k, m - i = k + 1 := ⟨m - i - 1, by omega⟩
  rw [hk, show m - (i + 1) = k by omega]; rfl
theorem load_word (M : MemP) (a : Int) (i k : Nat) : word (M.load a i k) := by
  cases k with
  | zero => exact word0
  | succ k => exact word_mod _
theorem get_byte {M : MemP} {n p : Nat} (hM : M.ok n p) {x : Int} (h0 : 0 ≤ x) (hx : x < (n : Int)) : (M.dV.map CV.v)[x.toNat]? = some (.v (byteV (M.get x))) ∧ 0 ≤ M.get x ∧ M.get x < 256 := by
  obtain ⟨y, hy⟩ : ∃ y, M.data[x.toNat]? = some y := ⟨_, List.getElem?_eq_getElem (by rw [hM.ld]; omega)⟩
  have hb := hM.db y (List.mem_of_getElem? hy)
  unfold MemP.get MemP.dV
  rw [List.getElem?_map, List.getElem?_map, hy]
  exact ⟨rfl, hb⟩
set_option maxRecDepth 100000 in
theorem mem_load (M : MemP) (n p : Nat) (a : Int) (m : Nat) (w : World) (g : Nat) (gs : List Nat) (hU : ObjsAt w (g :: gs) (memS 0 n p M)) (hM : M.ok n p) (ha : word a) (hm : 1 ≤ m ∧ m ≤ 4) :
    Calls Try.prog 88 #[.pointer (some ⟨g, 0, none⟩), .int .u32 a, .int .i64 (m : Int)] w fun e w' => e = .returned (M.loadV a m) ∧ ObjsAt w' (g :: gs) (memS 0 n p M) ∧ GrownBys w w' (g :: gs) := by
  obtain ⟨g0, g1, g2, g3, g4, g5, hg⟩ := six_blocks hU
  injection hg with hg0 hgs
  subst hgs; subst hg0
  refine calls_objs [.p (.c (.ref 0 0)), one (.int .u32 a), one (.int .i64 (m : Int))] [.pointer (some ⟨g, 0, none⟩), .int .u32 a, .int .i64 (m : Int)] Try.func88 Try.ntmps88 rfl (by simp) hU ⟨_, _, rfl, den_mk_ref rfl, avdenL_of [.int .u32 a, .int .i64 (m : Int)]⟩ ?_
  conv => whnf
  refine call_memR (pre := []) (suf := [one (.int .u32 a), one (.int .i64 (m : Int)), one (.int .i64 1)]) 0 n p M (checkV (M.bad a 1 0 m)) memL_six rfl rfl (by kernel_rfl) (fun w' g gs hk hU => mem_check M n p a 1 m w' g gs hU hM ha (.inl rfl) hm) ?_
  cases hbad : M.bad a 1 0 m with
  | some y =>
    conv => whnf
    refine ⟨fun hc => absurd hc (by decide), fun _ => ?_⟩
    conv => whnf
    exact fin_objs rfl rfl memL_sub (memS_ob n p M) fun w' h1 h2 => ⟨by unfold MemP.loadV; rw [hbad]; rfl, h1, h2⟩
  | none =>
    conv => whnf
    refine ⟨fun _ => ?_, fun hc => absurd hc (by decide)⟩
    conv => whnf
    refine ⟨_, wr64 (by omega), ?_⟩
    conv => whnf
    have e0 : M.load a m (m - m) = 0 := by rw [Nat.sub_self]; rfl
    refine ⟨{ i : Nat // i ≤ m }, fun x => [(0, .p (.c (.ref 0 0))), (1, one (.int .u32 a)), (6, .p (.c (.ref 6 0))), (7, .p (.c (.ref 7 0))), (8, one (.int .i64 ((x.1 : Int) - 1)))], fun x => memL 0 n p M [.cells 119 [.v (.int .u32 0), .v (.int .u32 0), .v (.bool false)], .cells 119 [.v (.int .u32 (M.load a x.1 (m - x.1))), .v (.int .u32 0), .v (.bool true)]], fun x => x.1,
      ⟨⟨m, by omega⟩, ent_same rfl (aI rfl (aI rfl (aI rfl (aI rfl (aI rfl trivial))))) (aI ((aI rfl (Or.inl rfl))) (aI ((aI rfl (Or.inl rfl))) (aI ((aI rfl (Or.inl rfl))) (aI ((aI rfl (Or.inl rfl))) (aI ((aI rfl (Or.inl rfl))) (aI ((aI rfl (Or.inl rfl))) (aI ((aI rfl (Or.inl rfl))) (aI ((aI rfl (Or.inl (by rw [e0])))) trivial))))))))⟩, fun x => ?_⟩
    obtain ⟨i, hi⟩ := x
    dsimp only
    conv => whnf
    refine ⟨fun hc => ?_, fun hc => ?_⟩
    · have hpos : 0 < i := by simp at hc; omega
      obtain ⟨k, rfl⟩ : ∃ k, i = k + 1 := ⟨i - 1, by omega⟩
      have hk : k < m := by omega
      have hx := right_lt (bad_none hbad k (by omega) (by omega))
      rw [hM.ld] at hx
      have hx0 : 0 ≤ (a + (k : Int)) % 4294967296 := by omega
      obtain ⟨hget, hb0, hb1⟩ := get_byte hM hx0 hx
      have hst := load_step M a hk
      have hlw : word (M.load a (k + 1) (m - (k + 1))) := load_word M a _ _
      rw [show (((k + 1 : Nat) : Int) - 1) = (k : Int) by omega]
      have hl0 : 0 ≤ M.load a (k + 1) (m - (k + 1)) := hlw.1
      conv => whnf
      refine sat_tail 16 mixed (by kernel_rfl) ?_
      conv => whnf
      refine ⟨_, wr32 _, ?_⟩
      conv => whnf
      refine ⟨(k : Int), by rw [wr32]; omega, ?_⟩
      conv => whnf
      refine ⟨(a + (k : Int)) % 4294967296, wr32 _, ?_⟩
      conv => whnf
      refine ⟨⟨by omega, by omega⟩, ?_⟩
      conv => whnf
      rw [show (List.map CV.v M.dV)[0 + ((a + (k : Int)) % 4294967296).toNat * tsz Try.prog 5]? = some (.v (byteV (M.get ((a + k) % 4294967296)))) by show (List.map CV.v M.dV)[0 + ((a + (k : Int)) % 4294967296).toNat * 1]? = _; rw [Nat.zero_add, Nat.mul_one]; exact hget]
      conv => whnf
      refine ⟨M.get ((a + k) % 4294967296), by rw [wr32]; omega, ?_⟩
      conv => whnf
      refine ⟨M.load a k (m - k), by rw [wr32, hst]; omega, ?_⟩
      conv => whnf
      refine ⟨_, wr64 (by omega), ?_⟩
      conv => whnf
      exact ⟨⟨k, by omega⟩, ent_same rfl (aI rfl (aI rfl (aI rfl (aI rfl (aI rfl trivial))))) (aI ((aI rfl (Or.inl rfl))) (aI ((aI rfl (Or.inl rfl))) (aI ((aI rfl (Or.inl rfl))) (aI ((aI rfl (Or.inl rfl))) (aI ((aI rfl (Or.inl rfl))) (aI ((aI rfl (Or.inl rfl))) (aI ((aI rfl (Or.inl rfl))) (aI ((aI rfl (Or.inl rfl))) trivial)))))))), by show k < k + 1; omega⟩
    · have hi0 : i = 0 := by simp at hc; omega
      subst hi0
      conv => whnf
      refine ⟨_, _, ent_refl, ?_⟩
      conv => whnf
      exact fin_objs rfl rfl memL_sub (memS_ob n p M) fun w' h1 h2 => ⟨by unfold MemP.loadV; rw [hbad]; rfl, h1, h2⟩
end Go.Proofs.Ytmjfgnnefcimiaa
namespace Go.Proofs.Ytmjfgnnefcimiaa
open Go.RowKit

theorem call_passV {P : Program} {w0 : World} {S : List Ow} {K : AV → List Ow → Prop} {fid : FuncId} {F : Blk → List BOp} (hp : Pass P fid F) (hok : fnOk P fid = true) (ia i : Nat) (b : Blk) (hia : S[ia]? = some (.view viewT b.at_.length (b.at_.map (.int .u32)))) (hi : S[i]? = some (.view viewT b.ops.length (b.ops.flatMap opC))) (hb : b.ok) (hpg : b.pages = []) (h0 : b.ops = [] → F b = [])
    (hK : K (.p (.agg [.row ia, .v (.slice none 0 0), .row S.length])) (S ++ [.view viewT (F b).length ((F b).flatMap opC)])) :
    CallS P w0 Gs.nil fid [.p (.agg [.row ia, .v (.slice none 0 0), .row i])] S K := by
  refine ⟨hok, fun r w us hR hd => ?_⟩
  obtain ⟨u1, l1, rfl, d1, d2⟩ := hd
  obtain rfl : l1 = [] := d2
  obtain ⟨us, rfl, hl⟩ := den_agg d1
  simp only [denL] at hl
  obtain ⟨u1, l1, rfl, e1, u2, l2, rfl, e2, u3, l3, rfl, e3, rfl⟩ := hl
  simp only [CV.den] at e1 e2 e3
  subst e2
  obtain ⟨A1, c1, rfl, hs1, hc11, hc12, _, hfar1⟩ := viewAt hR hia e1
  obtain ⟨A, c, rfl, hs, hc1, hc2, hA, hfar⟩ := viewAt hR hi e3
  have hp' := hp b A1 none A c1 0 c w hb hs1 (by rw [hpg]; intro j u hj; simp at hj) hs hc1 hc2
  rw [hpg] at hp'
  refine hp'.mono fun e w' ⟨A', c', he, ho, k1, k2, k3, hB⟩ => ?_
  refine ⟨.p (.agg [.row ia, .v (.slice none 0 0), .row S.length]), _, _, r.set S.length none (some (.slice A' (F b).length c')), he, ⟨[.slice A1 b.at_.length c1, .slice none 0 0, .slice A' (F b).length c'], rfl, ?_⟩, hR.snoc (o := .view viewT (F b).length ((F b).flatMap opC)) hB (b := none) nofun ⟨A', c', by simp [Env.set], k1, ⟨k2, trivial⟩, by simp [Env.set], fun j u hj => ?_⟩, hR.le_new _ _, hK⟩
  · have hlt : ia < S.length := by
      rcases Nat.lt_or_ge ia S.length with h | h
      · exact h
      · rw [List.getElem?_eq_none h] at hia; cases hia
    simp only [denL, CV.den]
    exact ⟨_, _, rfl, by simp only [Env.set]; rw [if_neg (by omega)]; exact e1, _, _, rfl, rfl, _, _, rfl, by simp [Env.set], rfl⟩
  · obtain ⟨b', off, e4, e5, e6⟩ := ho j u hj
    refine ⟨b', off, e4, e5, fun q hq => ?_, e6⟩
    simp only [Env.set] at hq
    split at hq
    · cases hq
    · rcases k3 with k3 | rfl
      · have := k3 b' off none e4
        have := (hR.new q b' hq).1
        omega
      · cases hl : b.ops with
        | nil => rw [h0 hl] at hj; simp at hj
        | cons o l => exact hfar 0 (.int .i64 o.code) (by rw [hl]; rfl) b' off e4 q hq
def opTwo : BOp := ⟨1, 1, 0, 0, 2⟩
def opThree : BOp := ⟨1, 2, 0, 0, 3⟩
def blk1 : Blk := ⟨[0], [], blockOps [opTwo, opThree, ⟨3, 3, 1, 2, 0⟩]⟩
def blk2 : Blk := ⟨[0], [], blockOps [⟨2, 20, 1, 0, 0⟩, ⟨3, 2, 20, 20, 0⟩, ⟨2, 3, 20, 0, 0⟩]⟩
def blkW : List BOp := blockOps [⟨3, 2, 1, 1, 0⟩, ⟨2, 3, 1, 0, 0⟩]
theorem blkops1 : blockOps [opTwo, opThree, ⟨3, 3, 1, 2, 0⟩] = [⟨20, 0, 0, 0, 0⟩, ⟨1, 1, 0, 0, 2⟩, ⟨1, 2, 0, 0, 3⟩, ⟨3, 3, 1, 2, 0⟩, ⟨24, 0, 0, 0, 4⟩] := rfl
theorem blkops2 : blockOps [⟨2, 20, 1, 0, 0⟩, ⟨3, 2, 20, 20, 0⟩, ⟨2, 3, 20, 0, 0⟩] = [⟨20, 0, 0, 0, 0⟩, ⟨2, 20, 1, 0, 0⟩, ⟨3, 2, 20, 20, 0⟩, ⟨2, 3, 20, 0, 0⟩, ⟨24, 0, 0, 0, 4⟩] := rfl
theorem blkopsW : blkW = [⟨20, 0, 0, 0, 0⟩, ⟨3, 2, 1, 1, 0⟩, ⟨2, 3, 1, 0, 0⟩, ⟨24, 0, 0, 0, 4⟩] := rfl
theorem blk1_fold : foldAll blk1 = blockOps [opTwo, opThree, ⟨1, 3, 0, 0, 5⟩] := by decide +kernel
theorem blk2_once : (onceP blk2).ops = blkW := by decide +kernel
theorem blk2_twice : (onceP ⟨[0], [], blkW⟩).ops = blkW := by decide +kernel
theorem blk2_valid : validB blk2 = true := by decide +kernel
theorem blkW_live : (liveAll ⟨[0], [], blkW⟩).length = 4 := by decide +kernel
theorem blk_ok {l : List BOp} (h : ∀ o ∈ l, o.ok) (hl : l.length ≤ 100) : (⟨[0], [], l⟩ : Blk).ok := ⟨by intro x hx; simp at hx; subst hx; exact word0, nofun, h, by show (1 : Nat) ≤ _; omega, by show (0 : Nat) ≤ _; omega, by show l.length ≤ _; omega⟩
theorem satq_ent {P : Program} {w0 : World} {G : Gs} {N : Nd} {d : Code} {f f' : Fr} {S S' : List Ow} {Q : Exit → Act → World → Prop} (h : Ent w0 G N f S f' S') (k : SatQ P w0 G N d f' S' Q) : SatQ P w0 G N d f S Q := ⟨fun a w hg => k.out a w (h.out a w hg)⟩
theorem own_cellsAt {w0 : World} {G : Gs} {S : List Ow} {r : Env} {w : World} (hR : Rel w0 G S r w) (i : Nat) {t : TypeId} {l : List CV} (hi : S[i]? = some (.cells t l)) : ∃ g us, r.blk i = some g ∧ denL r l us ∧ CellsAt w Gs.nil g 0 us := by
  obtain ⟨g, us, h1, h2, h3⟩ := hR.own i _ hi
  exact ⟨g, us, h1, h3, (hR.new i g h1).1, by simp, fun j u hj => by simp [World.cell?, h2, hj]⟩
theorem own_blkAt {w0 : World} {G : Gs} {S : List Ow} {r : Env} {w : World} (hR : Rel w0 G S r w) (i ia io : Nat) {t : TypeId} {l : List BOp} (hi : S[i]? = some (.cells t [.row ia, .v (.slice none 0 0), .row io])) (ha : S[ia]? = some (.view viewT 1 [.int .u32 0])) (ho : S[io]? = some (.view viewT l.length (l.flatMap opC))) :
    ∃ g A1 c1 A3 c3, r.blk i = some g ∧ CellsAt w Gs.nil g 0 [.slice A1 1 c1, .slice none 0 0, .slice A3 l.length c3] ∧ SlAt w w.heap.size A1 [.int .u32 0] ∧ OpsAt w w.heap.size A3 l ∧ l.length ≤ c3 ∧ c3 ≤ maxLen := by
  obtain ⟨g, us, h1, h2, h3⟩ := own_cellsAt hR i hi
  simp only [denL, CV.den] at h2
  obtain ⟨u1, l1, rfl, e1, u2, l2, rfl, rfl, u3, l3, rfl, e3, rfl⟩ := h2
  obtain ⟨A1, c1, rfl, s1, _⟩ := viewAt hR ha e1
  obtain ⟨A3, c3, rfl, s3, k1, k2, _⟩ := viewAt hR ho e3
  exact ⟨g, A1, c1, A3, c3, h1, h3, s1, s3, k1, k2⟩
theorem slot_ref {r : Env} {f : Fr} {a : Act} (hf : FDen r f a) (d : Nat) {i g : Nat} (h : f.get d = .p (.c (.ref i 0))) (hb : r.blk i = some g) : a.tmps.getD d undef = .pointer (some ⟨g, 0, none⟩) := by
  have := hf d
  rw [h] at this
  obtain ⟨b, h1, h2⟩ := den_ref this
  rw [hb] at h1; injection h1 with h1; subst h1
  exact h2
theorem call_sameV {w0 : World} {S : List Ow} {K : AV → List Ow → Prop} {l m : List BOp} {A1 A3 : Option Addr} {c1 c3 : Nat} (ia io : Nat) (h1 : SlAt w0 w0.heap.size A1 [.int .u32 0]) (h3 : OpsAt w0 w0.heap.size A3 l) (hl : l.length ≤ 1000) (ha : S[ia]? = some (.view viewT 1 [.int .u32 0])) (ho : S[io]? = some (.view viewT m.length (m.flatMap opC))) (he : l = m) (hK : K (one (.bool true)) S) :
    CallS Try.prog w0 Gs.nil 23 [.p (.agg [.v (.slice A1 1 c1), .v (.slice none 0 0), .v (.slice A3 l.length c3)]), .p (.agg [.row ia, .v (.slice none 0 0), .row io])] S K := by
  subst he
  refine callS_val (.bool true) (by kernel_rfl) (fun r w us hR hd => ?_) hK
  obtain ⟨u1, l1, rfl, d1, u2, l2, rfl, d2, d3⟩ := hd
  obtain rfl : l2 = [] := d3
  obtain rfl := AV.val_den (x := .agg #[.slice A1 1 c1, .slice none 0 0, .slice A3 l.length c3]) rfl d1
  obtain ⟨us, rfl, hl'⟩ := den_agg d2
  simp only [denL, CV.den] at hl'
  obtain ⟨u1, l1, rfl, e1, u2, l2, rfl, rfl, u3, l3, rfl, e3, rfl⟩ := hl'
  obtain ⟨D1, d1', rfl, s1, _⟩ := viewAt hR ha e1
  obtain ⟨D3, d3', rfl, s3, _⟩ := viewAt hR ho e3
  have := same_ref (x := ⟨[0], [], l⟩) (y := ⟨[0], [], l⟩) (A1 := A1) (A2 := none) (A3 := A3) (D1 := D1) (D2 := none) (D3 := D3) (c1 := c1) (c2 := 0) (c3 := c3) (d1 := d1') (d2 := 0) (d3 := d3') (w := w) (by show 1 ≤ _; omega) (by show 0 ≤ _; omega) (by show l.length ≤ _; omega)
    (sl_later h1 hR.toBelow) (by intro j u hj; simp at hj) (sl_later h3 hR.toBelow) s1 (by intro j u hj; simp at hj) s3
  refine this.mono fun e w' ⟨h, hB⟩ => ⟨?_, hB⟩
  rw [h]
  simp [sameB]
theorem blk2_ok : blk2.ok := blk_ok (by
  intro o ho
  simp only [blkops2, List.mem_cons, List.not_mem_nil, or_false] at ho
  rcases ho with rfl | rfl | rfl | rfl | rfl <;> exact ⟨by unfold mid; dsimp only; omega, by unfold mid; dsimp only; omega, by unfold mid; dsimp only; omega, by unfold mid; dsimp only; omega, by unfold word; dsimp only; omega⟩) (by decide)
theorem blk1_ok : blk1.ok := blk_ok (by
  intro o ho
  simp only [blkops1, List.mem_cons, List.not_mem_nil, or_false] at ho
  rcases ho with rfl | rfl | rfl | rfl | rfl <;> exact ⟨by unfold mid; dsimp only; omega, by unfold mid; dsimp only; omega, by unfold mid; dsimp only; omega, by unfold mid; dsimp only; omega, by unfold word; dsimp only; omega⟩) (by decide)
theorem blkW_ok : (⟨[0], [], blkW⟩ : Blk).ok := blk_ok (by
  intro o ho
  simp only [blkopsW, List.mem_cons, List.not_mem_nil, or_false] at ho
  rcases ho with rfl | rfl | rfl | rfl <;> exact ⟨by unfold mid; dsimp only; omega, by unfold mid; dsimp only; omega, by unfold mid; dsimp only; omega, by unfold mid; dsimp only; omega, by unfold word; dsimp only; omega⟩) (by decide)
theorem opt_blk2 {mu : Blk → Nat} (hmu : ∀ b, b.ok → (onceP b).ops ≠ b.ops → mu (onceP b) < mu b) : optAll mu blk2 = blkW := by
  unfold optAll
  rw [if_pos blk2_valid]
  have e : onceP blk2 = ⟨[0], [], blkW⟩ := by
    have := blk2_once
    show (⟨[0], [], (onceP blk2).ops⟩ : Blk) = _
    rw [this]
  rw [optN_step hmu blk2_ok (by rw [blk2_once]; decide), e, optN_same blk2_twice]
theorem call_same_plain {w0 : World} {S : List Ow} {K : AV → List Ow → Prop} {l m : List BOp} {A1 A3 D1 D3 : Option Addr} {c1 c3 d1 d3 : Nat} (h1 : SlAt w0 w0.heap.size A1 [.int .u32 0]) (h3 : OpsAt w0 w0.heap.size A3 l) (g1 : SlAt w0 w0.heap.size D1 [.int .u32 0]) (g3 : OpsAt w0 w0.heap.size D3 m) (hl : l.length ≤ 1000) (he : l = m) (hK : K (one (.bool true)) S) :
    CallS Try.prog w0 Gs.nil 23 [.p (.agg [.v (.slice A1 1 c1), .v (.slice none 0 0), .v (.slice A3 l.length c3)]), .p (.agg [.v (.slice D1 1 d1), .v (.slice none 0 0), .v (.slice D3 m.length d3)])] S K := by
  subst he
  refine call_con (x := .bool true) rfl (by kernel_rfl) (fun r w hR => ?_) hK
  have := same_ref (x := ⟨[0], [], l⟩) (y := ⟨[0], [], l⟩) (A1 := A1) (A2 := none) (A3 := A3) (D1 := D1) (D2 := none) (D3 := D3) (c1 := c1) (c2 := 0) (c3 := c3) (d1 := d1) (d2 := 0) (d3 := d3) (w := w) (by show 1 ≤ _; omega) (by show 0 ≤ _; omega) (by show l.length ≤ _; omega)
    (sl_later h1 hR.toBelow) (by intro j u hj; simp at hj) (sl_later h3 hR.toBelow) (sl_later g1 hR.toBelow) (by intro j u hj; simp at hj) (sl_later g3 hR.toBelow)
  refine this.mono fun e w' ⟨h, hB⟩ => ⟨?_, hB⟩
  rw [h]
  simp [sameB]
theorem call_live {w0 : World} {S : List Ow} {K : AV → List Ow → Prop} (b : Blk) {A1 A2 A3 : Option Addr} {n1 n2 n3 c1 c2 c3 : Nat} (hn1 : b.at_.length = n1) (hn2 : b.pages.length = n2) (hn3 : b.ops.length = n3) (hb : b.ok) (h2 : SlAt w0 w0.heap.size A2 (b.pages.map (.int .i64))) (h3 : OpsAt w0 w0.heap.size A3 b.ops)
    (hK : K (.p (.c (.row S.length))) (S ++ [.view viewT (liveAll b).length ((liveAll b).map natV)])) :
    CallS Try.prog w0 Gs.nil 27 [.p (.agg [.v (.slice A1 n1 c1), .v (.slice A2 n2 c2), .v (.slice A3 n3 c3)])] S K := by
  subst hn1; subst hn2; subst hn3
  refine ⟨by kernel_rfl, fun r w us hR hd => ?_⟩
  obtain ⟨u1, l1, rfl, d1, d2⟩ := hd
  obtain rfl : l1 = [] := d2
  obtain rfl := AV.val_den (x := .agg #[.slice A1 b.at_.length c1, .slice A2 b.pages.length c2, .slice A3 b.ops.length c3]) rfl d1
  refine (live_opt b A1 A2 A3 c1 c2 c3 w hb (sl_later h2 hR.toBelow) (sl_later h3 hR.toBelow)).mono fun e w' ⟨A, c, he, hs, k1, k2, hf, hB⟩ => ?_
  refine ⟨.p (.c (.row S.length)), _, _, r.set S.length none (some (.slice A (liveAll b).length c)), he, by simp [AV.den, Pc.den, CV.den, Env.set], hR.snoc (o := .view viewT (liveAll b).length ((liveAll b).map natV)) hB (b := none) nofun (view_holds (w := w) (by simp [Env.set]) (by simp [Env.set]) hs k1 k2 trivial hf (fun k x hk => ?_)), hR.le_new _ _, hK⟩
  simp only [Env.set] at hk
  split at hk
  · cases hk
  · exact (hR.new k x hk).1
end Go.Proofs.Ytmjfgnnefcimiaa
namespace Go.Proofs.Ytmjfgnnefcimiaa
open Go.RowKit

theorem op_slice_hi {P : Program} {w0 : World} {G : Gs} {N : Nd} {o : Oper} {f : Fr} {S : List Ow} {K : Fr → List Ow → Prop} {t e : TypeId} {i : TypeInfo} {x y : Operand} {q : IntKind} {A : Option Addr} {n c : Nat} (h : Nat) (hop : o.op = .slice t x none (some y) none) (ht : P.underlying t = some (.slice e)) (hif : P.info? e = some i) (hx : f.ev x = one (.slice A n c))
    (hy : f.ev y = one (.int q (h : Int))) (hhc : h ≤ c) (hdst : dstOk N.n o.dst = true) (hk : K (f.put o.dst (one (.slice A h c))) S) : OpS P w0 G N o f S K := by
  refine op_slice_v 0 h i.size hop ht hif rfl hx (.inl ⟨rfl, rfl⟩) (.inr ⟨y, q, rfl, hy⟩) (Nat.zero_le _) hhc hdst ?_
  have hA : (if c = 0 then A else A.map (·.add (0 * i.size))) = A := by
    split
    · rfl
    · cases A with
      | none => rfl
      | some p => simp [Addr.add]
  rw [hA]; exact hk
set_option maxRecDepth 100000 in
theorem made_walk (A : Option Addr) (n c : Nat) (xs : List Int) (w : World) (hs : SlAt w w.heap.size A (xs.map (.int .i64))) (hl : xs.length = n) (hnc : n ≤ c) :
    Calls Try.prog 15 #[.slice A n c] w fun e w' => ∃ b v1 v2 v3, MadeOk b ∧ e = .returned (.agg #[v1, v2, v3]) ∧ Rows3 w.heap.size w' v1 v2 v3 b ∧ Below w.heap.size w w' := by
  obtain ⟨h, hh, hh1, hh2⟩ : ∃ h : Nat, (if (150 : Int) < (n : Int) then (150 : Int) else (n : Int)) = (h : Int) ∧ h ≤ n ∧ h ≤ 150 := by
    by_cases hn : (150 : Int) < (n : Int)
    · exact ⟨150, by rw [if_pos hn]; rfl, by omega, by omega⟩
    · exact ⟨n, by rw [if_neg hn], by omega, by omega⟩
  refine calls_val [.slice A n c] Try.func15 Try.ntmps15 rfl (by simp) ?_
  conv => whnf
  refine op_min rfl rfl rfl rfl ?_
  rw [hh]
  conv => whnf
  refine op_slice_hi (q := .i64) h rfl rfl rfl rfl rfl (by omega) rfl ?_
  conv => whnf
  refine call_blk MadeOk (by kernel_rfl) (fun r w' us hR hd => ?_) fun b hb => ?_
  · obtain rfl := avals_den (xs := [.slice A h c]) rfl hd
    have hs' : SlAt w w.heap.size A ((xs.take h).map (.int .i64)) := fun j u hj => hs j u (by
      rw [List.map_take, List.getElem?_take] at hj
      split at hj
      · exact hj
      · cases hj)
    exact made15_walk A h c (xs.take h) w' (sl_later hs' hR.toBelow) (by rw [List.length_take]; omega) (by omega)
  conv => whnf
  exact fin_rows3 1 2 3 b (by omega) (by omega) (by omega) (.inl ⟨rfl, rfl⟩) (.inl ⟨rfl, rfl⟩) (.inl ⟨rfl, rfl⟩) fun w' v1 v2 v3 h3 hB => ⟨_, v1, v2, v3, hb, rfl, h3, hB⟩
end Go.Proofs.Ytmjfgnnefcimiaa
namespace Go.Proofs.Ytmjfgnnefcimiaa
open Go.RowKit

theorem ble_no {n k : Nat} (h : k < n) : Nat.ble n k = false := by
  cases e : Nat.ble n k
  · rfl
  · exact absurd (Nat.le_of_ble_eq_true e) (by omega)
def MemP.put (M : MemP) (y v : Int) : MemP := { M with data := M.data.set y.toNat v }
def MemP.store (a : Int) : Nat → Nat → Int → MemP → MemP
  | _, 0, _, M => M
  | i, k + 1, x, M => MemP.store a (i + 1) k (x / 256) (M.put ((a + i) % 4294967296) (x % 256))
def MemP.storeM (M : MemP) (a : Int) (m : Nat) (x : Int) : MemP := match M.bad a 2 0 m with | none => MemP.store a 0 m x M | some _ => M
theorem store_step (M : MemP) (a x : Int) {i m : Nat} (h : i < m) : MemP.store a i (m - i) x M = MemP.store a (i + 1) (m - (i + 1)) (x / 256) (M.put ((a + i) % 4294967296) (x % 256)) := by
  obtain ⟨k, hk⟩ : ∃ k, m - i = k + 1 := ⟨m - i - 1, by omega⟩
  rw [hk, show m - (i + 1) = k by omega]; rfl
theorem put_ok {M : MemP} {n p : Nat} (hM : M.ok n p) (y : Int) {v : Int} (hv : 0 ≤ v ∧ v < 256) : (M.put y v).ok n p :=
  ⟨by show (M.data.set y.toNat v).length = n; rw [List.length_set]; exact hM.ld, hM.li, hM.lr, hM.np, hM.pmax, fun z hz => by
    rcases List.mem_or_eq_of_mem_set hz with h | h
    · exact hM.db z h
    · rw [h]; exact hv, hM.ib, hM.rb⟩
theorem store_ok {n p : Nat} (a : Int) : ∀ (i k : Nat) (x : Int) {M : MemP}, M.ok n p → 0 ≤ x → (MemP.store a i k x M).ok n p
  | _, 0, _, M, h, _ => h
  | i, k + 1, x, M, h, hx => store_ok a (i + 1) k (x / 256) (put_ok h _ (by omega)) (by omega)
theorem storeM_ok {M : MemP} {n p : Nat} (hM : M.ok n p) (a : Int) (m : Nat) {x : Int} (hx : 0 ≤ x) : (M.storeM a m x).ok n p := by
  unfold MemP.storeM
  split
  · exact store_ok a 0 m x hM hx
  · exact hM
theorem set_vals (us : List Value) (i : Nat) (u : Value) : setAll (us.map CV.v) i [.v u] = (us.set i u).map CV.v := by
  show (us.map CV.v).set i (.v u) = _
  rw [List.map_set]
theorem put_dV (M : MemP) (y v : Int) : M.dV.set y.toNat (byteV v) = (M.put y v).dV := by
  show (M.data.map byteV).set y.toNat (byteV v) = (M.data.set y.toNat v).map byteV
  rw [List.map_set]
set_option maxRecDepth 100000 in
theorem mem_store (M : MemP) (n p : Nat) (a : Int) (m : Nat) (x : Int) (w : World) (g : Nat) (gs : List Nat) (hU : ObjsAt w (g :: gs) (memS 0 n p M)) (hM : M.ok n p) (ha : word a) (hm : 1 ≤ m ∧ m ≤ 4) (hx : word x) :
    Calls Try.prog 90 #[.pointer (some ⟨g, 0, none⟩), .int .u32 a, .int .i64 (m : Int), .int .u32 x] w fun e w' => e = .returned (checkV (M.bad a 2 0 m)) ∧ ObjsAt w' (g :: gs) (memS 0 n p (M.storeM a m x)) ∧ GrownBys w w' (g :: gs) := by
  obtain ⟨g0, g1, g2, g3, g4, g5, hg⟩ := six_blocks hU
  injection hg with hg0 hgs
  subst hgs; subst hg0
  refine calls_objs [.p (.c (.ref 0 0)), one (.int .u32 a), one (.int .i64 (m : Int)), one (.int .u32 x)] [.pointer (some ⟨g, 0, none⟩), .int .u32 a, .int .i64 (m : Int), .int .u32 x] Try.func90 Try.ntmps90 rfl (by simp) hU ⟨_, _, rfl, den_mk_ref rfl, avdenL_of [.int .u32 a, .int .i64 (m : Int), .int .u32 x]⟩ ?_
  conv => whnf
  refine call_memR (pre := []) (suf := [one (.int .u32 a), one (.int .i64 (m : Int)), one (.int .i64 2)]) 0 n p M (checkV (M.bad a 2 0 m)) memL_six rfl rfl (by kernel_rfl) (fun w' g gs hk hU => mem_check M n p a 2 m w' g gs hU hM ha (.inr (.inl rfl)) hm) ?_
  cases hbad : M.bad a 2 0 m with
  | some y =>
    conv => whnf
    refine ⟨fun hc => absurd hc (by decide), fun _ => ?_⟩
    conv => whnf
    exact fin_objs rfl rfl memL_sub (memS_ob n p M) fun w' h1 h2 => ⟨rfl, by unfold MemP.storeM; rw [hbad]; exact h1, h2⟩
  | none =>
    conv => whnf
    refine ⟨fun _ => ?_, fun hc => absurd hc (by decide)⟩
    conv => whnf
    refine ⟨{ y : Nat × Int × MemP // y.1 ≤ m ∧ y.2.2.ok n p ∧ word y.2.1 ∧ MemP.store a 0 m x M = MemP.store a y.1 (m - y.1) y.2.1 y.2.2 }, fun y => [(0, .p (.c (.ref 0 0))), (1, one (.int .u32 a)), (2, one (.int .i64 (m : Int))), (3, one (.int .u32 y.1.2.1)), (8, .p (.c (.ref 6 0))), (9, .p (.c (.ref 7 0))), (10, one (.int .i64 (y.1.1 : Int)))], fun y => memL 0 n p y.1.2.2 [.cells 119 [.v (.int .u32 0), .v (.int .u32 0), .v (.bool false)], .cells 119 [.v (.int .u32 0), .v (.int .u32 0), .v (.bool true)]], fun y => m - y.1.1,
      ⟨⟨(0, x, M), by show 0 ≤ m; omega, hM, hx, rfl⟩, ent_same rfl (aI rfl (aI rfl (aI rfl (aI rfl (aI rfl (aI rfl (aI rfl trivial))))))) (aI ((aI rfl (Or.inl rfl))) (aI ((aI rfl (Or.inl rfl))) (aI ((aI rfl (Or.inl rfl))) (aI ((aI rfl (Or.inl rfl))) (aI ((aI rfl (Or.inl rfl))) (aI ((aI rfl (Or.inl rfl))) (aI ((aI rfl (Or.inl rfl))) (aI ((aI rfl (Or.inl rfl))) trivial))))))))⟩, fun y => ?_⟩
    obtain ⟨⟨i, z, Q⟩, hi, hQ, hz, heq⟩ := y
    dsimp only at hi hQ hz heq ⊢
    conv => whnf
    refine ⟨fun hc => ?_, fun hc => ?_⟩
    · have hlt : i < m := by simpa using hc
      have hidx := right_lt (bad_none hbad i (by omega) (by omega))
      rw [hM.ld] at hidx
      have hx0 : 0 ≤ (a + (i : Int)) % 4294967296 := by omega
      have hz' : 0 ≤ z ∧ z < 4294967296 := hz
      have hnp := hM.np
      have hlen : (List.map CV.v Q.dV).length = n := by unfold MemP.dV; simp [hQ.ld]
      conv => whnf
      refine ⟨(i : Int), by rw [wr32]; omega, ?_⟩
      conv => whnf
      refine ⟨(a + (i : Int)) % 4294967296, wr32 _, ?_⟩
      conv => whnf
      refine ⟨z % 256, rfl, ?_⟩
      conv => whnf
      refine ⟨⟨by omega, by omega⟩, ?_⟩
      conv => whnf
      rw [show Nat.ble (0 + ((a + (i : Int)) % 4294967296).toNat * tsz Try.prog 5 + [CV.v (Value.int IntKind.u8 (z % 256))].length) (List.map CV.v Q.dV).length = true from Nat.ble_eq_true_of_le (by rw [hlen]; show 0 + _ * 1 + 1 ≤ n; omega)]
      conv => whnf
      rw [show Nat.ble (List.map CV.v Q.dV).length 8 = false from by rw [hlen]; exact ble_no (by omega)]
      conv => whnf
      refine ⟨by decide, z / 256, by rw [Int.tdiv_eq_ediv_of_nonneg hz'.1, wr32]; omega, ?_⟩
      conv => whnf
      refine ⟨_, wr64 (by omega), ?_⟩
      conv => whnf
      have hset : setAll (List.map CV.v Q.dV) (0 + ((a + (i : Int)) % 4294967296).toNat * tsz Try.prog 5) [CV.v (Value.int IntKind.u8 (z % 256))] = List.map CV.v (Q.put ((a + (i : Int)) % 4294967296) (z % 256)).dV := by
        rw [set_vals, ← put_dV]
        show List.map CV.v (Q.dV.set (0 + ((a + (i : Int)) % 4294967296).toNat * 1) _) = _
        rw [Nat.zero_add, Nat.mul_one]
      exact ⟨⟨(i + 1, z / 256, Q.put ((a + (i : Int)) % 4294967296) (z % 256)), by show i + 1 ≤ m; omega, put_ok hQ _ (by omega), (by show 0 ≤ z / 256 ∧ z / 256 < 4294967296; omega), by rw [heq, store_step Q a z hlt]⟩, ent_same rfl (aI rfl (aI rfl (aI rfl (aI rfl (aI rfl (aI rfl (aI rfl trivial))))))) (aI ((aI rfl (Or.inl rfl))) (aI ((aI rfl (Or.inl hset))) (aI ((aI rfl (Or.inl rfl))) (aI ((aI rfl (Or.inl rfl))) (aI ((aI rfl (Or.inl rfl))) (aI ((aI rfl (Or.inl rfl))) (aI ((aI rfl (Or.inl rfl))) (aI ((aI rfl (Or.inl rfl))) trivial)))))))), by show m - (i + 1) < m - i; omega⟩
    · have hie : i = m := by simp at hc; omega
      subst hie
      rw [Nat.sub_self] at heq
      conv => whnf
      refine ⟨_, _, ent_refl, ?_⟩
      conv => whnf
      exact fin_objs rfl rfl memL_sub (memS_ob n p Q) fun w' h1 h2 => ⟨rfl, by unfold MemP.storeM; rw [hbad]; show ObjsAt w' _ (memS 0 n p (MemP.store a 0 i x M)); rw [heq]; exact h1, h2⟩
end Go.Proofs.Ytmjfgnnefcimiaa
namespace Go.Proofs.Ytmjfgnnefcimiaa
open Go.RowKit

set_option maxRecDepth 100000 in
theorem sanity_true {mu : Blk → Nat} (hmu : ∀ b, b.ok → (onceP b).ops ≠ b.ops → mu (onceP b) < mu b) (w : World) : Calls Try.prog 14 #[] w fun e w' => e = .returned (.bool true) ∧ Below w.heap.size w w' := by
  refine calls_satq [] Try.func14 Try.ntmps14 rfl (by simp) ?_
  refine satq_seq ?_
  conv => whnf
  refine satq_seq ?_
  conv => whnf
  refine satq_seq ?_
  conv => whnf
  refine satq_seq ?_
  conv => whnf
  refine call_block 2 3 [opTwo, opThree, ⟨3, 3, 1, 2, 0⟩] rfl rfl (by decide) ?_
  conv => whnf
  refine call_passV fold_pass (by kernel_rfl) 3 4 blk1 rfl rfl blk1_ok rfl fold_nil ?_
  conv => whnf
  refine satq_seq ?_
  conv => whnf
  refine satq_seq ?_
  conv => whnf
  refine satq_seq ?_
  conv => whnf
  refine call_block 9 3 [⟨2, 20, 1, 0, 0⟩, ⟨3, 2, 20, 20, 0⟩, ⟨2, 3, 20, 0, 0⟩] rfl rfl (by decide) ?_
  conv => whnf
  refine call_passV (opt_pass hmu) (by kernel_rfl) 10 11 blk2 rfl rfl blk2_ok rfl (fun h => by cases h) ?_
  conv => whnf
  refine satq_seq ?_
  conv => whnf
  refine call_block 14 2 [⟨3, 2, 1, 1, 0⟩, ⟨2, 3, 1, 0, 0⟩] rfl rfl (by decide) ?_
  conv => whnf
  refine satq_ent (f' := [(1, .p (.c (.ref 0 0))), (2, .p (.c (.ref 1 0))), (3, .p (.c (.ref 2 0))), (6, .p (.c (.ref 5 0))), (7, .p (.c (.ref 8 0)))])
    (S' := [.cells 53 ((opC opTwo).map .v), .cells 53 ((opC opThree).map .v), .cells 32 [.row 3, .v (.slice none 0 0), .row 4], .view viewT 1 [.int .u32 0], .view viewT (foldAll blk1).length ((foldAll blk1).flatMap opC),
      .cells 32 [.row 6, .v (.slice none 0 0), .row 7], .view viewT 1 [.int .u32 0], .view viewT (optAll mu blk2).length ((optAll mu blk2).flatMap opC), .cells 32 [.row 9, .v (.slice none 0 0), .row 10], .view viewT 1 [.int .u32 0], .view viewT blkW.length (blkW.flatMap opC)])
    (ent_ren [0, 1, 6, 3, 5, 13, 10, 12, 17, 15, 16] (aI rfl (aI rfl (aI rfl (aI rfl (aI rfl trivial))))) (aI ((Exists.intro _ (aI rfl (aI rfl (Or.inl rfl))))) (aI ((Exists.intro _ (aI rfl (aI rfl (Or.inl rfl))))) (aI ((Exists.intro _ (aI rfl (aI rfl (Or.inl rfl))))) (aI ((Exists.intro _ (aI rfl (aI rfl (aI rfl rfl))))) (aI ((Exists.intro _ (aI rfl (aI rfl (aI rfl rfl))))) (aI ((Exists.intro _ (aI rfl (aI rfl (Or.inl rfl))))) (aI ((Exists.intro _ (aI rfl (aI rfl (aI rfl rfl))))) (aI ((Exists.intro _ (aI rfl (aI rfl (aI rfl rfl))))) (aI ((Exists.intro _ (aI rfl (aI rfl (Or.inl rfl))))) (aI ((Exists.intro _ (aI rfl (aI rfl (aI rfl rfl))))) (aI ((Exists.intro _ (aI rfl (aI rfl (aI rfl rfl))))) trivial))))))))))) rfl rfl rfl rfl rfl) ?_
  refine satq_restart fun r w1 hR => ?_
  obtain ⟨g1, us1, b1, d1, k1⟩ := own_cellsAt hR 0 rfl
  obtain rfl := denL_vals_inv d1
  obtain ⟨g2, us2, b2, d2, k2⟩ := own_cellsAt hR 1 rfl
  obtain rfl := denL_vals_inv d2
  obtain ⟨g3, A1, c1, A3, c3, b3, k3, s1, s3, m1, m2⟩ := own_blkAt hR 2 3 4 (l := foldAll blk1) rfl rfl rfl
  obtain ⟨g6, B1, e1, B3, e3, b6, k6, t1, t3, n1, n2⟩ := own_blkAt hR 5 6 7 (l := optAll mu blk2) rfl rfl rfl
  obtain ⟨g7, C1, f1, C3, f3, b7, k7, v1, v3, o1, o2⟩ := own_blkAt hR 8 9 10 (l := blkW) rfl rfl rfl
  have hB0 := hR.toBelow
  refine ⟨slotFr [(1, .pointer (some ⟨g1, 0, none⟩)), (2, .pointer (some ⟨g2, 0, none⟩)), (3, .pointer (some ⟨g3, 0, none⟩)), (6, .pointer (some ⟨g6, 0, none⟩)), (7, .pointer (some ⟨g7, 0, none⟩))], fun a hf => slots_den ⟨slot_ref hf 1 rfl b1, slot_ref hf 2 rfl b2, slot_ref hf 3 rfl b3, slot_ref hf 6 rfl b6, slot_ref hf 7 rfl b7, trivial⟩, ?_⟩
  clear hR b1 b2 b3 b6 b7
  refine satq_vc ?_
  conv => whnf
  refine sat_mix [true, true, true, true, false, false, false, true, true, true, false, true, true, true, false, false, true, true, true] mixed (by kernel_rfl) (by kernel_rfl) ?_
  conv => whnf
  refine ⟨_, k3, rfl, ?_⟩
  conv => whnf
  refine ⟨_, k1, rfl, ?_⟩
  conv => whnf
  refine ⟨_, k2, rfl, ?_⟩
  conv => whnf
  refine call_block 0 3 [opTwo, opThree, ⟨1, 3, 0, 0, 5⟩] rfl rfl (by decide) ?_
  conv => whnf
  refine call_sameV 1 2 s1 s3 (by rw [blk1_fold]; decide) rfl rfl blk1_fold ?_
  conv => whnf
  refine ⟨_, k6, rfl, ?_⟩
  conv => whnf
  refine ⟨_, k7, rfl, ?_⟩
  conv => whnf
  refine call_same_plain t1 t3 v1 v3 (by rw [opt_blk2 hmu]; decide) (opt_blk2 hmu) ?_
  conv => whnf
  refine ⟨_, k7, rfl, ?_⟩
  conv => whnf
  refine call_live ⟨[0], [], blkW⟩ rfl rfl rfl blkW_ok (by intro j u hj; simp at hj) v3 ?_
  conv => whnf
  rw [blkW_live]
  conv => whnf
  refine atq_ret ?_
  conv => whnf
  exact fin_val rfl fun w' hB => ⟨rfl, hB0.trans (hB.mono hB0.size)⟩
end Go.Proofs.Ytmjfgnnefcimiaa
namespace Go.Proofs.Ytmjfgnnefcimiaa
open Go.RowKit

def MemP.protect (M : MemP) (q : Nat) (x : Int) : MemP := { M with rights := M.rights.set q x }
theorem protect_ok {M : MemP} {n p : Nat} (hM : M.ok n p) (q : Nat) {x : Int} (hx : 0 ≤ x ∧ x < 8) : (M.protect q x).ok n p :=
  ⟨hM.ld, hM.li, by show (M.rights.set q x).length = p; rw [List.length_set]; exact hM.lr, hM.np, hM.pmax, hM.db, hM.ib, fun z hz => by
    rcases List.mem_or_eq_of_mem_set hz with h | h
    · exact hM.rb z h
    · rw [h]; exact hx⟩
theorem bits_and7 {x : Int} (h : 0 ≤ x ∧ x < 8) : bits .and .i64 x 7 = x := by
  have : x = 0 ∨ x = 1 ∨ x = 2 ∨ x = 3 ∨ x = 4 ∨ x = 5 ∨ x = 6 ∨ x = 7 := by omega
  rcases this with rfl | rfl | rfl | rfl | rfl | rfl | rfl | rfl <;> decide
set_option maxRecDepth 100000 in
theorem mem_protect (M : MemP) (n p : Nat) (q : Nat) (x : Int) (w : World) (g : Nat) (gs : List Nat) (hU : ObjsAt w (g :: gs) (memS 0 n p M)) (hM : M.ok n p) (hq : q < p) (hp : p < 8) (hx : 0 ≤ x ∧ x < 8) :
    Calls Try.prog 63 #[.pointer (some ⟨g, 0, none⟩), .int .i64 (q : Int), .int .i64 x] w fun e w' => e = .returned (.tuple #[]) ∧ ObjsAt w' (g :: gs) (memS 0 n p (M.protect q x)) ∧ GrownBys w w' (g :: gs) := by
  obtain ⟨g0, g1, g2, g3, g4, g5, hg⟩ := six_blocks hU
  injection hg with hg0 hgs
  subst hgs; subst hg0
  refine calls_objs [.p (.c (.ref 0 0)), one (.int .i64 (q : Int)), one (.int .i64 x)] [.pointer (some ⟨g, 0, none⟩), .int .i64 (q : Int), .int .i64 x] Try.func63 Try.ntmps63 rfl (by simp) hU ⟨_, _, rfl, den_mk_ref rfl, avdenL_of [.int .i64 (q : Int), .int .i64 x]⟩ ?_
  conv => whnf
  refine ⟨decide ((q : Int) < (p : Int)), fun _ => ?_, ?_⟩
  · conv => whnf
    exact ⟨rfl, rfl, rfl, rfl, grp_mem _ _ _ _ _ _ _ _ _⟩
  conv => whnf
  refine ⟨fun _ => ?_, fun hc => absurd hc (by simp [cmb]; omega)⟩
  conv => whnf
  have h7 : bits .and .i64 x 7 = x := bits_and7 hx
  refine ⟨x, h7, ?_⟩
  conv => whnf
  refine ⟨⟨by omega, by omega⟩, ?_⟩
  conv => whnf
  have hlen : (List.map CV.v M.rV).length = p := by unfold MemP.rV; simp [hM.lr]
  rw [show Nat.ble (0 + (q : Int).toNat * tsz Try.prog 3 + [CV.v (Value.int IntKind.i64 x)].length) (List.map CV.v M.rV).length = true from Nat.ble_eq_true_of_le (by rw [hlen]; show 0 + _ * 1 + 1 ≤ p; omega)]
  conv => whnf
  rw [show Nat.ble (List.map CV.v M.rV).length 8 = true from Nat.ble_eq_true_of_le (by rw [hlen]; omega)]
  refine forceL_iff.2 ?_
  conv => whnf
  have hset : setAll (List.map CV.v M.rV) (0 + (q : Int).toNat * tsz Try.prog 3) [CV.v (Value.int IntKind.i64 x)] = List.map CV.v (M.protect q x).rV := by
    rw [set_vals]
    show List.map CV.v (M.rV.set (0 + (q : Int).toNat * 1) _) = List.map CV.v ((M.rights.set q x).map intV)
    rw [Nat.zero_add, Nat.mul_one, Int.toNat_natCast]
    unfold MemP.rV
    simp only [List.map_set]
  rw [hset]
  exact fin_objs rfl rfl (fun i o h => h) (memS_ob n p (M.protect q x)) fun w' h1 h2 => ⟨rfl, h1, h2⟩
end Go.Proofs.Ytmjfgnnefcimiaa
namespace Go.Proofs.Ytmjfgnnefcimiaa
open Go.RowKit

section
variable {P : Program} {w0 : World} {G : Gs} {S : List Ow} {f : Fr} {o : Oper} {N : Nd} {K : Fr → List Ow → Prop}
theorem op_max {x y : Operand} {a b : Int} {tys : Array TypeId} (hop : o.op = .call ⟨.builtin .max, #[x, y], tys⟩) (hx : f.ev x = one (.int .i64 a)) (hy : f.ev y = one (.int .i64 b)) (hdst : dstOk N.n o.dst = true) (hk : K (f.put o.dst (one (.int .i64 (if a < b then b else a)))) S) : OpS P w0 G N o f S K := by
  refine opS_val _ hdst (fun r act w hR hf => ⟨_, den_one _ _, ?_⟩) hk
  have h1 := hf.ev x
  have h2 := hf.ev y
  rw [hx] at h1; rw [hy] at h2
  simp [execOp, hop, resolve, invoke, builtin, den_v h1, den_v h2, Builtin.max_, Builtin.max2]
end
def nextSeed (s : Int) : Int := (s * 1664525 + 1013904223) % 4294967296
/-- n bytes that follow from a seed. -/
def fillL : Nat → Int → List Int
  | 0, _ => []
  | n + 1, s => nextSeed s / 16777216 :: fillL n (nextSeed s)
def seedAt : Nat → Int → Int
  | 0, s => s
  | n + 1, s => seedAt n (nextSeed s)
theorem fillL_length : ∀ (n : Nat) (s : Int), (fillL n s).length = n
  | 0, _ => rfl
  | n + 1, s => by simp [fillL, fillL_length n]
theorem fillL_byte : ∀ (n : Nat) (s : Int), ∀ x ∈ fillL n s, 0 ≤ x ∧ x < 256
  | 0, _, x, h => by cases h
  | n + 1, s, x, h => by
    rcases List.mem_cons.1 h with rfl | h
    · unfold nextSeed; omega
    · exact fillL_byte n _ x h
theorem fillL_get : ∀ {n i : Nat} (s : Int), i < n → (fillL n s)[i]? = some (nextSeed (seedAt i s) / 16777216)
  | 0, i, s, h => by omega
  | n + 1, 0, s, h => rfl
  | n + 1, i + 1, s, h => by simpa [fillL, seedAt] using fillL_get (n := n) (i := i) (nextSeed s) (by omega)
theorem seedAt_succ : ∀ (i : Nat) (s : Int), seedAt (i + 1) s = nextSeed (seedAt i s)
  | 0, s => rfl
  | i + 1, s => by show seedAt (i + 1) (nextSeed s) = _; rw [seedAt_succ i]; rfl
theorem seedAt_word : ∀ (i : Nat) {s : Int}, word s → word (seedAt i s)
  | 0, s, h => h
  | i + 1, s, h => seedAt_word i (by unfold nextSeed; exact word_mod _)
/-- The first j of them, and zeros. -/
def fillTo (n j : Nat) (s : Int) : List Int := (fillL n s).take j ++ List.replicate (n - j) 0
theorem fillTo_set {n j : Nat} (s : Int) (h : j < n) : (fillTo n j s).set j (nextSeed (seedAt j s) / 16777216) = fillTo n (j + 1) s := by
  unfold fillTo
  have hl : ((fillL n s).take j).length = j := by rw [List.length_take, fillL_length]; omega
  rw [List.set_append_right _ _ (by omega), hl, Nat.sub_self]
  obtain ⟨m, hm⟩ : ∃ m, n - j = m + 1 := ⟨n - j - 1, by omega⟩
  rw [hm, List.replicate_succ, List.set_cons_zero, List.take_add_one, fillL_get s h, show n - (j + 1) = m by omega]
  simp
theorem zero_fill (n : Nat) (s : Int) : (madeCells (Value.int .u8 0).cells (n * 1)).toList = (fillTo n 0 s).map (Value.int .u8) := by
  unfold fillTo
  refine List.ext_getElem? fun i => ?_
  simp only [madeCells, Value.cells, Array.getElem?_toList, Array.getElem?_map, List.getElem?_map, List.take_zero, List.nil_append, List.getElem?_replicate, Nat.mul_one, Nat.sub_zero]
  by_cases h : i < n <;> simp [h, Nat.mod_one]
set_option maxRecDepth 100000 in
theorem fill_walk (s : Int) (n : Nat) (w : World) (hs : word s) (hn : 8 < n ∧ n ≤ 100000) :
    Calls Try.prog 62 #[.int .u32 s, .int .i64 (n : Int)] w fun e w' => e = .returned (strV (fillL n s)) ∧ Below w.heap.size w w' := by
  refine calls_val [.int .u32 s, .int .i64 (n : Int)] Try.func62 Try.ntmps62 rfl (by simp) ?_
  conv => whnf
  refine op_max rfl rfl rfl rfl ?_
  rw [if_pos (by omega)]
  conv => whnf
  refine op_makeCells 1 n rfl rfl rfl rfl rfl rfl rfl (by omega) (by show 1 * n ≤ _; omega) (by show n ≤ 9223372036854775807; omega) rfl (xs := (fillTo n 0 s).map (Value.int .u8)) (zero_fill n s) ?_
  conv => whnf
  refine ⟨{ j : Nat // j ≤ n }, fun x => [(0, one (.int .u32 (seedAt x.1 s))), (5, .p (.c (.sl 0 0 n n))), (6, one (.int .i64 (x.1 : Int)))], fun x => [.cells 5 (((fillTo n x.1 s).map (Value.int .u8)).map .v)], fun x => n - x.1,
    ⟨⟨0, by omega⟩, ent_same rfl (aI rfl (aI rfl (aI rfl trivial))) (aI ((aI rfl (Or.inl rfl))) trivial)⟩, fun x => ?_⟩
  obtain ⟨j, hj⟩ := x
  dsimp only
  conv => whnf
  refine ⟨fun hc => ?_, fun hc => ?_⟩
  · have hlt : j < n := by simpa using hc
    have hsw := seedAt_word j hs
    have hsw' : 0 ≤ seedAt j s ∧ seedAt j s < 4294967296 := hsw
    have hlen : (List.map CV.v ((fillTo n j s).map (Value.int .u8))).length = n := by
      unfold fillTo; simp [fillL_length]; omega
    conv => whnf
    refine ⟨seedAt j s * 1664525 % 4294967296, wr32 _, ?_⟩
    conv => whnf
    refine ⟨nextSeed (seedAt j s), by rw [wr32]; unfold nextSeed; omega, ?_⟩
    conv => whnf
    have hns : 0 ≤ nextSeed (seedAt j s) ∧ nextSeed (seedAt j s) < 4294967296 := by unfold nextSeed; omega
    refine ⟨by decide, nextSeed (seedAt j s) / 16777216, by rw [Int.fdiv_eq_ediv_of_nonneg _ (by decide)]; rfl, ?_⟩
    conv => whnf
    refine ⟨nextSeed (seedAt j s) / 16777216, by show _ % 256 = _; omega, ?_⟩
    conv => whnf
    refine ⟨⟨by omega, by omega⟩, ?_⟩
    conv => whnf
    rw [show Nat.ble (0 + (j : Int).toNat * tsz Try.prog 5 + [CV.v (Value.int IntKind.u8 (nextSeed (seedAt j s) / 16777216))].length) (List.map CV.v ((fillTo n j s).map (Value.int .u8))).length = true from Nat.ble_eq_true_of_le (by rw [hlen]; show 0 + _ * 1 + 1 ≤ n; omega)]
    conv => whnf
    rw [show Nat.ble (List.map CV.v ((fillTo n j s).map (Value.int .u8))).length 8 = false from by rw [hlen]; exact ble_no (by omega)]
    conv => whnf
    refine ⟨_, wr64 (by omega), ?_⟩
    conv => whnf
    have hset : setAll (List.map CV.v ((fillTo n j s).map (Value.int .u8))) (0 + (j : Int).toNat * tsz Try.prog 5) [CV.v (Value.int IntKind.u8 (nextSeed (seedAt j s) / 16777216))] = List.map CV.v ((fillTo n (j + 1) s).map (Value.int .u8)) := by
      rw [set_vals, ← fillTo_set s hlt]
      show List.map CV.v (((fillTo n j s).map (Value.int .u8)).set (0 + (j : Int).toNat * 1) _) = _
      rw [Nat.zero_add, Nat.mul_one, Int.toNat_natCast]
      simp only [List.map_set]
    exact ⟨⟨j + 1, by omega⟩, ent_same rfl (aI ((by rw [seedAt_succ]; rfl)) (aI rfl (aI rfl trivial))) (aI ((aI rfl (Or.inl hset))) trivial), by show n - (j + 1) < n - j; omega⟩
  · have hje : j = n := by simp at hc; omega
    subst hje
    conv => whnf
    refine ⟨_, _, ent_refl, ?_⟩
    conv => whnf
    have hfull : fillTo j j s = fillL j s := by
      unfold fillTo; rw [Nat.sub_self, List.take_of_length_le (by rw [fillL_length]; omega)]; simp
    rw [hfull]
    refine q_conv_str 0 j j (fillL j s) rfl rfl rfl rfl rfl rfl (fillL_length _ _) ?_
    conv => whnf
    exact fin_val rfl fun w' hB => ⟨rfl, hB⟩
end Go.Proofs.Ytmjfgnnefcimiaa
namespace Go.Proofs.Ytmjfgnnefcimiaa
open Go.RowKit

def MemP.pokeTo (M : MemP) (l : List Int) (j : Nat) : MemP := { M with data := l.take j ++ M.data.drop j }
theorem pokeTo_ok {M : MemP} {n p : Nat} (hM : M.ok n p) {l : List Int} (hl : l.length = n) (hb : ∀ x ∈ l, 0 ≤ x ∧ x < 256) {j : Nat} (hj : j ≤ n) : (M.pokeTo l j).ok n p :=
  ⟨by show (l.take j ++ M.data.drop j).length = n; rw [List.length_append, List.length_take, List.length_drop, hM.ld]; omega, hM.li, hM.lr, hM.np, hM.pmax, fun z hz => by
    rcases List.mem_append.1 hz with h | h
    · exact hb z (List.mem_of_mem_take h)
    · exact hM.db z (List.mem_of_mem_drop h), hM.ib, hM.rb⟩
theorem pokeTo_set {M : MemP} {n p : Nat} (hM : M.ok n p) {l : List Int} (hl : l.length = n) {j : Nat} {b : Int} (hb : l[j]? = some b) (hj : j < n) : (M.pokeTo l j).data.set j b = (M.pokeTo l (j + 1)).data := by
  show (l.take j ++ M.data.drop j).set j b = l.take (j + 1) ++ M.data.drop (j + 1)
  have h1 : (l.take j).length = j := by rw [List.length_take]; omega
  rw [List.set_append_right _ _ (by omega), h1, Nat.sub_self, List.take_add_one, hb]
  have h2 : M.data.drop j = (M.data[j]'(by rw [hM.ld]; exact hj)) :: M.data.drop (j + 1) := List.drop_eq_getElem_cons _
  rw [h2, List.set_cons_zero]
  simp
set_option maxRecDepth 100000 in
theorem mem_poke (M : MemP) (n p : Nat) (l : List Int) (w : World) (g : Nat) (gs : List Nat) (hU : ObjsAt w (g :: gs) (memS 0 n p M)) (hM : M.ok n p) (hl : l.length = n) (hbl : ∀ x ∈ l, 0 ≤ x ∧ x < 256) :
    Calls Try.prog 61 #[.pointer (some ⟨g, 0, none⟩), .int .u32 0, strV l] w fun e w' => e = .returned (.tuple #[]) ∧ ObjsAt w' (g :: gs) (memS 0 n p (M.pokeTo l n)) ∧ GrownBys w w' (g :: gs) := by
  obtain ⟨g0, g1, g2, g3, g4, g5, hg⟩ := six_blocks hU
  injection hg with hg0 hgs
  subst hgs; subst hg0
  have hnp := hM.np
  have hpm := hM.pmax
  have e0 : M.pokeTo l 0 = M := by unfold MemP.pokeTo; simp
  refine calls_objs [.p (.c (.ref 0 0)), one (.int .u32 0), one (strV l)] [.pointer (some ⟨g, 0, none⟩), .int .u32 0, strV l] Try.func61 Try.ntmps61 rfl (by simp) hU ⟨_, _, rfl, den_mk_ref rfl, avdenL_of [.int .u32 0, strV l]⟩ ?_
  conv => whnf
  refine ⟨{ j : Nat // j ≤ n }, fun x => [(0, .p (.c (.ref 0 0))), (1, one (.int .u32 0)), (2, one (strV l)), (6, one (.int .i64 (x.1 : Int)))], fun x => memS 0 n p (M.pokeTo l x.1), fun x => n - x.1,
    ⟨⟨0, by omega⟩, ent_same rfl (aI rfl (aI rfl (aI rfl (aI rfl trivial)))) (aI ((aI rfl (Or.inl rfl))) (aI ((aI rfl (Or.inl (by rw [e0])))) (aI ((aI rfl (Or.inl rfl))) (aI ((aI rfl (Or.inl rfl))) (aI ((aI rfl (Or.inl rfl))) (aI ((aI rfl (Or.inl rfl))) trivial))))))⟩, fun x => ?_⟩
  obtain ⟨j, hj⟩ := x
  dsimp only
  conv => whnf
  refine q_len_str l rfl rfl rfl ?_
  conv => whnf
  refine ⟨fun hc => ?_, fun hc => ?_⟩
  · have hlt : j < n := by rw [hl] at hc; simpa using hc
    have hQ := pokeTo_ok hM hl hbl hj
    generalize hQe : M.pokeTo l j = Q at hQ ⊢
    obtain ⟨b, hb⟩ : ∃ b, l[j]? = some b := ⟨_, List.getElem?_eq_getElem (by omega)⟩
    have hbb := hbl b (List.mem_of_getElem? hb)
    have hlen : (List.map CV.v Q.dV).length = n := by unfold MemP.dV; simp [hQ.ld]
    conv => whnf
    refine ⟨(j : Int), by rw [wr32]; omega, ?_⟩
    conv => whnf
    refine ⟨(j : Int), by rw [wr32]; omega, ?_⟩
    conv => whnf
    refine call_memR (pre := []) (suf := [one (.int .u32 (j : Int))]) 0 n p Q (.bool (decide ((j : Int) < (n : Int)))) (fun i hi => by rw [Nat.zero_add]) rfl rfl (by kernel_rfl) (fun w' g gs hk hU => mem_in Q n p j w' g gs hU hQ (by unfold word; omega)) ?_
    conv => whnf
    refine ⟨fun _ => ?_, fun hc => absurd hc (by simp; omega)⟩
    conv => whnf
    refine sat_tail 12 mixed (by kernel_rfl) ?_
    conv => whnf
    refine ⟨(j : Int), by rw [wr32]; omega, ?_⟩
    conv => whnf
    refine ⟨(j : Int), by rw [wr32]; omega, ?_⟩
    conv => whnf
    refine q_index_str l .i64 j b rfl rfl rfl rfl hb hbb ?_
    conv => whnf
    refine ⟨⟨by omega, by omega⟩, ?_⟩
    conv => whnf
    rw [show Nat.ble (0 + (j : Int).toNat * tsz Try.prog 5 + [CV.v (Value.int IntKind.u8 b)].length) (List.map CV.v Q.dV).length = true from Nat.ble_eq_true_of_le (by rw [hlen]; show 0 + _ * 1 + 1 ≤ n; omega)]
    conv => whnf
    rw [show Nat.ble (List.map CV.v Q.dV).length 8 = false from by rw [hlen]; exact ble_no (by omega)]
    conv => whnf
    refine ⟨_, wr64 (by omega), ?_⟩
    conv => whnf
    have hset : setAll (List.map CV.v Q.dV) (0 + (j : Int).toNat * tsz Try.prog 5) [CV.v (Value.int IntKind.u8 b)] = List.map CV.v (M.pokeTo l (j + 1)).dV := by
      rw [set_vals]
      show List.map CV.v (Q.dV.set (0 + (j : Int).toNat * 1) _) = List.map CV.v ((M.pokeTo l (j + 1)).data.map byteV)
      rw [Nat.zero_add, Nat.mul_one, Int.toNat_natCast, ← pokeTo_set hM hl hb hlt, hQe]
      unfold MemP.dV
      simp only [List.map_set]
    have hrest : Q.iV = (M.pokeTo l (j + 1)).iV ∧ Q.odV = (M.pokeTo l (j + 1)).odV ∧ Q.oiV = (M.pokeTo l (j + 1)).oiV ∧ Q.rV = (M.pokeTo l (j + 1)).rV := by rw [← hQe]; exact ⟨rfl, rfl, rfl, rfl⟩
    exact ⟨⟨j + 1, by omega⟩, ent_same rfl (aI rfl (aI rfl (aI rfl (aI rfl trivial)))) (aI ((aI rfl (Or.inl rfl))) (aI ((aI rfl (Or.inl hset))) (aI ((aI rfl (Or.inl (by rw [hrest.1])))) (aI ((aI rfl (Or.inl (by rw [hrest.2.1])))) (aI ((aI rfl (Or.inl (by rw [hrest.2.2.1])))) (aI ((aI rfl (Or.inl (by rw [hrest.2.2.2])))) trivial)))))), by show n - (j + 1) < n - j; omega⟩
  · have hje : j = n := by rw [hl] at hc; simp at hc; omega
    rw [hje]
    conv => whnf
    refine ⟨_, _, ent_refl, ?_⟩
    conv => whnf
    exact fin_objs rfl rfl (fun i o h => h) (memS_ob n p (M.pokeTo l n)) fun w' h1 h2 => ⟨rfl, h1, h2⟩
end Go.Proofs.Ytmjfgnnefcimiaa
namespace Go.Proofs.Ytmjfgnnefcimiaa
open Go.RowKit

theorem cut_all {l : List CV} {n : Nat} (h : l.length = n) : cut l 0 n = some l := by
  unfold cut
  rw [show Nat.ble (0 + n) l.length = true from Nat.ble_eq_true_of_le (by omega)]
  simp [← h]
abbrev u32L (vs : List Int) : List Value := vs.map (Value.int .u32)
abbrev varsV (vs : List Int) : Value := .agg (u32L vs).toArray
theorem onesL_u32 (S : List Ow) : ∀ vs : List Int, onesL S (List.map CV.v (u32L vs)) = true
  | [] => rfl
  | v :: vs => by
    show (match oneS S (.v (.int .u32 v)) with | true => onesL S (List.map CV.v (u32L vs)) | false => false) = true
    exact onesL_u32 S vs
theorem setAll_all : ∀ {l m p : List CV}, l.length = m.length → setAll (p ++ l) p.length m = p ++ m
  | [], [], p, _ => by simp [setAll]
  | a :: l, b :: m, p, h => by
    have ih := setAll_all (l := l) (m := m) (p := p ++ [b]) (by simpa using h)
    show setAll ((p ++ a :: l).set p.length b) (p.length + 1) m = _
    rw [List.set_append_right _ _ (Nat.le_refl _), Nat.sub_self, List.set_cons_zero]
    have e : (p ++ [b]).length = p.length + 1 := by simp
    rw [e] at ih
    simpa using ih
  | [], _ :: _, _, h => by simp at h
  | _ :: _, [], _, h => by simp at h
theorem setAll_same {l m : List CV} (h : l.length = m.length) : setAll l 0 m = m := setAll_all (p := []) h
theorem valL_vals : ∀ us : List Value, valL (List.map CV.v us) = some us
  | [] => rfl
  | u :: us => by simp only [List.map_cons, valL, CV.val, valL_vals us]
theorem val_agg (us : List Value) : (AV.p (.agg (List.map CV.v us))).val = some (.agg us.toArray) := by
  simp only [AV.val, Pc.val, valL_vals us]
def guestsL (vs : List Int) : List Int := vs.take 19 ++ List.replicate (vs.length - 19) 0
/-- From 19 to j they are 0. -/
def guestsTo (vs : List Int) (j : Nat) : List Int := vs.take 19 ++ List.replicate (j - 19) 0 ++ vs.drop j
theorem guests_set {vs : List Int} {j : Nat} (h : 19 ≤ j) (hj : j < vs.length) : (guestsTo vs j).set j 0 = guestsTo vs (j + 1) := by
  unfold guestsTo
  have h1 : (vs.take 19 ++ List.replicate (j - 19) (0 : Int)).length = j := by simp; omega
  rw [List.set_append_right _ _ (by omega), h1, Nat.sub_self, show vs.drop j = vs[j] :: vs.drop (j + 1) from List.drop_eq_getElem_cons hj, List.set_cons_zero, show j + 1 - 19 = (j - 19) + 1 by omega, List.replicate_succ']
  simp
theorem guestsTo_length {vs : List Int} {j : Nat} (h : 19 ≤ j) (hj : j ≤ vs.length) : (guestsTo vs j).length = vs.length := by
  unfold guestsTo; simp; omega
theorem size_walk (c : Int) (w : World) : Calls Try.prog 89 #[.int .i64 c] w fun e w' => e = .returned (.int .i64 (sizeI c)) ∧ Below w.heap.size w w' := by
  refine calls_val [.int .i64 c] Try.func89 Try.ntmps89 rfl (by simp) ?_
  conv => whnf
  refine ⟨c == 19, fun _ => ?_, ?_⟩
  · conv => whnf
    exact ⟨rfl, rfl, rfl, rfl, rfl⟩
  conv => whnf
  refine ⟨fun hc => ?_, fun hc => ?_⟩
  · conv => whnf
    exact fin_val rfl fun w' hB => ⟨by unfold sizeI; rw [if_pos (show (c == 17 || c == 19) = true from hc)], hB⟩
  · conv => whnf
    exact fin_val rfl fun w' hB => ⟨by unfold sizeI; rw [if_neg (by rw [show (c == 17 || c == 19) = false from hc]; decide)], hB⟩
set_option maxRecDepth 100000 in
theorem guests_walk (vs : List Int) (w : World) (hl : vs.length = 28) : Calls Try.prog 65 #[varsV vs] w fun e w' => e = .returned (varsV (guestsL vs)) ∧ Below w.heap.size w w' := by
  refine calls_val [varsV vs] Try.func65 Try.ntmps65 rfl (by simp) ?_
  conv => whnf
  have e0 : guestsTo vs 19 = vs := by unfold guestsTo; simp
  refine ⟨{ j : Nat // 19 ≤ j ∧ j ≤ 28 }, fun x => [(1, .p (.c (.ref 0 0))), (2, .p (.c (.ref 1 0))), (3, one (.int .i64 (x.1 : Int)))], fun x => [.cells 45 (List.map CV.v (u32L (guestsTo vs x.1))), .cells 45 (List.map CV.v (u32L (List.replicate 28 0)))], fun x => 28 - x.1,
    ⟨⟨19, by omega, by omega⟩, ent_same rfl (aI rfl (aI rfl (aI rfl trivial))) (aI ((aI rfl (Or.inl (by rw [e0])))) (aI ((aI rfl (Or.inl rfl))) trivial))⟩, fun x => ?_⟩
  obtain ⟨j, hj1, hj2⟩ := x
  have hlen : (List.map CV.v (u32L (guestsTo vs j))).length = 28 := by rw [List.length_map, List.length_map, guestsTo_length hj1 (by omega), hl]
  dsimp only
  conv => whnf
  refine ⟨fun hc => ?_, fun hc => ?_⟩
  · have hlt : j < 28 := by simp at hc; omega
    conv => whnf
    refine ⟨⟨by omega, by omega⟩, ?_⟩
    conv => whnf
    rw [show Nat.ble (0 + (j : Int).toNat * tsz Try.prog 24 + [CV.v (Value.int IntKind.u32 0)].length) (List.map CV.v (u32L (guestsTo vs j))).length = true from Nat.ble_eq_true_of_le (by rw [hlen]; show 0 + _ * 1 + 1 ≤ 28; omega)]
    conv => whnf
    rw [show Nat.ble (List.map CV.v (u32L (guestsTo vs j))).length 8 = false from by rw [hlen]; rfl]
    conv => whnf
    refine ⟨_, wr64 (by omega), ?_⟩
    conv => whnf
    have hset : setAll (List.map CV.v (u32L (guestsTo vs j))) (0 + (j : Int).toNat * tsz Try.prog 24) [CV.v (Value.int IntKind.u32 0)] = List.map CV.v (u32L (guestsTo vs (j + 1))) := by
      rw [set_vals, ← guests_set hj1 (by omega)]
      show List.map CV.v ((u32L (guestsTo vs j)).set (0 + (j : Int).toNat * 1) _) = _
      rw [Nat.zero_add, Nat.mul_one, Int.toNat_natCast]
      simp only [List.map_set]
    exact ⟨⟨j + 1, by omega, by omega⟩, ent_same rfl (aI rfl (aI rfl (aI rfl trivial))) (aI ((aI rfl (Or.inl hset))) (aI ((aI rfl (Or.inl rfl))) trivial)), by show 28 - (j + 1) < 28 - j; omega⟩
  · have hje : j = 28 := by simp at hc; omega
    subst hje
    conv => whnf
    refine ⟨_, _, ent_refl, ?_⟩
    conv => whnf
    rw [show cut (List.map CV.v (u32L (guestsTo vs 28))) 0 (Try.prog.types[45].size) = some (List.map CV.v (u32L (guestsTo vs 28))) from cut_all hlen]
    conv => whnf
    have hl2 : (List.map CV.v (u32L (List.replicate 28 0))).length = 28 := rfl
    rw [show Nat.beq (List.map CV.v (u32L (guestsTo vs 28))).length (Try.prog.types[45].size) = true from by rw [hlen]; rfl, onesL_u32]
    conv => whnf
    rw [show Nat.ble (0 + (List.map CV.v (u32L (guestsTo vs 28))).length) (List.map CV.v (u32L (List.replicate 28 0))).length = true from Nat.ble_eq_true_of_le (by rw [hlen, hl2]; omega)]
    conv => whnf
    rw [setAll_same (show (List.map CV.v (u32L (List.replicate 28 0))).length = (List.map CV.v (u32L (guestsTo vs 28))).length by rw [hlen, hl2])]
    conv => whnf
    rw [show cut (List.map CV.v (u32L (guestsTo vs 28))) 0 (Try.prog.types[45].size) = some (List.map CV.v (u32L (guestsTo vs 28))) from cut_all hlen]
    conv => whnf
    refine fin_val (val_agg _) fun w' hB => ⟨?_, hB⟩
    have : guestsTo vs 28 = guestsL vs := by unfold guestsTo guestsL; rw [List.drop_eq_nil_of_le (by omega), hl]; simp
    rw [this]
end Go.Proofs.Ytmjfgnnefcimiaa
namespace Go.Proofs.Ytmjfgnnefcimiaa
open Go.RowKit

/-- A block that three rows and a cell hold, seen as plain memory. -/
theorem own_blkRows {w0 : World} {G : Gs} {S : List Ow} {r : Env} {w : World} (hR : Rel w0 G S r w) (k i1 i2 i3 : Nat) (b : Blk) {t : TypeId} (hk : S[k]? = some (.cells t [.row i1, .row i2, .row i3])) (h1 : S[i1]? = some (.row 24 1 b.at_.length (b.at_.map (.int .u32)))) (h2 : S[i2]? = some (.row 3 1 b.pages.length (b.pages.map (.int .i64)))) (h3 : S[i3]? = some (.row 53 5 b.ops.length (b.ops.flatMap opC))) :
    ∃ g A1 c1 A2 c2 A3 c3, r.blk k = some g ∧ CellsAt w Gs.nil g 0 [.slice A1 b.at_.length c1, .slice A2 b.pages.length c2, .slice A3 b.ops.length c3] ∧ SlAt w w.heap.size A1 (b.at_.map (.int .u32)) ∧ SlAt w w.heap.size A2 (b.pages.map (.int .i64)) ∧ OpsAt w w.heap.size A3 b.ops ∧ b.ops.length ≤ c3 ∧ c3 ≤ maxLen := by
  obtain ⟨g, us, e1, e2, e3⟩ := own_cellsAt hR k hk
  simp only [denL, CV.den] at e2
  obtain ⟨u1, l1, rfl, d1, u2, l2, rfl, d2, u3, l3, rfl, d3, rfl⟩ := e2
  obtain ⟨A1, c1, rfl, s1, _⟩ := hR.rowAt h1 d1
  obtain ⟨A2, c2, rfl, s2, _⟩ := hR.rowAt h2 d2
  obtain ⟨A3, c3, rfl, s3, m1, m2⟩ := hR.rowAt h3 d3
  exact ⟨g, A1, c1, A2, c2, A3, c3, e1, e3, s1, s2, s3, m1, m2⟩
section
variable {w0 : World} {S : List Ow} {K : AV → List Ow → Prop} {b : Blk} {A1 A2 A3 : Option Addr} {n1 n2 n3 c1 c2 c3 : Nat}
end
theorem slot_val {r : Env} {f : Fr} {a : Act} (hf : FDen r f a) {d : Nat} {x : Value} (h : (f.get d).val = some x) : a.tmps.getD d undef = x := AV.val_den h (hf d)
/-- sanity, with its measure. -/
theorem sanity_law (w : World) : Calls Try.prog 14 #[] w fun e w' => e = .returned (.bool true) ∧ Below w.heap.size w w' := sanity_true once_mu w
end Go.Proofs.Ytmjfgnnefcimiaa
