/- A drawn region of four loads, four calls in a row, four boxes in any order between them, and the four stores: by what has come. Walks: sanity: the pieces. Walks: the law's maker of blocks; a copy of a block. Plain: Copies and Dead keep a block valid. Walks: sanity. -/
import Derived.Test.YtmjfgnnefcimiaaK1
import Derived.Test.YtmjfgnnefcimiaaK10
import Derived.Test.YtmjfgnnefcimiaaK11
import Derived.Test.YtmjfgnnefcimiaaK12
import Derived.Test.YtmjfgnnefcimiaaK14
import Derived.Test.YtmjfgnnefcimiaaK15
import Derived.Test.YtmjfgnnefcimiaaK16
import Derived.Test.YtmjfgnnefcimiaaK17
import Derived.Test.YtmjfgnnefcimiaaK18
import Derived.Test.YtmjfgnnefcimiaaK19
import Derived.Test.YtmjfgnnefcimiaaK20
import Derived.Test.YtmjfgnnefcimiaaK21
import Derived.Test.YtmjfgnnefcimiaaK23
import Derived.Test.YtmjfgnnefcimiaaK24
import Derived.Test.YtmjfgnnefcimiaaK25
import Derived.Test.YtmjfgnnefcimiaaK26
import Derived.Test.YtmjfgnnefcimiaaK3
import Derived.Test.YtmjfgnnefcimiaaK4
import Derived.Test.YtmjfgnnefcimiaaK5
namespace Go.Proofs.Ytmjfgnnefcimiaa
open Go.RowKit
inductive K5 where
  | k0 | k1 | k2 | k3 | k4
/-- Loads taken; then calls made and boxes there; then stores made. -/
inductive KSt where
  | l0 | l1 | l2 | l3
  | c (k : K5) (a b c d : Bool)
  | s1 | s2 | s3 | s4
def K5.ge : K5 → Nat → Bool
  | .k0, _ => false
  | .k1, i => Nat.beq i 0
  | .k2, i => Nat.blt i 2
  | .k3, i => Nat.blt i 3
  | .k4, _ => true
def K5.left : K5 → Nat
  | .k0 => 4
  | .k1 => 3
  | .k2 => 2
  | .k3 => 1
  | .k4 => 0
def KSt.listed : KSt → Array Bool
  | .l0 => #[false, false, false, false, false, false, false, false, false, false, false, false, false, false, false, false]
  | .l1 => #[true, false, false, false, false, false, false, false, false, false, false, false, false, false, false, false]
  | .l2 => #[true, false, true, false, false, false, false, false, false, false, false, false, false, false, false, false]
  | .l3 => #[true, false, true, false, true, false, false, false, false, false, false, false, false, false, false, false]
  | .c k a b e d => #[true, k.ge 0, true, k.ge 1, true, k.ge 2, true, k.ge 3, a, b, e, d, false, false, false, false]
  | .s1 => #[true, true, true, true, true, true, true, true, true, true, true, true, true, false, false, false]
  | .s2 => #[true, true, true, true, true, true, true, true, true, true, true, true, true, true, false, false]
  | .s3 => #[true, true, true, true, true, true, true, true, true, true, true, true, true, true, true, false]
  | .s4 => #[true, true, true, true, true, true, true, true, true, true, true, true, true, true, true, true]
def KSt.calls (a b e d : Bool) : K5 → List (Nat × KSt)
  | .k0 => [(1, .c .k1 a b e d)]
  | .k1 => [(3, .c .k2 a b e d)]
  | .k2 => [(5, .c .k3 a b e d)]
  | .k3 => [(7, .c .k4 a b e d)]
  | .k4 => []
def KSt.box (i : Nat) (y : KSt) : Bool → List (Nat × KSt)
  | false => [(i, y)]
  | true => []
def KSt.last : K5 → Bool → Bool → Bool → Bool → List (Nat × KSt)
  | .k4, true, true, true, true => [(12, .s1)]
  | _, _, _, _, _ => []
def KSt.nx : KSt → Nx KSt
  | .l0 => .q 0 .l1
  | .l1 => .q 2 .l2
  | .l2 => .q 4 .l3
  | .l3 => .q 6 (.c .k0 false false false false)
  | .c k a b e d => .alts (KSt.calls a b e d k ++ (KSt.box 8 (.c k true b e d) a ++ (KSt.box 9 (.c k a true e d) b ++ (KSt.box 10 (.c k a b true d) e ++ (KSt.box 11 (.c k a b e true) d ++ KSt.last k a b e d)))))
  | .s1 => .alts [(13, .s2)]
  | .s2 => .alts [(14, .s3)]
  | .s3 => .alts [(15, .s4)]
  | .s4 => .done
def bleft : Bool → Nat
  | true => 0
  | false => 1
def KSt.left : KSt → Nat
  | .l0 => 16
  | .l1 => 15
  | .l2 => 14
  | .l3 => 13
  | .c k a b e d => 4 + k.left + bleft a + bleft b + bleft e + bleft d
  | .s1 => 3
  | .s2 => 2
  | .s3 => 1
  | .s4 => 0
section
variable (P : Program) (W : World) (G : Gs) (N : Nd) {α : Type}
/-- One of the operations that may come up. -/
def altK (ops : Array Oper) (l : List Oper) (T : α → Fr) (U : α → List Ow) (x : α) (i : Nat) (y : α) : Prop :=
  match l[i]? with
  | none => False
  | some o => (match guardOf ops (T x) o with
    | some true => opK P W G N o (T x) (U x) fun f' S' => Ent W G N f' S' (T y) (U y)
    | _ => False)
end
section
variable {P : Program} {W : World} {G : Gs} {N : Nd} {l : List Oper} {T : KSt → Fr} {U : KSt → List Ow}
theorem sat_k {id : Nat} {f : Fr} {S : List Ow} {K : Exit → Fr → List Ow → Prop} (T : KSt → Fr) (U : KSt → List Ow) (hm : P.follows .mixedOrders = true) (hns : Region.noSelect l.toArray = true) (hlen : l.length = 16) (hB : ∀ x, dagB l.toArray KSt.listed KSt.nx KSt.left x = true)
    (hent : Ent W G N f S (T .l0) (U .l0))
    (h0 : nodeK P W G N l.toArray l T U (K .normal) .l0 (.q 0 .l1)) (h1 : nodeK P W G N l.toArray l T U (K .normal) .l1 (.q 2 .l2)) (h2 : nodeK P W G N l.toArray l T U (K .normal) .l2 (.q 4 .l3)) (h3 : nodeK P W G N l.toArray l T U (K .normal) .l3 (.q 6 (.c .k0 false false false false)))
    (c0 : ∀ a b c d, altK P W G N l.toArray l T U (.c .k0 a b c d) 1 (.c .k1 a b c d)) (c1 : ∀ a b c d, altK P W G N l.toArray l T U (.c .k1 a b c d) 3 (.c .k2 a b c d)) (c2 : ∀ a b c d, altK P W G N l.toArray l T U (.c .k2 a b c d) 5 (.c .k3 a b c d)) (c3 : ∀ a b c d, altK P W G N l.toArray l T U (.c .k3 a b c d) 7 (.c .k4 a b c d))
    (a0 : ∀ k b c d, altK P W G N l.toArray l T U (.c k false b c d) 8 (.c k true b c d)) (a1 : ∀ k a c d, altK P W G N l.toArray l T U (.c k a false c d) 9 (.c k a true c d)) (a2 : ∀ k a b d, altK P W G N l.toArray l T U (.c k a b false d) 10 (.c k a b true d)) (a3 : ∀ k a b c, altK P W G N l.toArray l T U (.c k a b c false) 11 (.c k a b c true))
    (s0 : altK P W G N l.toArray l T U (.c .k4 true true true true) 12 .s1) (s1 : altK P W G N l.toArray l T U .s1 13 .s2) (s2 : altK P W G N l.toArray l T U .s2 14 .s3) (s3 : altK P W G N l.toArray l T U .s3 15 .s4)
    (he : K .normal (T .s4) (U .s4)) : Sat none P W G N (.region id l.toArray true) f S K := by
  have one : ∀ {x y : KSt} {i : Nat}, altK P W G N l.toArray l T U x i y → ∀ p ∈ [(i, y)], altK P W G N l.toArray l T U x p.1 p.2 := fun h p hp => by
    obtain rfl := List.mem_singleton.1 hp; exact h
  refine sat_dag KSt.listed KSt.nx KSt.left T U .l0 hm hns (by rw [hlen]; rfl) hB hent fun x => ?_
  have app : ∀ {x : KSt} {m n : List (Nat × KSt)}, (∀ p ∈ m, altK P W G N l.toArray l T U x p.1 p.2) → (∀ p ∈ n, altK P W G N l.toArray l T U x p.1 p.2) → ∀ p ∈ m ++ n, altK P W G N l.toArray l T U x p.1 p.2 := fun h k p hp => (List.mem_append.1 hp).elim (h p) (k p)
  cases x with
  | l0 => exact h0
  | l1 => exact h1
  | l2 => exact h2
  | l3 => exact h3
  | s1 => exact one s1
  | s2 => exact one s2
  | s3 => exact one s3
  | s4 => exact he
  | c k a b c d =>
    refine app ?_ (app ?_ (app ?_ (app ?_ (app ?_ ?_))))
    · cases k with
      | k0 => exact one (c0 a b c d)
      | k1 => exact one (c1 a b c d)
      | k2 => exact one (c2 a b c d)
      | k3 => exact one (c3 a b c d)
      | k4 => exact fun p hp => by cases hp
    · cases a with
      | false => exact one (a0 k b c d)
      | true => exact fun p hp => by cases hp
    · cases b with
      | false => exact one (a1 k a c d)
      | true => exact fun p hp => by cases hp
    · cases c with
      | false => exact one (a2 k a b d)
      | true => exact fun p hp => by cases hp
    · cases d with
      | false => exact one (a3 k a b c)
      | true => exact fun p hp => by cases hp
    · unfold KSt.last
      split
      · exact one s0
      · exact fun p hp => by cases hp
end
end Go.Proofs.Ytmjfgnnefcimiaa
namespace Go.Proofs.Ytmjfgnnefcimiaa
open Go.RowKit

theorem call_passV {P : Program} {w0 : World} {S : List Ow} {K : AV → List Ow → Prop} {fid : FuncId} {F : Blk → List BOp} (hp : Pass P fid F) (hok : fnOk P fid = true) (ia i : Nat) (b : Blk) (hia : S[ia]? = some (.view viewT b.at_.length (b.at_.map (.int .u32)))) (hi : S[i]? = some (.view viewT b.ops.length (b.ops.flatMap opC))) (hb : b.ok) (hpg : b.pages = []) (h0 : b.ops = [] → F b = [])
    (hK : K (.p (.agg [.row ia, .v (.slice none 0 0), .row S.length])) (S ++ [.view viewT (F b).length ((F b).flatMap opC)])) :
    CallS P w0 Gs.nil fid [.p (.agg [.row ia, .v (.slice none 0 0), .row i])] S K := by
  refine ⟨hok, fun r w us hR hd => ?_⟩
  obtain ⟨u1, l1, rfl, d1, d2⟩ := hd
  obtain rfl : l1 = [] := d2
  obtain ⟨us, rfl, hl⟩ := den_agg d1
  simp only [denL] at hl
  obtain ⟨u1, l1, rfl, e1, u2, l2, rfl, e2, u3, l3, rfl, e3, rfl⟩ := hl
  simp only [CV.den] at e1 e2 e3
  subst e2
  obtain ⟨A1, c1, rfl, hs1, hc11, hc12, _, hfar1⟩ := viewAt hR hia e1
  obtain ⟨A, c, rfl, hs, hc1, hc2, hA, hfar⟩ := viewAt hR hi e3
  have hp' := hp b A1 none A c1 0 c w hb hs1 (by rw [hpg]; intro j u hj; simp at hj) hs hc1 hc2
  rw [hpg] at hp'
  refine hp'.mono fun e w' ⟨A', c', he, ho, k1, k2, k3, hB⟩ => ?_
  refine ⟨.p (.agg [.row ia, .v (.slice none 0 0), .row S.length]), _, _, r.set S.length none (some (.slice A' (F b).length c')), he, ⟨[.slice A1 b.at_.length c1, .slice none 0 0, .slice A' (F b).length c'], rfl, ?_⟩, hR.snoc (o := .view viewT (F b).length ((F b).flatMap opC)) hB (b := none) nofun ⟨A', c', by simp [Env.set], k1, ⟨k2, trivial⟩, by simp [Env.set], fun j u hj => ?_⟩, hR.le_new _ _, hK⟩
  · have hlt : ia < S.length := by
      rcases Nat.lt_or_ge ia S.length with h | h
      · exact h
      · rw [List.getElem?_eq_none h] at hia; cases hia
    simp only [denL, CV.den]
    exact ⟨_, _, rfl, by simp only [Env.set]; rw [if_neg (by omega)]; exact e1, _, _, rfl, rfl, _, _, rfl, by simp [Env.set], rfl⟩
  · obtain ⟨b', off, e4, e5, e6⟩ := ho j u hj
    refine ⟨b', off, e4, e5, fun q hq => ?_, e6⟩
    simp only [Env.set] at hq
    split at hq
    · cases hq
    · rcases k3 with k3 | rfl
      · have := k3 b' off none e4
        have := (hR.new q b' hq).1
        omega
      · cases hl : b.ops with
        | nil => rw [h0 hl] at hj; simp at hj
        | cons o l => exact hfar 0 (.int .i64 o.code) (by rw [hl]; rfl) b' off e4 q hq
def opTwo : BOp := ⟨1, 1, 0, 0, 2⟩
def opThree : BOp := ⟨1, 2, 0, 0, 3⟩
def blk1 : Blk := ⟨[0], [], blockOps [opTwo, opThree, ⟨3, 3, 1, 2, 0⟩]⟩
def blk2 : Blk := ⟨[0], [], blockOps [⟨2, 20, 1, 0, 0⟩, ⟨3, 2, 20, 20, 0⟩, ⟨2, 3, 20, 0, 0⟩]⟩
def blkW : List BOp := blockOps [⟨3, 2, 1, 1, 0⟩, ⟨2, 3, 1, 0, 0⟩]
theorem blkops1 : blockOps [opTwo, opThree, ⟨3, 3, 1, 2, 0⟩] = [⟨20, 0, 0, 0, 0⟩, ⟨1, 1, 0, 0, 2⟩, ⟨1, 2, 0, 0, 3⟩, ⟨3, 3, 1, 2, 0⟩, ⟨24, 0, 0, 0, 4⟩] := rfl
theorem blkops2 : blockOps [⟨2, 20, 1, 0, 0⟩, ⟨3, 2, 20, 20, 0⟩, ⟨2, 3, 20, 0, 0⟩] = [⟨20, 0, 0, 0, 0⟩, ⟨2, 20, 1, 0, 0⟩, ⟨3, 2, 20, 20, 0⟩, ⟨2, 3, 20, 0, 0⟩, ⟨24, 0, 0, 0, 4⟩] := rfl
theorem blkopsW : blkW = [⟨20, 0, 0, 0, 0⟩, ⟨3, 2, 1, 1, 0⟩, ⟨2, 3, 1, 0, 0⟩, ⟨24, 0, 0, 0, 4⟩] := rfl
theorem blk1_fold : foldAll blk1 = blockOps [opTwo, opThree, ⟨1, 3, 0, 0, 5⟩] := by decide +kernel
theorem blk2_once : (onceP blk2).ops = blkW := by decide +kernel
theorem blk2_twice : (onceP ⟨[0], [], blkW⟩).ops = blkW := by decide +kernel
theorem blk2_valid : validB blk2 = true := by decide +kernel
theorem blkW_live : (liveAll ⟨[0], [], blkW⟩).length = 4 := by decide +kernel
theorem blk_ok {l : List BOp} (h : ∀ o ∈ l, o.ok) (hl : l.length ≤ 100) : (⟨[0], [], l⟩ : Blk).ok := ⟨by intro x hx; simp at hx; subst hx; exact word0, nofun, h, by show (1 : Nat) ≤ _; omega, by show (0 : Nat) ≤ _; omega, by show l.length ≤ _; omega⟩
theorem satq_ent {P : Program} {w0 : World} {G : Gs} {N : Nd} {d : Code} {f f' : Fr} {S S' : List Ow} {Q : Exit → Act → World → Prop} (h : Ent w0 G N f S f' S') (k : SatQ P w0 G N d f' S' Q) : SatQ P w0 G N d f S Q := ⟨fun a w hg => k.out a w (h.out a w hg)⟩
theorem own_cellsAt {w0 : World} {G : Gs} {S : List Ow} {r : Env} {w : World} (hR : Rel w0 G S r w) (i : Nat) {t : TypeId} {l : List CV} (hi : S[i]? = some (.cells t l)) : ∃ g us, r.blk i = some g ∧ denL r l us ∧ CellsAt w Gs.nil g 0 us := by
  obtain ⟨g, us, h1, h2, h3⟩ := hR.own i _ hi
  exact ⟨g, us, h1, h3, (hR.new i g h1).1, by simp, fun j u hj => by simp [World.cell?, h2, hj]⟩
theorem own_blkAt {w0 : World} {G : Gs} {S : List Ow} {r : Env} {w : World} (hR : Rel w0 G S r w) (i ia io : Nat) {t : TypeId} {l : List BOp} (hi : S[i]? = some (.cells t [.row ia, .v (.slice none 0 0), .row io])) (ha : S[ia]? = some (.view viewT 1 [.int .u32 0])) (ho : S[io]? = some (.view viewT l.length (l.flatMap opC))) :
    ∃ g A1 c1 A3 c3, r.blk i = some g ∧ CellsAt w Gs.nil g 0 [.slice A1 1 c1, .slice none 0 0, .slice A3 l.length c3] ∧ SlAt w w.heap.size A1 [.int .u32 0] ∧ OpsAt w w.heap.size A3 l ∧ l.length ≤ c3 ∧ c3 ≤ maxLen := by
  obtain ⟨g, us, h1, h2, h3⟩ := own_cellsAt hR i hi
  simp only [denL, CV.den] at h2
  obtain ⟨u1, l1, rfl, e1, u2, l2, rfl, rfl, u3, l3, rfl, e3, rfl⟩ := h2
  obtain ⟨A1, c1, rfl, s1, _⟩ := viewAt hR ha e1
  obtain ⟨A3, c3, rfl, s3, k1, k2, _⟩ := viewAt hR ho e3
  exact ⟨g, A1, c1, A3, c3, h1, h3, s1, s3, k1, k2⟩
theorem slot_ref {r : Env} {f : Fr} {a : Act} (hf : FDen r f a) (d : Nat) {i g : Nat} (h : f.get d = .p (.c (.ref i 0))) (hb : r.blk i = some g) : a.tmps.getD d undef = .pointer (some ⟨g, 0, none⟩) := by
  have := hf d
  rw [h] at this
  obtain ⟨b, h1, h2⟩ := den_ref this
  rw [hb] at h1; injection h1 with h1; subst h1
  exact h2
theorem call_sameV {w0 : World} {S : List Ow} {K : AV → List Ow → Prop} {l m : List BOp} {A1 A3 : Option Addr} {c1 c3 : Nat} (ia io : Nat) (h1 : SlAt w0 w0.heap.size A1 [.int .u32 0]) (h3 : OpsAt w0 w0.heap.size A3 l) (hl : l.length ≤ 1000) (ha : S[ia]? = some (.view viewT 1 [.int .u32 0])) (ho : S[io]? = some (.view viewT m.length (m.flatMap opC))) (he : l = m) (hK : K (one (.bool true)) S) :
    CallS Try.prog w0 Gs.nil 23 [.p (.agg [.v (.slice A1 1 c1), .v (.slice none 0 0), .v (.slice A3 l.length c3)]), .p (.agg [.row ia, .v (.slice none 0 0), .row io])] S K := by
  subst he
  refine callS_val (.bool true) (by kernel_rfl) (fun r w us hR hd => ?_) hK
  obtain ⟨u1, l1, rfl, d1, u2, l2, rfl, d2, d3⟩ := hd
  obtain rfl : l2 = [] := d3
  obtain rfl := AV.val_den (x := .agg #[.slice A1 1 c1, .slice none 0 0, .slice A3 l.length c3]) rfl d1
  obtain ⟨us, rfl, hl'⟩ := den_agg d2
  simp only [denL, CV.den] at hl'
  obtain ⟨u1, l1, rfl, e1, u2, l2, rfl, rfl, u3, l3, rfl, e3, rfl⟩ := hl'
  obtain ⟨D1, d1', rfl, s1, _⟩ := viewAt hR ha e1
  obtain ⟨D3, d3', rfl, s3, _⟩ := viewAt hR ho e3
  have := same_ref (x := ⟨[0], [], l⟩) (y := ⟨[0], [], l⟩) (A1 := A1) (A2 := none) (A3 := A3) (D1 := D1) (D2 := none) (D3 := D3) (c1 := c1) (c2 := 0) (c3 := c3) (d1 := d1') (d2 := 0) (d3 := d3') (w := w) (by show 1 ≤ _; omega) (by show 0 ≤ _; omega) (by show l.length ≤ _; omega)
    (sl_later h1 hR.toBelow) (by intro j u hj; simp at hj) (sl_later h3 hR.toBelow) s1 (by intro j u hj; simp at hj) s3
  refine this.mono fun e w' ⟨h, hB⟩ => ⟨?_, hB⟩
  rw [h]
  simp [sameB]
theorem blk2_ok : blk2.ok := blk_ok (by
  intro o ho
  simp only [blkops2, List.mem_cons, List.not_mem_nil, or_false] at ho
  rcases ho with rfl | rfl | rfl | rfl | rfl <;> exact ⟨by unfold mid; dsimp only; omega, by unfold mid; dsimp only; omega, by unfold mid; dsimp only; omega, by unfold mid; dsimp only; omega, by unfold word; dsimp only; omega⟩) (by decide)
theorem blk1_ok : blk1.ok := blk_ok (by
  intro o ho
  simp only [blkops1, List.mem_cons, List.not_mem_nil, or_false] at ho
  rcases ho with rfl | rfl | rfl | rfl | rfl <;> exact ⟨by unfold mid; dsimp only; omega, by unfold mid; dsimp only; omega, by unfold mid; dsimp only; omega, by unfold mid; dsimp only; omega, by unfold word; dsimp only; omega⟩) (by decide)
theorem blkW_ok : (⟨[0], [], blkW⟩ : Blk).ok := blk_ok (by
  intro o ho
  simp only [blkopsW, List.mem_cons, List.not_mem_nil, or_false] at ho
  rcases ho with rfl | rfl | rfl | rfl <;> exact ⟨by unfold mid; dsimp only; omega, by unfold mid; dsimp only; omega, by unfold mid; dsimp only; omega, by unfold mid; dsimp only; omega, by unfold word; dsimp only; omega⟩) (by decide)
theorem opt_blk2 {mu : Blk → Nat} (hmu : ∀ b, b.ok → (onceP b).ops ≠ b.ops → mu (onceP b) < mu b) : optAll mu blk2 = blkW := by
  unfold optAll
  rw [if_pos blk2_valid]
  have e : onceP blk2 = ⟨[0], [], blkW⟩ := by
    have := blk2_once
    show (⟨[0], [], (onceP blk2).ops⟩ : Blk) = _
    rw [this]
  rw [optN_step hmu blk2_ok (by rw [blk2_once]; decide), e, optN_same blk2_twice]
theorem call_same_plain {w0 : World} {S : List Ow} {K : AV → List Ow → Prop} {l m : List BOp} {A1 A3 D1 D3 : Option Addr} {c1 c3 d1 d3 : Nat} (h1 : SlAt w0 w0.heap.size A1 [.int .u32 0]) (h3 : OpsAt w0 w0.heap.size A3 l) (g1 : SlAt w0 w0.heap.size D1 [.int .u32 0]) (g3 : OpsAt w0 w0.heap.size D3 m) (hl : l.length ≤ 1000) (he : l = m) (hK : K (one (.bool true)) S) :
    CallS Try.prog w0 Gs.nil 23 [.p (.agg [.v (.slice A1 1 c1), .v (.slice none 0 0), .v (.slice A3 l.length c3)]), .p (.agg [.v (.slice D1 1 d1), .v (.slice none 0 0), .v (.slice D3 m.length d3)])] S K := by
  subst he
  refine call_con (x := .bool true) rfl (by kernel_rfl) (fun r w hR => ?_) hK
  have := same_ref (x := ⟨[0], [], l⟩) (y := ⟨[0], [], l⟩) (A1 := A1) (A2 := none) (A3 := A3) (D1 := D1) (D2 := none) (D3 := D3) (c1 := c1) (c2 := 0) (c3 := c3) (d1 := d1) (d2 := 0) (d3 := d3) (w := w) (by show 1 ≤ _; omega) (by show 0 ≤ _; omega) (by show l.length ≤ _; omega)
    (sl_later h1 hR.toBelow) (by intro j u hj; simp at hj) (sl_later h3 hR.toBelow) (sl_later g1 hR.toBelow) (by intro j u hj; simp at hj) (sl_later g3 hR.toBelow)
  refine this.mono fun e w' ⟨h, hB⟩ => ⟨?_, hB⟩
  rw [h]
  simp [sameB]
theorem call_live {w0 : World} {S : List Ow} {K : AV → List Ow → Prop} (b : Blk) {A1 A2 A3 : Option Addr} {n1 n2 n3 c1 c2 c3 : Nat} (hn1 : b.at_.length = n1) (hn2 : b.pages.length = n2) (hn3 : b.ops.length = n3) (hb : b.ok) (h2 : SlAt w0 w0.heap.size A2 (b.pages.map (.int .i64))) (h3 : OpsAt w0 w0.heap.size A3 b.ops)
    (hK : K (.p (.c (.row S.length))) (S ++ [.view viewT (liveAll b).length ((liveAll b).map natV)])) :
    CallS Try.prog w0 Gs.nil 27 [.p (.agg [.v (.slice A1 n1 c1), .v (.slice A2 n2 c2), .v (.slice A3 n3 c3)])] S K := by
  subst hn1; subst hn2; subst hn3
  refine ⟨by kernel_rfl, fun r w us hR hd => ?_⟩
  obtain ⟨u1, l1, rfl, d1, d2⟩ := hd
  obtain rfl : l1 = [] := d2
  obtain rfl := AV.val_den (x := .agg #[.slice A1 b.at_.length c1, .slice A2 b.pages.length c2, .slice A3 b.ops.length c3]) rfl d1
  refine (live_opt b A1 A2 A3 c1 c2 c3 w hb (sl_later h2 hR.toBelow) (sl_later h3 hR.toBelow)).mono fun e w' ⟨A, c, he, hs, k1, k2, hf, hB⟩ => ?_
  refine ⟨.p (.c (.row S.length)), _, _, r.set S.length none (some (.slice A (liveAll b).length c)), he, by simp [AV.den, Pc.den, CV.den, Env.set], hR.snoc (o := .view viewT (liveAll b).length ((liveAll b).map natV)) hB (b := none) nofun (view_holds (w := w) (by simp [Env.set]) (by simp [Env.set]) hs k1 k2 trivial hf (fun k x hk => ?_)), hR.le_new _ _, hK⟩
  simp only [Env.set] at hk
  split at hk
  · cases hk
  · exact (hR.new k x hk).1
end Go.Proofs.Ytmjfgnnefcimiaa
namespace Go.Proofs.Ytmjfgnnefcimiaa
open Go.RowKit

theorem op_slice_hi {P : Program} {w0 : World} {G : Gs} {N : Nd} {o : Oper} {f : Fr} {S : List Ow} {K : Fr → List Ow → Prop} {t e : TypeId} {i : TypeInfo} {x y : Operand} {q : IntKind} {A : Option Addr} {n c : Nat} (h : Nat) (hop : o.op = .slice t x none (some y) none) (ht : P.underlying t = some (.slice e)) (hif : P.info? e = some i) (hx : f.ev x = one (.slice A n c))
    (hy : f.ev y = one (.int q (h : Int))) (hhc : h ≤ c) (hdst : dstOk N.n o.dst = true) (hk : K (f.put o.dst (one (.slice A h c))) S) : OpS P w0 G N o f S K := by
  refine op_slice_v 0 h i.size hop ht hif rfl hx (.inl ⟨rfl, rfl⟩) (.inr ⟨y, q, rfl, hy⟩) (Nat.zero_le _) hhc hdst ?_
  have hA : (if c = 0 then A else A.map (·.add (0 * i.size))) = A := by
    split
    · rfl
    · cases A with
      | none => rfl
      | some p => simp [Addr.add]
  rw [hA]; exact hk
set_option maxRecDepth 100000 in
theorem made_walk (A : Option Addr) (n c : Nat) (xs : List Int) (w : World) (hs : SlAt w w.heap.size A (xs.map (.int .i64))) (hl : xs.length = n) (hnc : n ≤ c) :
    Calls Try.prog 15 #[.slice A n c] w fun e w' => ∃ b v1 v2 v3, MadeOk b ∧ e = .returned (.agg #[v1, v2, v3]) ∧ Rows3 w.heap.size w' v1 v2 v3 b ∧ Below w.heap.size w w' := by
  obtain ⟨h, hh, hh1, hh2⟩ : ∃ h : Nat, (if (150 : Int) < (n : Int) then (150 : Int) else (n : Int)) = (h : Int) ∧ h ≤ n ∧ h ≤ 150 := by
    by_cases hn : (150 : Int) < (n : Int)
    · exact ⟨150, by rw [if_pos hn]; rfl, by omega, by omega⟩
    · exact ⟨n, by rw [if_neg hn], by omega, by omega⟩
  refine calls_val [.slice A n c] Try.func15 Try.ntmps15 rfl (by simp) ?_
  conv => whnf
  refine op_min rfl rfl rfl rfl ?_
  rw [hh]
  conv => whnf
  refine op_slice_hi (q := .i64) h rfl rfl rfl rfl rfl (by omega) rfl ?_
  conv => whnf
  refine call_blk MadeOk (by kernel_rfl) (fun r w' us hR hd => ?_) fun b hb => ?_
  · obtain rfl := avals_den (xs := [.slice A h c]) rfl hd
    have hs' : SlAt w w.heap.size A ((xs.take h).map (.int .i64)) := fun j u hj => hs j u (by
      rw [List.map_take, List.getElem?_take] at hj
      split at hj
      · exact hj
      · cases hj)
    exact made15_walk A h c (xs.take h) w' (sl_later hs' hR.toBelow) (by rw [List.length_take]; omega) (by omega)
  conv => whnf
  exact fin_rows3 1 2 3 b (by omega) (by omega) (by omega) (.inl ⟨rfl, rfl⟩) (.inl ⟨rfl, rfl⟩) (.inl ⟨rfl, rfl⟩) fun w' v1 v2 v3 h3 hB => ⟨_, v1, v2, v3, hb, rfl, h3, hB⟩
set_option maxRecDepth 100000 in
theorem own_walk (b : Blk) (A1 A2 A3 : Option Addr) (c1 c2 c3 : Nat) (w : World) (hb : b.ok) (h1 : SlAt w w.heap.size A1 (b.at_.map (.int .u32))) (h2 : SlAt w w.heap.size A2 (b.pages.map (.int .i64))) (h3 : OpsAt w w.heap.size A3 b.ops) :
    Calls Try.prog 33 #[.agg #[.slice A1 b.at_.length c1, .slice A2 b.pages.length c2, .slice A3 b.ops.length c3]] w fun e w' => ∃ v1 v2 v3, e = .returned (.agg #[v1, v2, v3]) ∧ Rows3 w.heap.size w' v1 v2 v3 b ∧ Below w.heap.size w w' := by
  have old : ∀ {A : Option Addr} {xs : List Value}, SlAt w w.heap.size A xs → SlOld w Gs.nil A xs := fun h j u hj => by
    obtain ⟨bb, off, e1, e2, e3⟩ := h j u hj
    exact ⟨bb, off, e1, e2, by simp, e3⟩
  have hl1 := hb.lat
  have hl2 := hb.lpages
  have hl3 := hb.lops
  refine calls_val [.agg #[.slice A1 b.at_.length c1, .slice A2 b.pages.length c2, .slice A3 b.ops.length c3]] Try.func33 Try.ntmps33 rfl (by simp) ?_
  conv => whnf
  refine appK_sound rfl ?_ rfl
  conv => whnf
  refine ⟨b.at_.map (.int .u32), old h1, (List.length_map _).trans (Nat.mul_one _).symm, fun u hu => by obtain ⟨x, _, rfl⟩ := List.mem_map.1 hu; rfl, by omega, ?_⟩
  conv => whnf
  refine appK_sound rfl ?_ rfl
  conv => whnf
  refine ⟨b.pages.map (.int .i64), old h2, (List.length_map _).trans (Nat.mul_one _).symm, fun u hu => by obtain ⟨x, _, rfl⟩ := List.mem_map.1 hu; rfl, by omega, ?_⟩
  conv => whnf
  refine appK_sound rfl ?_ rfl
  conv => whnf
  refine ⟨b.ops.flatMap opC, old h3, ops_length _, ops_one _, by omega, ?_⟩
  conv => whnf
  exact fin_rows3 3 4 5 b (by omega) (by omega) (by omega) (.inl ⟨rfl, rfl⟩) (.inl ⟨rfl, rfl⟩) (.inl ⟨rfl, rfl⟩) fun w' v1 v2 v3 h3 hB => ⟨v1, v2, v3, rfl, h3, hB⟩
end Go.Proofs.Ytmjfgnnefcimiaa
namespace Go.Proofs.Ytmjfgnnefcimiaa
open Go.RowKit

def ckAfter (s : Ck) (o : BOp) : Ck := ⟨s.marks, if 20 ≤ writes o then s.written ||| 2 ^ (writes o).toNat else s.written, s.changed || (stores o.code || decide (0 ≤ writes o ∧ writes o < 20))⟩
theorem readB_after (s : Ck) (o : BOp) (v : Int) : readB (ckAfter s o) v = (readB s v || decide (20 ≤ v ∧ writes o = v)) := by
  unfold readB ckAfter
  rw [Bool.eq_iff_iff]
  simp only [Bool.or_eq_true, decide_eq_true_eq]
  by_cases h : v < 20
  · simp [h]
  · split
    · rename_i hw
      rw [Nat.testBit_or, Nat.testBit_two_pow]
      simp only [Bool.or_eq_true, decide_eq_true_eq]
      constructor
      · rintro (h1 | h1 | h1)
        · exact .inl (.inl h1)
        · exact .inl (.inr h1)
        · right; omega
      · rintro ((h1 | h1) | h1)
        · exact .inl h1
        · exact .inr (.inl h1)
        · right; right; rw [h1.2]
    · rename_i hw
      constructor
      · intro h1; exact .inl h1
      · rintro (h1 | h1)
        · exact h1
        · omega
/-- What the check of the result knows, next to that of the block. -/
structure CkSim (s s' : Ck) : Prop where
  marks : s'.marks = s.marks
  known : ∀ v, readB s v = true → readB s' v = true
  ch : s'.changed = true → s.changed = true
theorem ckSim_refl (s : Ck) : CkSim s s := ⟨rfl, fun _ h => h, fun h => h⟩
def CopyInv (f : Int → Option Int) (s : Ck) : Prop := ∀ v w, f v = some w → (0 ≤ w ∧ w < 28 ∧ w ≠ 19) ∧ readB s w = true
theorem mem_reads {o : BOp} {v : Int} : v ∈ reads o ↔ (hasA o.code = true ∧ v = o.a) ∨ (hasB o.code = true ∧ v = o.b ∧ o.b ≠ o.a) := by
  unfold reads
  rw [List.mem_append]
  constructor
  · rintro (h | h)
    · split at h
      · rename_i hA; exact .inl ⟨hA, by simpa using h⟩
      · cases h
    · split at h
      · rename_i hB; simp at hB; exact .inr ⟨hB.1, by simpa using h, hB.2⟩
      · cases h
  · rintro (⟨h1, h2⟩ | ⟨h1, h2, h3⟩)
    · left; rw [h1, h2]; simp
    · right; rw [if_pos (by rw [h1]; simp [h3]), h2]; simp
theorem hasA_of_B {c : Int} (h : hasB c = true) : hasA c = true := by
  unfold hasB at h; unfold hasA; rw [decide_eq_true_eq] at h ⊢; omega
theorem twoB_hasB (c : Int) : twoB c = hasB c := by
  unfold twoB hasB isBin; rw [Bool.eq_iff_iff]; simp; omega
theorem reads_b {o : BOp} (h : hasB o.code = true) : o.b ∈ reads o := by
  by_cases e : o.b = o.a
  · exact mem_reads.2 (.inl ⟨hasA_of_B h, e⟩)
  · exact mem_reads.2 (.inr ⟨h, rfl, e⟩)
theorem origS_cases (f : Int → Option Int) (x : Bool) (v : Int) : origS f x v = v ∨ (x = true ∧ f v = some (origS f x v)) := by
  unfold origS
  by_cases h : (x && (f v).isSome) = true
  · rw [if_pos h]
    simp only [Bool.and_eq_true] at h
    obtain ⟨w, hw⟩ := Option.isSome_iff_exists.1 h.2
    right; rw [hw]; exact ⟨h.1, rfl⟩
  · rw [if_neg h]; exact .inl rfl
theorem formed_split {o : BOp} : formedB o = true ↔ isOp o.code = true ∧ fieldB (hasD o.code) o.d = true ∧ fieldB (hasA o.code) o.a = true ∧ fieldB (hasB o.code) o.b = true ∧ (hasN o.code || o.n == 0) = true := by
  unfold formedB
  simp only [Bool.and_eq_true]
  constructor
  · rintro ⟨⟨⟨⟨h1, h2⟩, h3⟩, h4⟩, h5⟩; exact ⟨h1, h2, h3, h4, h5⟩
  · rintro ⟨h1, h2, h3, h4, h5⟩; exact ⟨⟨⟨⟨h1, h2⟩, h3⟩, h4⟩, h5⟩
theorem copyOp_formed {f : Int → Option Int} {s : Ck} (hI : CopyInv f s) {o : BOp} (hf : formedB o = true) : formedB (copyOp f o) = true := by
  obtain ⟨h1, h2, h3, h4, h5⟩ := formed_split.1 hf
  refine formed_split.2 ⟨h1, h2, ?_, ?_, h5⟩
  · show fieldB (hasA o.code) (origS f (memI o.a (reads o) && o.code != 20) o.a) = true
    rcases origS_cases f (memI o.a (reads o) && o.code != 20) o.a with e | ⟨e1, e2⟩
    · rw [e]; exact h3
    · cases hA : hasA o.code
      · exfalso
        simp only [Bool.and_eq_true] at e1
        have hB : hasB o.code = false := by
          cases hB : hasB o.code
          · rfl
          · rw [hasA_of_B hB] at hA; cases hA
        have hr : reads o = [] := by unfold reads; rw [hA, hB]; rfl
        rw [hr] at e1; simp [memI] at e1
      · unfold fieldB; rw [if_pos rfl, decide_eq_true_eq]; exact (hI _ _ e2).1
  · show fieldB (hasB o.code) (origS f (twoB o.code) o.b) = true
    rcases origS_cases f (twoB o.code) o.b with e | ⟨e1, e2⟩
    · rw [e]; exact h4
    · rw [twoB_hasB] at e1
      rw [e1]
      unfold fieldB; rw [if_pos rfl, decide_eq_true_eq]; exact (hI _ _ e2).1
theorem copyOp_reads {f : Int → Option Int} {s : Ck} (hI : CopyInv f s) {o : BOp} (hr : ∀ v ∈ reads o, readB s v = true) : ∀ v ∈ reads (copyOp f o), readB s v = true := by
  intro v hv
  rcases mem_reads.1 hv with ⟨h1, h2⟩ | ⟨h1, h2, _⟩
  · have h1 : hasA o.code = true := h1
    rw [h2]
    rcases origS_cases f (memI o.a (reads o) && o.code != 20) o.a with e | ⟨_, e2⟩
    · show readB s (origS f (memI o.a (reads o) && o.code != 20) o.a) = true
      rw [e]; exact hr _ (mem_reads.2 (.inl ⟨h1, rfl⟩))
    · exact (hI _ _ e2).2
  · have h1 : hasB o.code = true := h1
    rw [h2]
    rcases origS_cases f (twoB o.code) o.b with e | ⟨_, e2⟩
    · show readB s (origS f (twoB o.code) o.b) = true
      rw [e]; exact hr _ (reads_b h1)
    · exact (hI _ _ e2).2
theorem copyOp_mark (f : Int → Option Int) {o : BOp} (h : o.code = 20) : copyOp f o = o := by
  have h1 : (memI o.a (reads o) && o.code != 20) = false := by rw [h]; simp
  have h2 : twoB o.code = false := by rw [h]; rfl
  unfold copyOp
  rw [h1, h2]
  unfold origS
  rfl
theorem copy_follows : ∀ (l : List BOp) (f : Int → Option Int) {s s1 : Ck}, ckRun s l = some s1 → (copyRun f l).isEmpty = l.isEmpty
  | [], _, _, _, _ => rfl
  | o :: l, f, s, s1, h => by
    obtain ⟨s2, h1, h2⟩ := ck_uncons h
    unfold copyRun
    split
    · rename_i hk
      rw [copy_follows l _ h2]
      cases l with
      | nil =>
        have he := (placed_parts.1 (ck_step h1).2.1).1
        unfold copySkip at hk
        simp only [Bool.and_eq_true, beq_iff_eq] at hk
        have : o.code = 2 := hk.1
        rw [this] at he; cases he
      | cons _ _ => rfl
    · rfl
theorem copy_exit {l : List BOp} (f : Int → Option Int) (h : exitNext l = true) : exitNext (copyRun f l) = true := by
  cases l with
  | nil => cases h
  | cons o l =>
    have hc : o.code = 24 := by simpa [exitNext] using h
    unfold copyRun
    rw [if_neg (by unfold copySkip; show ¬ (o.code == 2 && _) = true; rw [hc]; simp)]
    show (o.code == 24) = true
    rw [hc]; rfl
theorem copyUpd_inv {f : Int → Option Int} {s : Ck} (hI : CopyInv f s) {p : BOp} (hf : formedB p = true) (hr : ∀ v ∈ reads p, readB s v = true) : CopyInv (copyUpd f p) (ckAfter s p) := by
  have hup : ∀ w, readB s w = true → readB (ckAfter s p) w = true := fun w hw => by rw [readB_after, hw]; rfl
  have hkill : ∀ v w, copyKill f (writes p) v = some w → (0 ≤ w ∧ w < 28 ∧ w ≠ 19) ∧ readB (ckAfter s p) w = true := fun v w hv => by
    obtain ⟨h1, _⟩ := Option.filter_eq_some_iff.1 hv
    unfold mdel at h1
    split at h1
    · cases h1
    · exact ⟨(hI _ _ h1).1, hup _ (hI _ _ h1).2⟩
  intro v w hv
  unfold copyUpd at hv
  split at hv
  · exact ⟨(hI _ _ hv).1, hup _ (hI _ _ hv).2⟩
  split at hv
  · rename_i hc
    have hc : p.code = 2 := by simpa using hc
    unfold mput at hv
    split at hv
    · injection hv with hv; subst hv
      refine ⟨?_, hup _ (hr _ (mem_reads.2 (.inl ⟨by rw [hc]; rfl, rfl⟩)))⟩
      have h3 := (formed_split.1 hf).2.2.1
      rw [hc] at h3
      unfold fieldB at h3
      rw [if_pos (show hasA 2 = true from rfl), decide_eq_true_eq] at h3
      exact h3
    · exact hkill v w hv
  · exact hkill v w hv
theorem copy_ck : ∀ (l : List BOp) (f : Int → Option Int) {s s' s1 : Ck}, CkSim s s' → CopyInv f s' → ckRun s l = some s1 → ∃ s2, ckRun s' (copyRun f l) = some s2 ∧ s2.marks = s1.marks
  | [], f, s, s', s1, hS, hI, h => by
    injection h with h; subst h; exact ⟨s', rfl, hS.marks⟩
  | o :: l, f, s, s', s1, hS, hI, h => by
    obtain ⟨s2, h1, h2⟩ := ck_uncons h
    obtain ⟨hf, hp, hm, ho⟩ := ck_step h1
    obtain ⟨p1, p2, p3⟩ := placed_parts.1 hp
    have hpl : ∀ (p : BOp) (g : Int → Option Int), p.code = o.code → placedB s' p (copyRun g l).isEmpty (exitNext (copyRun g l)) = true := fun p g hc =>
      placed_parts.2 ⟨by rw [hc, copy_follows l g h2]; exact p1, fun e => copy_exit g (p2 (hc ▸ e)), fun e => by
        have := p3 (hc ▸ e)
        cases hc' : s'.changed
        · rfl
        · rw [hS.ch hc'] at this; cases this⟩
    unfold copyRun
    by_cases hc : o.code = 20
    · obtain ⟨e1, e2⟩ := hm hc
      have hw : writes o = -1 := by unfold writes; rw [hc]; rfl
      rw [copyOp_mark _ hc, if_neg (by unfold copySkip; rw [hc]; simp)]
      have hu : copyUpd (copyMark f o) o = copyMark f o := by unfold copyUpd; rw [if_pos (by rw [hw]; decide)]
      rw [hu]
      have hI' : CopyInv (copyMark f o) s2 := fun v w hv => by
        unfold copyMark at hv
        rw [if_pos (by simp [hc])] at hv
        obtain ⟨k1, k2⟩ := Option.filter_eq_some_iff.1 hv
        unfold fdel at k1
        split at k1
        · cases k1
        · refine ⟨(hI _ _ k1).1, ?_⟩
          unfold readB
          have : w < 20 := by simpa using k2
          simp [this]
      obtain ⟨s3, k1, k2⟩ := copy_ck l (copyMark f o) (ckSim_refl s2) hI' h2
      refine ⟨s3, ?_, k2⟩
      rw [ck_cons (ck_mark hf (hpl o _ rfl) hc (by rw [hS.marks]; exact e1)), hS.marks, ← e2]
      exact k1
    · obtain ⟨hr, e2⟩ := ho hc
      have e2 : s2 = ckAfter s o := e2
      have hr' : ∀ v ∈ reads o, readB s' v = true := fun v hv => hS.known v (hr v hv)
      rw [copyMark_not f hc]
      have hfp := copyOp_formed hI hf
      have hrp := copyOp_reads hI hr'
      have hwp : writes (copyOp f o) = writes o := rfl
      by_cases hk : copySkip (copyOp f o) = true
      · rw [if_pos hk]
        refine copy_ck l f (s' := s') ⟨by rw [e2]; exact hS.marks, fun v hv => ?_, fun hc' => by rw [e2]; show (s.changed || _) = true; rw [hS.ch hc']; rfl⟩ hI h2
        rw [e2, readB_after, Bool.or_eq_true, decide_eq_true_eq] at hv
        rcases hv with hv | ⟨_, hv⟩
        · exact hS.known v hv
        · unfold copySkip at hk
          simp only [Bool.and_eq_true, beq_iff_eq] at hk
          have hc2 : o.code = 2 := hk.1
          have hwd : writes o = o.d := by unfold writes; rw [hc2]; rfl
          have : v = (copyOp f o).a := by rw [← hk.2, ← hv, hwd]; rfl
          rw [this]
          exact hrp _ (mem_reads.2 (.inl ⟨by show hasA o.code = true; rw [hc2]; rfl, rfl⟩))
      · rw [if_neg hk]
        have hst : ckNext s' (copyOp f o) (copyRun (copyUpd f (copyOp f o)) l).isEmpty (exitNext (copyRun (copyUpd f (copyOp f o)) l)) = some (ckAfter s' (copyOp f o)) := ck_op hfp (hpl _ _ rfl) hc hrp
        rw [ck_cons hst]
        refine copy_ck l _ ⟨by rw [e2]; exact hS.marks, fun v hv => ?_, fun hc' => ?_⟩ (copyUpd_inv hI hfp hrp) h2
        · rw [e2, readB_after] at hv
          rw [readB_after, hwp]
          rw [Bool.or_eq_true] at hv ⊢
          rcases hv with hv | hv
          · exact .inl (hS.known v hv)
          · exact .inr hv
        · rw [e2]
          have hc' : (s'.changed || (stores o.code || decide (0 ≤ writes o ∧ writes o < 20))) = true := hc'
          show (s.changed || (stores o.code || decide (0 ≤ writes o ∧ writes o < 20))) = true
          rw [Bool.or_eq_true] at hc' ⊢
          rcases hc' with h | h
          · exact .inl (hS.ch h)
          · exact .inr h
theorem copy_valid {b : Blk} (hv : validB b = true) : validB (copyP b) = true := by
  unfold copyP copyAll
  rw [if_pos hv]
  obtain ⟨_, s, h2, _⟩ := valid_parts.1 hv
  refine valid_of hv (fun hb => ?_) (copyRun_length _ _) (fun o r hb hc => ?_) (fun s1 h => copy_ck b.ops noneF (ckSim_refl _) (fun v w h => by cases h) h)
  · intro he
    have := copy_follows b.ops noneF h2
    rw [he] at this
    exact hb (ck_empty this.symm)
  · rw [hb]
    unfold copyRun
    rw [copyOp_mark _ hc, if_neg (by unfold copySkip; rw [hc]; simp)]
    exact ⟨o, rfl, hc⟩

/-! Dead. -/
def rD (l : List BOp) : List BOp := (deadRun l.reverse).out.reverse
def mD (l : List BOp) : Nat := (deadRun l.reverse).live
theorem rD_cons (o : BOp) (l : List BOp) : rD (o :: l) = if deadB o (mD l) = true then rD l else o :: rD l := by
  unfold rD mD
  rw [List.reverse_cons, deadRun_snoc]
  unfold deadStep
  split <;> simp
theorem mD_cons (o : BOp) (l : List BOp) : mD (o :: l) = if deadB o (mD l) = true then mD l else beforeM o (mD l) := by
  unfold mD
  rw [List.reverse_cons, deadRun_snoc]
  unfold deadStep
  split <;> simp
theorem mD_is : ∀ (l : List BOp), (∀ o ∈ l, formedB o = true) → MaskIs (mD l) (rD l)
  | [], _ => mask_nil
  | o :: l, h => by
    have ih := mD_is l fun p hp => h p (by simp [hp])
    rw [mD_cons, rD_cons]
    split
    · exact ih
    · exact mask_cons (h o (by simp)) ih
theorem dead_not {o : BOp} (hf : formedB o = true) {l : List BOp} (hl : ∀ p ∈ l, formedB p = true) (hd : deadB o (mD l) = true) : pureB o = true ∧ writes o = o.d ∧ liveAtL (rD l) o.d = false := by
  unfold deadB at hd
  simp only [Bool.and_eq_true, Bool.not_eq_true'] at hd
  obtain ⟨d0, d1⟩ := pure_formed_d hf hd.1
  refine ⟨hd.1, ?_, ?_⟩
  · have := hd.1
    unfold pureB writes at this
    unfold writes
    split at this
    · rename_i h; rw [if_pos h]
    · simp at this
  · have := mD_is l hl o.d.toNat (by omega)
    rw [hd.2, show ((o.d.toNat : Nat) : Int) = o.d by omega] at this
    exact this.symm
theorem dead_follows : ∀ (l : List BOp) {s s1 : Ck}, ckRun s l = some s1 → (rD l).isEmpty = l.isEmpty
  | [], _, _, _ => rfl
  | o :: l, s, s1, h => by
    obtain ⟨s2, h1, h2⟩ := ck_uncons h
    rw [rD_cons]
    split
    · rename_i hk
      rw [dead_follows l h2]
      cases l with
      | nil =>
        have he := (placed_parts.1 (ck_step h1).2.1).1
        unfold deadB at hk
        simp only [Bool.and_eq_true] at hk
        have := pure_code hk.1
        unfold endsB at he
        change decide _ = true at he
        rw [decide_eq_true_eq] at he
        omega
      | cons _ _ => rfl
    · rfl
theorem dead_exit {l : List BOp} (h : exitNext l = true) : exitNext (rD l) = true := by
  cases l with
  | nil => cases h
  | cons o l =>
    have hc : o.code = 24 := by simpa [exitNext] using h
    rw [rD_cons, if_neg (fun hk => by
      unfold deadB at hk
      simp only [Bool.and_eq_true] at hk
      have := pure_code hk.1
      omega)]
    show (o.code == 24) = true
    rw [hc]; rfl
structure DeadSim (s s' : Ck) (r : List BOp) : Prop where
  marks : s'.marks = s.marks
  known : ∀ v, liveAtL r v = true → readB s v = true → readB s' v = true
  ch : s'.changed = true → s.changed = true
theorem dead_ck : ∀ (l : List BOp) {s s' s1 : Ck}, DeadSim s s' (rD l) → ckRun s l = some s1 → ∃ s2, ckRun s' (rD l) = some s2 ∧ s2.marks = s1.marks
  | [], s, s', s1, hS, h => by
    injection h with h; subst h; exact ⟨s', rfl, hS.marks⟩
  | o :: l, s, s', s1, hS, h => by
    obtain ⟨s2, h1, h2⟩ := ck_uncons h
    obtain ⟨hf, hp, hm, ho⟩ := ck_step h1
    have hfl := run_formed h2
    obtain ⟨p1, p2, p3⟩ := placed_parts.1 hp
    rw [rD_cons] at hS ⊢
    by_cases hd : deadB o (mD l) = true
    · rw [if_pos hd] at hS ⊢
      obtain ⟨d1, d2, d3⟩ := dead_not hf hfl hd
      have hc := pure_code d1
      obtain ⟨hr, e2⟩ := ho (by omega)
      have e2 : s2 = ckAfter s o := e2
      refine dead_ck l (s' := s') ⟨by rw [e2]; exact hS.marks, fun v hl hv => ?_, fun hc' => by rw [e2]; show (s.changed || _) = true; rw [hS.ch hc']; rfl⟩ h2
      rw [e2, readB_after, Bool.or_eq_true, decide_eq_true_eq] at hv
      rcases hv with hv | ⟨_, hv⟩
      · exact hS.known v hl hv
      · rw [← hv, d2, d3] at hl; cases hl
    · rw [if_neg hd] at hS ⊢
      have hpl : placedB s' o (rD l).isEmpty (exitNext (rD l)) = true :=
        placed_parts.2 ⟨by rw [dead_follows l h2]; exact p1, fun e => dead_exit (p2 e), fun e => by
          have := p3 e
          cases hc' : s'.changed
          · rfl
          · rw [hS.ch hc'] at this; cases this⟩
      by_cases hc : o.code = 20
      · obtain ⟨e1, e2⟩ := hm hc
        rw [ck_cons (ck_mark hf hpl hc (by rw [hS.marks]; exact e1)), hS.marks, ← e2]
        exact dead_ck l ⟨rfl, fun _ _ h => h, fun h => h⟩ h2
      · obtain ⟨hr, e2⟩ := ho hc
        have e2 : s2 = ckAfter s o := e2
        have hrp : ∀ v ∈ reads o, readB s' v = true := fun v hv => hS.known v (by
          rw [liveAtL_cons]
          have : memI v (reads o) = true := by unfold memI; rw [List.any_eq_true]; exact ⟨v, hv, by simp⟩
          rw [this]; rfl) (hr v hv)
        have hst : ckNext s' o (rD l).isEmpty (exitNext (rD l)) = some (ckAfter s' o) := ck_op hf hpl hc hrp
        rw [ck_cons hst]
        refine dead_ck l ⟨by rw [e2]; exact hS.marks, fun v hl hv => ?_, fun hc' => ?_⟩ h2
        · rw [e2, readB_after] at hv
          rw [readB_after]
          rw [Bool.or_eq_true, decide_eq_true_eq] at hv ⊢
          by_cases hw : 20 ≤ v ∧ writes o = v
          · exact .inr hw
          · rcases hv with hv | hv
            · left
              by_cases h20 : v < 20
              · unfold readB; simp [h20]
              · refine hS.known v ?_ hv
                rw [liveAtL_cons, hl]
                have : (writes o == v) = false := by rw [beq_eq_false_iff_ne]; intro e; exact hw ⟨by omega, e⟩
                rw [this]; simp
            · exact absurd hv hw
        · rw [e2]
          have hc' : (s'.changed || (stores o.code || decide (0 ≤ writes o ∧ writes o < 20))) = true := hc'
          show (s.changed || (stores o.code || decide (0 ≤ writes o ∧ writes o < 20))) = true
          rw [Bool.or_eq_true] at hc' ⊢
          rcases hc' with h | h
          · exact .inl (hS.ch h)
          · exact .inr h
theorem dead_valid {b : Blk} (hv : validB b = true) : validB (deadP b) = true := by
  unfold deadP deadAll
  rw [if_pos hv]
  obtain ⟨_, s, h2, _⟩ := valid_parts.1 hv
  show validB ⟨b.at_, b.pages, rD b.ops⟩ = true
  refine valid_of hv (fun hb => ?_) ?_ (fun o r hb hc => ?_) (fun s1 h => dead_ck b.ops ⟨rfl, fun _ _ h => h, fun h => h⟩ h)
  · intro he
    have := dead_follows b.ops h2
    rw [he] at this
    exact hb (ck_empty this.symm)
  · have := deadAll_length b
    unfold deadAll at this
    rw [if_pos hv] at this
    exact this
  · rw [hb, rD_cons, if_neg (fun hk => by
      unfold deadB at hk
      simp only [Bool.and_eq_true] at hk
      have := pure_code hk.1
      omega)]
    exact ⟨o, rfl, hc⟩

/-! The result of Opt. -/
theorem once_valid {b : Blk} (hv : validB b = true) : validB (onceP b) = true := dead_valid (copy_valid (fold_valid hv))
theorem optN_keeps {mu : Blk → Nat} (hmu : ∀ b, b.ok → (onceP b).ops ≠ b.ops → mu (onceP b) < mu b) : ∀ (n : Nat) {b : Blk}, b.ok → validB b = true → mu b ≤ n → validB (optN n b) = true ∧ (optN n b).ok ∧ (optN n b).at_ = b.at_ ∧ (optN n b).pages = b.pages ∧ (onceP (optN n b)).ops = (optN n b).ops ∧ (optN n b).ops.length ≤ b.ops.length
  | 0, b, hb, hv, hn => by
    have e : optN 0 b = b := rfl
    rw [e]
    refine ⟨hv, hb, rfl, rfl, ?_, Nat.le_refl _⟩
    by_cases h : (onceP b).ops = b.ops
    · exact h
    · have := hmu b hb h; omega
  | n + 1, b, hb, hv, hn => by
    by_cases h : (onceP b).ops = b.ops
    · have e : optN (n + 1) b = b := optN_same h _
      rw [e]; exact ⟨hv, hb, rfl, rfl, h, Nat.le_refl _⟩
    · have hm := hmu b hb h
      have e : optN (n + 1) b = optN n (onceP b) := if_neg h
      rw [e]
      obtain ⟨h1, h2, h3, h4, h5, h6⟩ := optN_keeps hmu n (onceP_ok hb) (once_valid hv) (by omega)
      refine ⟨h1, h2, h3, h4, h5, Nat.le_trans h6 ?_⟩
      exact Nat.le_trans (deadAll_length _) (Nat.le_trans (copyAll_length _) (foldAll_length b))
theorem once_parts {b : Blk} (hb : b.ok) (h : (onceP b).ops = b.ops) : foldAll b = b.ops ∧ copyAll b = b.ops ∧ deadAll b = b.ops := by
  have h1 := fold_mu hb
  have h2 := copy_mu (foldP_ok hb)
  have h3 := dead_mu (copyP_ok (foldP_ok hb))
  have e2 : (foldP b).ops = foldAll b := rfl
  have e3 : (copyP (foldP b)).ops = copyAll (foldP b) := rfl
  have e4 : (onceP b).ops = deadAll (copyP (foldP b)) := rfl
  rw [e2] at h2
  rw [e3] at h3
  rw [e4] at h
  rw [h] at h3
  have k1 : muO b.ops ≤ muO (copyAll (foldP b)) := by
    rcases h3 with h3 | h3
    · rw [h3]; exact Nat.le_refl _
    · omega
  have k2 : muO (copyAll (foldP b)) ≤ muO (foldAll b) := by
    rcases h2 with h2 | h2
    · rw [h2]; exact Nat.le_refl _
    · omega
  have f1 : foldAll b = b.ops := by
    rcases h1 with h1 | h1
    · exact h1
    · omega
  have f0 : foldP b = b := by unfold foldP; rw [f1]
  rw [f0] at h2 h3 k1
  have f2 : copyAll b = b.ops := by
    rcases h2 with h2 | h2
    · rw [h2, f1]
    · rw [f1] at h2; omega
  have f3 : copyP b = b := by unfold copyP; rw [f2]
  rw [f0, f3] at h
  exact ⟨f1, f2, h⟩
def optB (mu : Blk → Nat) (b : Blk) : Blk := ⟨b.at_, b.pages, optAll mu b⟩
/-- What Opt leaves: valid, and none of the passes changes it. -/
theorem opt_fixed {mu : Blk → Nat} (hmu : ∀ b, b.ok → (onceP b).ops ≠ b.ops → mu (onceP b) < mu b) {b : Blk} (hb : b.ok) (hv : validB b = true) : validB (optB mu b) = true ∧ (optB mu b).ok ∧ foldAll (optB mu b) = optAll mu b ∧ copyAll (optB mu b) = optAll mu b ∧ deadAll (optB mu b) = optAll mu b ∧ optAll mu (optB mu b) = optAll mu b ∧ (optAll mu b).length ≤ b.ops.length := by
  obtain ⟨h1, h2, h3, h4, h5, h6⟩ := optN_keeps hmu (mu b) hb hv (Nat.le_refl _)
  have e : optB mu b = optN (mu b) b := by
    unfold optB optAll
    rw [if_pos hv, ← h3, ← h4]
  have eo : optAll mu b = (optN (mu b) b).ops := by unfold optAll; rw [if_pos hv]
  rw [e, eo]
  obtain ⟨k1, k2, k3⟩ := once_parts h2 h5
  refine ⟨h1, h2, k1, k2, k3, ?_, h6⟩
  unfold optAll
  rw [if_pos h1, optN_same h5]
end Go.Proofs.Ytmjfgnnefcimiaa
namespace Go.Proofs.Ytmjfgnnefcimiaa
open Go.RowKit

set_option maxRecDepth 100000 in
theorem sanity_true {mu : Blk → Nat} (hmu : ∀ b, b.ok → (onceP b).ops ≠ b.ops → mu (onceP b) < mu b) (w : World) : Calls Try.prog 14 #[] w fun e w' => e = .returned (.bool true) ∧ Below w.heap.size w w' := by
  refine calls_satq [] Try.func14 Try.ntmps14 rfl (by simp) ?_
  refine satq_seq ?_
  conv => whnf
  refine satq_seq ?_
  conv => whnf
  refine satq_seq ?_
  conv => whnf
  refine satq_seq ?_
  conv => whnf
  refine call_block 2 3 [opTwo, opThree, ⟨3, 3, 1, 2, 0⟩] rfl rfl (by decide) ?_
  conv => whnf
  refine call_passV fold_pass (by kernel_rfl) 3 4 blk1 rfl rfl blk1_ok rfl fold_nil ?_
  conv => whnf
  refine satq_seq ?_
  conv => whnf
  refine satq_seq ?_
  conv => whnf
  refine satq_seq ?_
  conv => whnf
  refine call_block 9 3 [⟨2, 20, 1, 0, 0⟩, ⟨3, 2, 20, 20, 0⟩, ⟨2, 3, 20, 0, 0⟩] rfl rfl (by decide) ?_
  conv => whnf
  refine call_passV (opt_pass hmu) (by kernel_rfl) 10 11 blk2 rfl rfl blk2_ok rfl (fun h => by cases h) ?_
  conv => whnf
  refine satq_seq ?_
  conv => whnf
  refine call_block 14 2 [⟨3, 2, 1, 1, 0⟩, ⟨2, 3, 1, 0, 0⟩] rfl rfl (by decide) ?_
  conv => whnf
  refine satq_ent (f' := [(1, .p (.c (.ref 0 0))), (2, .p (.c (.ref 1 0))), (3, .p (.c (.ref 2 0))), (6, .p (.c (.ref 5 0))), (7, .p (.c (.ref 8 0)))])
    (S' := [.cells 53 ((opC opTwo).map .v), .cells 53 ((opC opThree).map .v), .cells 32 [.row 3, .v (.slice none 0 0), .row 4], .view viewT 1 [.int .u32 0], .view viewT (foldAll blk1).length ((foldAll blk1).flatMap opC),
      .cells 32 [.row 6, .v (.slice none 0 0), .row 7], .view viewT 1 [.int .u32 0], .view viewT (optAll mu blk2).length ((optAll mu blk2).flatMap opC), .cells 32 [.row 9, .v (.slice none 0 0), .row 10], .view viewT 1 [.int .u32 0], .view viewT blkW.length (blkW.flatMap opC)])
    (ent_ren [0, 1, 6, 3, 5, 13, 10, 12, 17, 15, 16] (aI rfl (aI rfl (aI rfl (aI rfl (aI rfl trivial))))) (aI ((Exists.intro _ (aI rfl (aI rfl (Or.inl rfl))))) (aI ((Exists.intro _ (aI rfl (aI rfl (Or.inl rfl))))) (aI ((Exists.intro _ (aI rfl (aI rfl (Or.inl rfl))))) (aI ((Exists.intro _ (aI rfl (aI rfl (aI rfl rfl))))) (aI ((Exists.intro _ (aI rfl (aI rfl (aI rfl rfl))))) (aI ((Exists.intro _ (aI rfl (aI rfl (Or.inl rfl))))) (aI ((Exists.intro _ (aI rfl (aI rfl (aI rfl rfl))))) (aI ((Exists.intro _ (aI rfl (aI rfl (aI rfl rfl))))) (aI ((Exists.intro _ (aI rfl (aI rfl (Or.inl rfl))))) (aI ((Exists.intro _ (aI rfl (aI rfl (aI rfl rfl))))) (aI ((Exists.intro _ (aI rfl (aI rfl (aI rfl rfl))))) trivial))))))))))) rfl rfl rfl rfl rfl) ?_
  refine satq_restart fun r w1 hR => ?_
  obtain ⟨g1, us1, b1, d1, k1⟩ := own_cellsAt hR 0 rfl
  obtain rfl := denL_vals_inv d1
  obtain ⟨g2, us2, b2, d2, k2⟩ := own_cellsAt hR 1 rfl
  obtain rfl := denL_vals_inv d2
  obtain ⟨g3, A1, c1, A3, c3, b3, k3, s1, s3, m1, m2⟩ := own_blkAt hR 2 3 4 (l := foldAll blk1) rfl rfl rfl
  obtain ⟨g6, B1, e1, B3, e3, b6, k6, t1, t3, n1, n2⟩ := own_blkAt hR 5 6 7 (l := optAll mu blk2) rfl rfl rfl
  obtain ⟨g7, C1, f1, C3, f3, b7, k7, v1, v3, o1, o2⟩ := own_blkAt hR 8 9 10 (l := blkW) rfl rfl rfl
  have hB0 := hR.toBelow
  refine ⟨slotFr [(1, .pointer (some ⟨g1, 0, none⟩)), (2, .pointer (some ⟨g2, 0, none⟩)), (3, .pointer (some ⟨g3, 0, none⟩)), (6, .pointer (some ⟨g6, 0, none⟩)), (7, .pointer (some ⟨g7, 0, none⟩))], fun a hf => slots_den ⟨slot_ref hf 1 rfl b1, slot_ref hf 2 rfl b2, slot_ref hf 3 rfl b3, slot_ref hf 6 rfl b6, slot_ref hf 7 rfl b7, trivial⟩, ?_⟩
  clear hR b1 b2 b3 b6 b7
  refine satq_vc ?_
  conv => whnf
  refine sat_mix [true, true, true, true, false, false, false, true, true, true, false, true, true, true, false, false, true, true, true] mixed (by kernel_rfl) (by kernel_rfl) ?_
  conv => whnf
  refine ⟨_, k3, rfl, ?_⟩
  conv => whnf
  refine ⟨_, k1, rfl, ?_⟩
  conv => whnf
  refine ⟨_, k2, rfl, ?_⟩
  conv => whnf
  refine call_block 0 3 [opTwo, opThree, ⟨1, 3, 0, 0, 5⟩] rfl rfl (by decide) ?_
  conv => whnf
  refine call_sameV 1 2 s1 s3 (by rw [blk1_fold]; decide) rfl rfl blk1_fold ?_
  conv => whnf
  refine ⟨_, k6, rfl, ?_⟩
  conv => whnf
  refine ⟨_, k7, rfl, ?_⟩
  conv => whnf
  refine call_same_plain t1 t3 v1 v3 (by rw [opt_blk2 hmu]; decide) (opt_blk2 hmu) ?_
  conv => whnf
  refine ⟨_, k7, rfl, ?_⟩
  conv => whnf
  refine call_live ⟨[0], [], blkW⟩ rfl rfl rfl blkW_ok (by intro j u hj; simp at hj) v3 ?_
  conv => whnf
  rw [blkW_live]
  conv => whnf
  refine atq_ret ?_
  conv => whnf
  exact fin_val rfl fun w' hB => ⟨rfl, hB0.trans (hB.mono hB0.size)⟩
end Go.Proofs.Ytmjfgnnefcimiaa
