/- Maps with integer keys that the call makes: block b holds the map that reads as the plain function f. -/
import Derived.ProofKit
import Derived.OpenShut
import Derived.ShutString
import Derived.ChangeOld
import Derived.Below
import Derived.Lib.SmallJoins
import Derived.Deep.Strs
import Derived.Test.YtnhdcclpjildjaaGreatK16
namespace Go.Proofs.YtnhdcclpjildjaaGreat
open Go.RowKit
open Go.Maps (Keyed)

theorem wf_mid {x : Int} (h : mid x) : (Lit.int .i64 x).wf = true := WalkArith.wf_i64 (by unfold mid at h; omega)
section
variable {R : Value → Option (DataW Unit × List MemPlace)} {mk : Int → Value} {cd : Int → DataW Unit} {good : Int → Prop} {w w' : World} {b n : Nat} {f : Int → Option Int}

theorem IMap.look (h : IMap R cd w b n f) (E : Elems R mk cd good) {t e : TypeId} (ht : Tryz.prog.underlying t = some (.map 3 e)) {z : Value} {_x0 : Int} (hz : (zeroValue e).run Tryz.prog w = .ok z w) {zd : DataW Unit} (hzd : R z = some (zd, [])) (hzi : ∀ v ps, R v = some (zd, ps) → v = z) {k : Int} (hk : (Lit.int .i64 k).wf = true) :
  (Instr.lookup t (.map (some b)) (.int .i64 k) true).run Tryz.prog w = .ok (.tuple #[((f k).map mk).getD z, .bool (f k).isSome]) w := by
 obtain ⟨D, h, hf⟩ := h
 obtain ⟨v, ps, hr, hv⟩ := h.look_ok law_int ht hz hzd (key_int hk)
 obtain ⟨h1, h2⟩ := hf k hk
 rw [hr, h1]
 rw [h2 zd] at hv
 cases hfk : f k with
 | none =>
  rw [hfk] at hv
  have := hzi v ps hv
  subst this
  rfl
 | some x =>
  rw [hfk] at hv
  have := E.from_ v x ps hv
  subst this
  rfl
end
end Go.Proofs.YtnhdcclpjildjaaGreat
namespace Go.Proofs.YtnhdcclpjildjaaGreat
open Go.RowKit

theorem i64Elems : Elems i64R (.int .i64) i64D mid where
 to x hx := plainElem_int Tryz.underlying3 (wf_mid hx)
 from_ v x ps h := by
  obtain ⟨c, rfl, hc, _⟩ := plainElem_int_inv Tryz.underlying3 h
  have h1 : (DataW.lit (Lit.int .i64 x) : DataW Unit) = .lit (.int .i64 c) := congrArg Prod.fst hc
  have h2 := DataW.lit.inj h1
  have h3 := (Lit.int.inj h2).2
  rw [h3]
theorem zero_i64 (w : World) : (zeroValue 3).run Tryz.prog w = .ok (.int .i64 0) w := by simp [go_sem]
theorem look_i64 {w : World} {b n : Nat} {f : Int → Option Int} (h : IMap i64R i64D w b n f) {k : Int} (hk : (Lit.int .i64 k).wf = true) :
  (Instr.lookup 176 (.map (some b)) (.int .i64 k) true).run Tryz.prog w = .ok (.tuple #[.int .i64 ((f k).getD 0), .bool (f k).isSome]) w := by
 have := h.look i64Elems Tryz.underlying176 (_x0 := 0) (zero_i64 w) (zd := i64D 0) (plainElem_int Tryz.underlying3 (by decide)) (fun v ps hv => i64Elems.from_ v 0 ps hv) hk
 rw [this]
 cases f k <;> rfl
end Go.Proofs.YtnhdcclpjildjaaGreat
namespace Go.Proofs.YtnhdcclpjildjaaGreat
open Go.RowKit

theorem denL_append {r : Env} : ∀ {l m : List CV} {us vs : List Value}, denL r l us → denL r m vs → denL r (l ++ m) (us ++ vs)
 | [], m, us, vs, hd, h => by simp only [denL] at hd; subst hd; simpa using h
 | a :: l, m, us, vs, hd, h => by
  simp only [denL] at hd; obtain ⟨u, l', hu, hc, hl⟩ := hd; subst hu
  simp only [List.cons_append, denL]; exact ⟨u, _, rfl, hc, denL_append hl h⟩
/-! Frames: the slots of which something is known, the latest first. -/
/-! What the call owns. -/
section
variable {w0 : World} {G : Gs} {S : List Ow} {r : Env} {w : World}
end
end Go.Proofs.YtnhdcclpjildjaaGreat
namespace Go.Proofs.YtnhdcclpjildjaaGreat
open Go.RowKit

theorem inc_ext : ∀ {l m : List Int}, Inc l → Inc m → (∀ x, x ∈ l ↔ x ∈ m) → l = m
 | [], [], _, _, _ => rfl
 | [], y :: m, _, _, h => by have := (h y).2 (by simp); cases this
 | x :: l, [], _, _, h => by have := (h x).1 (by simp); cases this
 | x :: l, y :: m, hl, hm, h => by
  unfold Inc at hl hm
  rw [List.pairwise_cons] at hl hm
  have hxy : x = y := by
   have h1 := (h x).1 (by simp)
   have h2 := (h y).2 (by simp)
   rcases List.mem_cons.1 h1 with h1 | h1
   ·exact h1
   ·rcases List.mem_cons.1 h2 with h2 | h2
    ·exact h2.symm
    ·have a := hm.1 x h1
     have b := hl.1 y h2
     omega
  subst hxy
  congr 1
  refine inc_ext hl.2 hm.2 fun z => ⟨fun hz => ?_, fun hz => ?_⟩
  ·rcases List.mem_cons.1 ((h z).1 (List.mem_cons_of_mem _ hz)) with rfl | h1
   ·have := hl.1 z hz; omega
   ·exact h1
  ·rcases List.mem_cons.1 ((h z).2 (List.mem_cons_of_mem _ hz)) with rfl | h1
   ·have := hm.1 z hz; omega
   ·exact h1
theorem mem_addPage {l : List Int} {a x : Int} : x ∈ addPage l a ↔ x ∈ l ∨ (x = pageOf a ∧ pageOf a < 4096) := by
 unfold addPage
 split
 ·rename_i h; rw [mem_putP]; constructor
  ·rintro (h1 | h1)
   ·exact .inr ⟨h1, h⟩
   ·exact .inl h1
  ·rintro (h1 | h1)
   ·exact .inr h1
   ·exact .inl h1.1
 ·rename_i h; constructor
  ·exact .inl
  ·rintro (h1 | h1)
   ·exact h1
   ·exact absurd h1.2 h
theorem liftPages_is {pc : Int} {m : Nat} {l : List Int} (hi : Inc l) (h : ∀ x, x ∈ l ↔ x ∈ liftPages pc m) : l = liftPages pc m := inc_ext hi (liftPages_in pc m).inc h
end Go.Proofs.YtnhdcclpjildjaaGreat
namespace Go.Proofs.YtnhdcclpjildjaaGreat
open Go.RowKit

section
variable {P : Program} {ops : Array Oper} {md : Region.Mode} {C : World → Prop}
end
/-! The same over states that are known part by part. -/
section
variable {P : Program} {w0 : World} {G : Gs} {N : Nd} {ops : Array Oper} {S : List Ow} {r : Env} {w1 : World}
end
section
variable {P : Program} {w0 : World} {G : Gs} {fid : FuncId} {args : List AV} {S : List Ow} {K : AV → Prop} {xs : List Value} {x : Value}
end
theorem den_row {r : Env} {i : Nat} {u : Value} (h : AV.den r (.p (.c (.row i))) u) : r.val i = some u := by simpa only [AV.den, Pc.den, CV.den] using h
end Go.Proofs.YtnhdcclpjildjaaGreat
namespace Go.Proofs.YtnhdcclpjildjaaGreat
open Go.RowKit

abbrev mapOw (R : Value → Option (DataW Unit × List MemPlace)) (cd : Int → DataW Unit) (n : Nat) (f : Int → Option Int) : Ow := .ext fun b w => IMap R cd w b n f
section
variable {R : Value → Option (DataW Unit × List MemPlace)} {mk : Int → Value} {cd : Int → DataW Unit} {good : Int → Prop} {n : Nat} {m : Int → Option Int}
variable {w0 : World} {G : Gs} {N : Nd} {o : Oper} {f : Fr} {S : List Ow} {K : Fr → List Ow → Prop}
theorem imap_holds {r : Env} {w : World} {i b : Nat} (hb : r.blk i = some b) (h : IMap R cd w b n m) : (mapOw R cd n m).holds r w i := ⟨b, hb, h, fun _w' hw => h.block hw⟩
theorem op_makeMap {t : TypeId} (hop : o.op = .makeMap t none) (hdst : dstOk N.n o.dst = true) (hk : K (f.put o.dst (.p (.c (.mp S.length)))) (S ++ [mapOw R cd 0 fun _ => none])) : OpS Tryz.prog w0 G N o f S K := by
 refine ⟨fun r a w hR hf hN hd next Q hK => ?_⟩
 have hrun : (execOp a.eval o).run Tryz.prog w = .ok (.value (.map (some w.heap.size))) (w.alloc (.map #[] 0)) := by
  simp [execOp, hop, Instr.makeMap]
 have hle := hR.le_new (some w.heap.size) none
 refine wp_of_value hrun (hK _ _ _ _ hk (good_value hR hf hN hd hdst (r' := r.set S.length (some w.heap.size) none) ?_ (hR.snoc ((Below.refl _ _).alloc (Nat.le_refl _) _) (fun x hx => by injection hx with hx; subst hx; simp) (imap_holds (by simp [Env.set]) (IMap.made w))) hle))
 simp only [AV.den, Pc.den, CV.den]
 exact ⟨w.heap.size, by simp [Env.set], rfl⟩
theorem Rel.lt_of_blk {S : List Ow} {r : Env} {w : World} (h : Rel w0 G S r w) {i b : Nat} (hb : r.blk i = some b) : i < S.length := by
 rcases Nat.lt_or_ge i S.length with h1 | h1
 ·exact h1
 ·rw [h.outB i h1] at hb; cases hb
theorem den_mp {r : Env} {i : Nat} {u : Value} (h : AV.den r (.p (.c (.mp i))) u) : ∃ b, r.blk i = some b ∧ u = .map (some b) := by simpa only [AV.den, Pc.den, CV.den] using h
end
section
variable {n : Nat} {m : Int → Option Int} {w0 : World} {G : Gs} {o : Oper} {f : Fr} {S : List Ow} {K : AV → Prop}
theorem q_look_i64 {mo x : Operand} (hop : o.op = .lookup 176 mo x true) (i : Nat) (k : Int) (hm : f.ev mo = .p (.c (.mp i))) (hi : S[i]? = some (mapOw i64R i64D n m)) (hx : f.ev x = one (.int .i64 k)) (hkw : (Lit.int .i64 k).wf = true)
  (hK : K (.tup [.c (.v (.int .i64 ((m k).getD 0))), .c (.v (.bool (m k).isSome))])) : QRun Tryz.prog w0 G S f o K := by
 refine ⟨_, hK, fun r a hf => ⟨.tuple #[.int .i64 ((m k).getD 0), .bool (m k).isSome], ⟨_, rfl, _, _, rfl, by simp [Pc.den, CV.den], _, _, rfl, by simp [Pc.den, CV.den], rfl⟩, fun w hR => ?_⟩⟩
 have h1 := hf.ev mo
 have h2 := hf.ev x
 rw [hm] at h1; rw [hx] at h2
 obtain ⟨b, hb, hu⟩ := den_mp h1
 obtain ⟨b', hb', hmap, _⟩ := hR.own i _ hi
 rw [hb] at hb'; injection hb' with hb'; subst hb'
 simp [execOp, hop, hu, den_v h2, look_i64 hmap hkw]
end
theorem cells_list {w0 : World} {G : Gs} {b off : Nat} {xs : List Value} (hb : b < w0.heap.size) (hG : b ∉ G) (h : ∀ j u, xs[j]? = some u → w0.cell? ⟨b, off + j, none⟩ = some u) : CellsAt w0 G b off xs := ⟨hb, hG, h⟩
section
variable {n b : Nat} {m : Int → Option Int} {w0 : World} {G : Gs} {o : Oper} {f : Fr} {S : List Ow} {K : AV → Prop}
end
end Go.Proofs.YtnhdcclpjildjaaGreat
namespace Go.Proofs.YtnhdcclpjildjaaGreat
open Go.RowKit

theorem wpListIn_split {P : Program} {ops : Array Oper} {Q : Exit → Act → World → Prop} {Q1 : Act → World → Prop} (ro : Option Nat) (n : Nat) : ∀ (k : Nat) {l : List Oper} {a : Act} {w : World}, seL P ops Q1 (l.take k) a w → (∀ a w, Q1 a w → wpListIn (fenceR ro) n P ops Q (l.drop k) a w) → wpListIn (fenceR ro) n P ops Q l a w
 | 0, l, a, w, h, h2 => by simpa using h2 a w h
 | k + 1, [], a, w, h, h2 => by simpa using h2 a w h
 | k + 1, o :: l, a, w, h, h2 => by
  simp only [List.take_succ_cons, List.drop_succ_cons] at h h2
  unfold seL at h
  unfold wpListIn
  split at h
  ·rename_i hw; rw [if_pos hw]; exact se_wpIn ro n h fun a w h => wpListIn_split ro n k h h2
  ·rename_i hw; rw [if_neg hw]; exact ⟨fun f _ => fenceR_fn ro f, wpListIn_split ro n k h h2⟩
def Slots (a : Act) : List (Nat × Value) → Prop
 | [] => True
 | (d, v) :: l => a.tmps.getD d undef = v ∧ Slots a l
def slotFr : List (Nat × Value) → Fr
 | [] => []
 | (d, v) :: l => (d, AV.of v) :: slotFr l
theorem slots_den {r : Env} {a : Act} : ∀ {l : List (Nat × Value)}, Slots a l → FDen r (slotFr l) a
 | [], _ => fun k => by simp [slotFr, Fr.get, AV.den, Pc.den, CV.den]
 | (d, v) :: l, h => fun k => by
  simp only [slotFr, Fr.get]
  split
  ·rename_i hk; have := Nat.eq_of_beq_eq_true hk; subst this
   rw [h.1]; exact AV.of_den r v
  ·exact slots_den h.2 k
end Go.Proofs.YtnhdcclpjildjaaGreat
namespace Go.Proofs.YtnhdcclpjildjaaGreat
open Go.RowKit

section
variable {P : Program} {w0 : World} {G : Gs} {N : Nat} {c d : Code} {f : Fr} {S : List Ow} {Q : Exit → Act → World → Prop} {fn : Func} {R : Ending → World → Prop}
theorem atq_then {N : Nd} {id : Nat} (h : SatQ P w0 G N d f S Q) : AtQ w0 G N .normal f S (Exit.inBlock id (Exit.then (d.wpIn Fence.wide 10 P Q) Q)) := ⟨fun a w hg => h.out a w hg⟩
end
end Go.Proofs.YtnhdcclpjildjaaGreat
namespace Go.Proofs.YtnhdcclpjildjaaGreat
open Go.RowKit

theorem rel_setSame {w0 : World} {G : Gs} {S : List Ow} {r : Env} {w : World} (h : Rel w0 G S r w) {i : Nat} {o : Ow} (ho : o.holds r w i) : Rel w0 G (S.set i o) r w := by
 refine ⟨h.os, h.tape, h.output, h.size, h.old, fun j o' hj => ?_, h.inj, h.new, fun j hj => h.outB j (by simpa using hj), fun j hj => h.outV j (by simpa using hj), h.first⟩
 rw [List.getElem?_set] at hj
 split at hj
 ·rename_i hij; subst hij
  split at hj
  ·injection hj with hj; subst hj; exact ho
  ·cases hj
 ·exact h.own j o' hj
section
variable {r : Env} {σ : Nat → Nat} {n : Nat}
end
end Go.Proofs.YtnhdcclpjildjaaGreat
namespace Go.Proofs.YtnhdcclpjildjaaGreat
open Go.RowKit

section
variable (P : Program) (W : World) (N : Nd) (ops : Array Oper)
end
section
variable {P : Program} {W : World} {N : Nd} {ops : Array Oper}
theorem satq_restart {w0 : World} {d : Code} {f : Fr} {S : List Ow} {Q : Exit → Act → World → Prop} (h : ∀ r w, Rel w0 Gs.nil S r w → ∃ f2, (∀ a, FDen r f a → FDen Env.none f2 a) ∧ SatQ P w Gs.nil N d f2 [] Q) : SatQ P w0 Gs.nil N d f S Q :=
 ⟨fun a w ⟨r, hR, hf, hN, hd⟩ => by
  obtain ⟨f2, h1, h2⟩ := h r w hR
  exact h2.out a w ⟨Env.none, rel_none w, h1 a hf, hN, hd⟩⟩
end
end Go.Proofs.YtnhdcclpjildjaaGreat
namespace Go.Proofs.YtnhdcclpjildjaaGreat
open Go.RowKit
def envOne (g : Nat) : Env := ⟨fun i => if i = 0 then some g else Option.none, fun _ => Option.none⟩
theorem envOne_blk {g i b : Nat} (h : (envOne g).blk i = some b) : i = 0 ∧ b = g := by
 simp only [envOne] at h
 split at h
 ·rename_i hi; injection h with h; exact ⟨hi, h.symm⟩
 ·cases h
theorem rel_own1 (w : World) {g : Nat} {t : TypeId} {us : List Value} (h : w.heap[g]? = some (.cells us.toArray t (0, 0))) : Rel w ⟨[g], []⟩ [.cells t (us.map .v)] (envOne g) w := by
 have hlt : g < w.heap.size := by
  rcases Nat.lt_or_ge g w.heap.size with h1 | h1
  ·exact h1
  ·rw [Array.getElem?_eq_none h1] at h; cases h
 refine ⟨rfl, rfl, rfl, Nat.le_refl _, fun k _ _ => rfl, fun i o ho => ?_, fun i j b hi hj => ?_, fun i b hb => ?_, fun i hi => ?_, fun i _ => rfl, fun i x hx => ?_⟩
 ·cases i with
  | zero => simp at ho; subst ho; exact ⟨g, us, rfl, h, denL_vals us⟩
  | succ i => simp at ho
 ·rw [(envOne_blk hi).1, (envOne_blk hj).1]
 ·rw [(envOne_blk hb).2]; exact ⟨hlt, fun _ => .inl (by simp)⟩
 ·show (if i = 0 then some g else Option.none) = Option.none
  have : ¬ i = 0 := by intro e; subst e; simp at hi
  rw [if_neg this]
 ·cases i with
  | zero => simp at hx; subst hx; rfl
  | succ i => simp at hx
theorem fin_own {w0 : World} {g : Nat} {S : List Ow} {t : TypeId} {us : List Value} {v : AV} {x : Value} {R : Ending → World → Prop} (hv : v.val = some x) (h0 : S[0]? = some (.cells t (us.map .v))) (h : ∀ w, w.heap[g]? = some (.cells us.toArray t (0, 0)) → w0.grownBy w (some g) → R (.returned x) w) : Fin w0 ⟨[g], []⟩ S v R := by
 refine ⟨fun r w u hR hd => ?_⟩
 obtain rfl := AV.val_den hv hd
 obtain ⟨b, us', e1, e2, e3⟩ := hR.own 0 _ h0
 have := hR.first 0 g rfl
 rw [this] at e1; injection e1 with e1; subst e1
 obtain rfl := denL_vals_inv e3
 exact h w e2 hR.grown
end Go.Proofs.YtnhdcclpjildjaaGreat
namespace Go.Proofs.YtnhdcclpjildjaaGreat
open Go.RowKit
section
variable {w0 : World} {G : Gs} {S : List Ow} {r : Env} {w : World}
end
theorem own_new {w' : World} {B : Nat} {e : TypeId} {size n : Nat} {v : Value} {ys : List Value} (hown : w'.ownsRow B e size v n ys) : ∀ x, v.ownBlock = some x → B ≤ x ∧ x < w'.heap.size := by
 intro x hx
 rcases hown.2 with ⟨h1, _⟩ | ⟨g, cap, cur, h1, hg, hh, _⟩
 ·rw [h1] at hx; cases hx
 ·rw [h1] at hx; simp [Value.ownBlock] at hx; subst hx
  refine ⟨hg, ?_⟩
  rcases Nat.lt_or_ge g w'.heap.size with h2 | h2
  ·exact h2
  ·rw [Array.getElem?_eq_none h2] at hh; cases hh
section
variable {P : Program} {w0 : World} {G : Gs} {N : Nat} {c d : Code} {f : Fr} {S : List Ow} {Q : Exit → Act → World → Prop} {fn : Func} {R : Ending → World → Prop}
theorem satq_cut {α : Type} {N : Nd} (T : α → Fr) (U : α → List Ow) (hc : vc none P w0 G N c f S fun e f S => match e with | .normal => ∃ y, Ent w0 G N f S (T y) (U y) | e => AtQ w0 G N e f S Q) (hd : ∀ y, SatQ P w0 G N d (T y) (U y) Q) : SatQ P w0 G N (.seq c d) f S Q :=
 ⟨fun a w hg => wpIn_seq (wpIn_mono ((vc_sound (ro := none) c f S _ hc).out 10 a w hg) fun e a' w' ⟨f', S', hk, hg'⟩ => by
  cases e with
  | normal => obtain ⟨y, hy⟩ := hk; exact (hd y).out a' w' (hy.out a' w' hg')
  | exit id => exact hk.out a' w' hg'
  | goto l => exact hk.out a' w' hg'
  | ret => exact hk.out a' w' hg'
  | panic ch => exact hk.out a' w' hg'
  | outgrown => exact hk.out a' w' hg')⟩
end
end Go.Proofs.YtnhdcclpjildjaaGreat
namespace Go.Proofs.YtnhdcclpjildjaaGreat
open Go.RowKit
section
variable {P : Program} {w0 : World} {G : Gs} {N : Nd} {c d : Code} {f : Fr} {S : List Ow} {Q : Exit → Act → World → Prop}
theorem atq_as {e : Exit} {f' : Fr} {S' : List Ow} (h : Ent w0 G N f S f' S') (k : AtQ w0 G N e f' S' Q) : AtQ w0 G N e f S Q := ⟨fun a w hg => k.out a w (h.out a w hg)⟩
end
def env3 (r : Env) (n : Nat) (v1 v2 v3 : Value) : Env := ⟨fun i => if i < n then r.blk i else if i = n then v1.ownBlock else if i = n + 1 then v2.ownBlock else if i = n + 2 then v3.ownBlock else Option.none, fun i => if i < n then r.val i else if i = n then some v1 else if i = n + 1 then some v2 else if i = n + 2 then some v3 else Option.none⟩
theorem env3_hi {r : Env} {n : Nat} {v1 v2 v3 : Value} {i x : Nat} (hi : n ≤ i) (h : (env3 r n v1 v2 v3).blk i = some x) : (i = n ∧ v1.ownBlock = some x) ∨ (i = n + 1 ∧ v2.ownBlock = some x) ∨ (i = n + 2 ∧ v3.ownBlock = some x) := by
 simp only [env3] at h
 rw [if_neg (by omega)] at h
 split at h
 ·exact .inl ⟨‹_›, h⟩
 ·split at h
  ·exact .inr (.inl ⟨‹_›, h⟩)
  ·split at h
   ·exact .inr (.inr ⟨‹_›, h⟩)
   ·cases h
abbrev blkRows (b : Blk) : List Ow := [.row 35 1 b.at_.length (b.at_.map (.int .u32)), .row 3 1 b.pages.length (b.pages.map (.int .i64)), .row 45 5 b.ops.length (b.ops.flatMap opC)]
theorem Rel.rows3 {w0 : World} {G : Gs} {S : List Ow} {r : Env} {w w' : World} (h : Rel w0 G S r w) (hb : Below w.heap.size w w') {v1 v2 v3 : Value} {b : Blk} (h3 : Rows3 w.heap.size w' v1 v2 v3 b) : Rel w0 G (S ++ blkRows b) (env3 r S.length v1 v2 v3) w' ∧ r.le (env3 r S.length v1 v2 v3) ∧ (env3 r S.length v1 v2 v3).val S.length = some v1 ∧ (env3 r S.length v1 v2 v3).val (S.length + 1) = some v2 ∧ (env3 r S.length v1 v2 v3).val (S.length + 2) = some v3 := by
 have hv1 : (env3 r S.length v1 v2 v3).val S.length = some v1 := by simp [env3]
 have hv2 : (env3 r S.length v1 v2 v3).val (S.length + 1) = some v2 := by simp only [env3]; rw [if_neg (by omega), if_neg (by omega), if_pos trivial]
 have hv3 : (env3 r S.length v1 v2 v3).val (S.length + 2) = some v3 := by simp only [env3]; rw [if_neg (by omega), if_neg (by omega), if_neg (by omega), if_pos trivial]
 have hb1 : (env3 r S.length v1 v2 v3).blk S.length = v1.ownBlock := by simp [env3]
 have hb2 : (env3 r S.length v1 v2 v3).blk (S.length + 1) = v2.ownBlock := by simp only [env3]; rw [if_neg (by omega), if_neg (by omega), if_pos trivial]
 have hb3 : (env3 r S.length v1 v2 v3).blk (S.length + 2) = v3.ownBlock := by simp only [env3]; rw [if_neg (by omega), if_neg (by omega), if_neg (by omega), if_pos trivial]
 have := h.snocs hb (blkRows b) (env3 r S.length v1 v2 v3) (fun i hi => by simp only [env3]; rw [if_pos hi, if_pos hi]; exact ⟨rfl, rfl⟩) (fun i x hi hx => ?_) (fun i j x hi hj hx hy => ?_) (fun i hi => ?_) (fun j o hj => ?_)
 ·exact ⟨this.1, this.2, hv1, hv2, hv3⟩
 ·rcases env3_hi hi hx with ⟨_, e⟩ | ⟨_, e⟩ | ⟨_, e⟩
  ·exact own_new h3.at_ x e
  ·exact own_new h3.pages x e
  ·exact own_new h3.ops x e
 ·rcases env3_hi hi hx with ⟨e1, e⟩ | ⟨e1, e⟩ | ⟨e1, e⟩ <;> rcases env3_hi hj hy with ⟨e2, e'⟩ | ⟨e2, e'⟩ | ⟨e2, e'⟩
  ·omega
  ·exact absurd e' (h3.d12 x e)
  ·exact absurd e' (h3.d13 x e)
  ·exact absurd e (h3.d12 x e')
  ·omega
  ·exact absurd e' (h3.d23 x e)
  ·exact absurd e (h3.d13 x e')
  ·exact absurd e (h3.d23 x e')
  ·omega
 ·simp only [List.length_cons, List.length_nil] at hi
  simp only [env3]
  rw [if_neg (by omega), if_neg (by omega), if_neg (by omega), if_neg (by omega), if_neg (by omega), if_neg (by omega), if_neg (by omega), if_neg (by omega)]
  exact ⟨rfl, rfl⟩
 ·rcases j with _ | _ | _ | j
  ·simp at hj; subst hj; exact ⟨v1, hv1, hb1.symm, own_base h3.at_ (Nat.zero_le _)⟩
  ·simp at hj; subst hj; exact ⟨v2, hv2, hb2.symm, own_base h3.pages (Nat.zero_le _)⟩
  ·simp at hj; subst hj; exact ⟨v3, hv3, hb3.symm, own_base h3.ops (Nat.zero_le _)⟩
  ·simp at hj
theorem call_blk {P : Program} {w0 : World} {G : Gs} {fid : FuncId} {args : List AV} {S : List Ow} {K : AV → List Ow → Prop} (post : Blk → Prop) (hok : fnOk P fid = true)
  (h : ∀ r w us, Rel w0 G S r w → avdenL r args us → Calls P fid us.toArray w fun en w' => ∃ b v1 v2 v3, post b ∧ en = .returned (.agg #[v1, v2, v3]) ∧ Rows3 w.heap.size w' v1 v2 v3 b ∧ Below w.heap.size w w')
  (hK : ∀ b, post b → K (.p (.agg [.row S.length, .row (S.length + 1), .row (S.length + 2)])) (S ++ blkRows b)) : CallS P w0 G fid args S K := by
 refine ⟨hok, fun r w us hR hd => ?_⟩
 refine (h r w us hR hd).mono fun en w' ⟨b, v1, v2, v3, hp, he, h3, hB⟩ => ?_
 obtain ⟨k1, k2, k3, k4, k5⟩ := hR.rows3 hB h3
 refine ⟨.p (.agg [.row S.length, .row (S.length + 1), .row (S.length + 2)]), _, _, _, he, ⟨[v1, v2, v3], rfl, ?_⟩, k1, k2, hK b hp⟩
 simp only [denL, CV.den]
 exact ⟨_, _, rfl, k3, _, _, rfl, k4, _, _, rfl, k5, rfl⟩
def RowLike (S : List Ow) (x : CV) (i : Nat) (e : TypeId) (size n : Nat) (xs : List Value) : Prop :=
 (x = .row i ∧ S[i]? = some (.row e size n xs)) ∨ (x = .sl i 0 n n ∧ S[i]? = some (.cells e (xs.map .v)) ∧ xs.length = n * size ∧ n ≤ maxLen)
theorem rowLike_at {w0 w : World} {S : List Ow} {r : Env} (hR : Rel w0 Gs.nil S r w) {x : CV} {i : Nat} {e : TypeId} {size n : Nat} {xs : List Value} (h : RowLike S x i e size n xs) {u : Value} (hd : x.den r u) : w.ownsRow w0.heap.size e size u n xs ∧ u.ownBlock = r.blk i := by
 have hnew : ∀ g, r.blk i = some g → w0.heap.size ≤ g := fun g hg => by
  rcases Nat.lt_or_ge g w0.heap.size with h3 | h3
  ·have := (hR.new i g hg).2 h3; simp at this
  ·exact h3
 rcases h with ⟨rfl, hi⟩ | ⟨rfl, hi, hl, hn⟩
 ·simp only [CV.den] at hd
  obtain ⟨v, f1, f2, f3⟩ := hR.own i _ hi
  rw [hd] at f1; injection f1 with f1; subst f1
  refine ⟨⟨f3.1, ?_⟩, f2⟩
  rcases f3.2 with h1 | ⟨b', cap, cur, h1, _, h2⟩
  ·exact .inl h1
  ·exact .inr ⟨b', cap, cur, h1, hnew b' (by rw [← f2, h1]; rfl), h2⟩
 ·simp only [CV.den] at hd
  obtain ⟨b, hb, rfl⟩ := hd
  obtain ⟨b', us, e1, e2, e3⟩ := hR.own i _ hi
  rw [hb] at e1; injection e1 with e1; subst e1
  obtain rfl := denL_vals_inv e3
  exact ⟨⟨hl, .inr ⟨b, n, us.toArray, rfl, hnew b hb, e2, Nat.le_refl _, hn, by simpa using hl, by simp [← hl]⟩⟩, hb.symm⟩
theorem fin_rows3 {w0 : World} {S : List Ow} {x1 x2 x3 : CV} {R : Ending → World → Prop} (i1 i2 i3 : Nat) (b : Blk) (h12 : i1 ≠ i2) (h13 : i1 ≠ i3) (h23 : i2 ≠ i3) (h1 : RowLike S x1 i1 35 1 b.at_.length (b.at_.map (.int .u32))) (h2 : RowLike S x2 i2 3 1 b.pages.length (b.pages.map (.int .i64))) (h3 : RowLike S x3 i3 45 5 b.ops.length (b.ops.flatMap opC))
  (h : ∀ w v1 v2 v3, Rows3 w0.heap.size w v1 v2 v3 b → Below w0.heap.size w0 w → R (.returned (.agg #[v1, v2, v3])) w) : Fin w0 Gs.nil S (.p (.agg [x1, x2, x3])) R := by
 refine ⟨fun r w u hR hd => ?_⟩
 obtain ⟨us, rfl, hl⟩ := den_agg hd
 simp only [denL] at hl
 obtain ⟨u1, l1, rfl, d1, u2, l2, rfl, d2, u3, l3, rfl, d3, rfl⟩ := hl
 obtain ⟨o1, b1⟩ := rowLike_at hR h1 d1
 obtain ⟨o2, b2⟩ := rowLike_at hR h2 d2
 obtain ⟨o3, b3⟩ := rowLike_at hR h3 d3
 refine h w u1 u2 u3 ⟨o1, o2, o3, fun x hx hy => ?_, fun x hx hy => ?_, fun x hx hy => ?_⟩ hR.toBelow
 ·rw [b1] at hx; rw [b2] at hy; exact h12 (hR.inj _ _ _ hx hy)
 ·rw [b1] at hx; rw [b3] at hy; exact h13 (hR.inj _ _ _ hx hy)
 ·rw [b2] at hx; rw [b3] at hy; exact h23 (hR.inj _ _ _ hx hy)
end Go.Proofs.YtnhdcclpjildjaaGreat
namespace Go.Proofs.YtnhdcclpjildjaaGreat
open Go.RowKit
section
variable {P : Program} {w0 : World} {G : Gs} {N : Nd} {o : Oper} {f : Fr} {S : List Ow} {K : Fr → List Ow → Prop} {Q : Exit → Act → World → Prop} {d : Code}
theorem opS_val (v : AV) (hdst : dstOk N.n o.dst = true) (h : ∀ r a w, Rel w0 G S r w → FDen r f a → ∃ u, v.den r u ∧ (execOp a.eval o).run P w = .ok (.value u) w) (hk : K (f.put o.dst v) S) : OpS P w0 G N o f S K := by
 refine ⟨fun r a w hR hf hN hd next Q hK => ?_⟩
 obtain ⟨u, hu, hrun⟩ := h r a w hR hf
 exact wp_of_value hrun (hK _ _ _ _ hk (good_value hR hf hN hd hdst hu hR (Env.le.refl r)))
theorem op_min {x y : Operand} {a b : Int} {tys : Array TypeId} (hop : o.op = .call ⟨.builtin .min, #[x, y], tys⟩) (hx : f.ev x = one (.int .i64 a)) (hy : f.ev y = one (.int .i64 b)) (hdst : dstOk N.n o.dst = true) (hk : K (f.put o.dst (one (.int .i64 (if b < a then b else a)))) S) : OpS P w0 G N o f S K := by
 refine opS_val _ hdst (fun r act w hR hf => ⟨_, den_one _ _, ?_⟩) hk
 have h1 := hf.ev x
 have h2 := hf.ev y
 rw [hx] at h1; rw [hy] at h2
 simp [execOp, hop, resolve, invoke, builtin, den_v h1, den_v h2, Builtin.min_, Builtin.min2]
theorem run_slice {t e : TypeId} {i : TypeInfo} (ht : P.underlying t = some (.slice e)) (hi : P.info? e = some i) (A : Option Addr) (n c l h : Nat) (low high : Option Value) (hl : (low = none ∧ l = 0) ∨ ∃ q, low = some (.int q (l : Int))) (hh : (high = none ∧ h = n) ∨ ∃ q, high = some (.int q (h : Int))) (hlh : l ≤ h) (hhc : h ≤ c) (w : World) :
  (Instr.sliceAt t (.slice A n c) low high none).run P w = .ok (.slice (if c = l then A else A.map (·.add (l * i.size))) (h - l) (c - l)) w := by
 have hs := run_sizeOf P e w hi
 have hl0 : (0 : Int) ≤ (l : Int) ∧ (l : Int) ≤ (h : Int) := by omega
 have hh0 : (0 : Int) ≤ (h : Int) ∧ (h : Int) ≤ (c : Int) := by omega
 rcases hl with ⟨rfl, rfl⟩ | ⟨q, rfl⟩ <;> rcases hh with ⟨rfl, rfl⟩ | ⟨q', rfl⟩ <;>
  simp [Instr.sliceAt, Instr.slice, underlying, ht, Instr.sliceBounds, Instr.sliceBound, asIntOf, hs, hl0, hh0, hlh, hhc]
theorem op_slice_v {t e : TypeId} {i : TypeInfo} {x : Operand} {lo hi : Option Operand} {A : Option Addr} {n c : Nat} (l h size : Nat) (hop : o.op = .slice t x lo hi none) (ht : P.underlying t = some (.slice e)) (hif : P.info? e = some i) (hsz : i.size = size) (hx : f.ev x = one (.slice A n c))
  (hl : (lo = none ∧ l = 0) ∨ ∃ y q, lo = some y ∧ f.ev y = one (.int q (l : Int))) (hh : (hi = none ∧ h = n) ∨ ∃ y q, hi = some y ∧ f.ev y = one (.int q (h : Int))) (hlh : l ≤ h) (hhc : h ≤ c) (hdst : dstOk N.n o.dst = true)
  (hk : K (f.put o.dst (one (.slice (if c = l then A else A.map (·.add (l * size))) (h - l) (c - l)))) S) : OpS P w0 G N o f S K := by
 subst hsz
 refine opS_val _ hdst (fun r act w hR hf => ⟨_, den_one _ _, ?_⟩) hk
 have h1 := hf.ev x
 rw [hx] at h1
 have hl' : ((lo.map act.eval) = none ∧ l = 0) ∨ ∃ q, (lo.map act.eval) = some (.int q (l : Int)) := by
  rcases hl with ⟨rfl, h0⟩ | ⟨y, q, rfl, hy⟩
  ·exact .inl ⟨rfl, h0⟩
  ·have := hf.ev y; rw [hy] at this; exact .inr ⟨q, by rw [Option.map_some, den_v this]⟩
 have hh' : ((hi.map act.eval) = none ∧ h = n) ∨ ∃ q, (hi.map act.eval) = some (.int q (h : Int)) := by
  rcases hh with ⟨rfl, h0⟩ | ⟨y, q, rfl, hy⟩
  ·exact .inl ⟨rfl, h0⟩
  ·have := hf.ev y; rw [hy] at this; exact .inr ⟨q, by rw [Option.map_some, den_v this]⟩
 have := run_slice (P := P) ht hif A n c l h (lo.map act.eval) (hi.map act.eval) hl' hh' hlh hhc w
 simp [execOp, hop, den_v h1, this]
end
end Go.Proofs.YtnhdcclpjildjaaGreat
namespace Go.Proofs.YtnhdcclpjildjaaGreat
open Go.RowKit

def bytesA (l : List Int) : ByteArray := l.foldl (fun r n => r.push (UInt8.ofNat n.toNat)) ByteArray.empty
def strV (l : List Int) : Value := .string (bytesA l)
theorem bytes_push : ∀ (l : List Int) (s : ByteArray), (l.foldl (fun r n => r.push (UInt8.ofNat n.toNat)) s).data.toList = s.data.toList ++ l.map fun n => UInt8.ofNat n.toNat
 | [], s => by simp
 | n :: l, s => by
  rw [List.foldl_cons, bytes_push l]
  simp [ByteArray.push]
theorem bytesA_list (l : List Int) : (bytesA l).data.toList = l.map fun n => UInt8.ofNat n.toNat := by
 have := bytes_push l ByteArray.empty
 rw [show ByteArray.empty.data.toList = [] from rfl, List.nil_append] at this
 exact this
theorem bytesA_size (l : List Int) : (bytesA l).size = l.length := by
 show (bytesA l).data.size = _
 rw [← Array.length_toList, bytesA_list, List.length_map]
theorem bytesA_get {l : List Int} {i : Nat} {b : Int} (h : l[i]? = some b) : (bytesA l)[i]? = some (UInt8.ofNat b.toNat) := by
 have h1 : (bytesA l).data.toList[i]? = some (UInt8.ofNat b.toNat) := by rw [bytesA_list, List.getElem?_map, h]; rfl
 have h2 : (bytesA l).data[i]? = some (UInt8.ofNat b.toNat) := by simpa using h1
 have hi : i < (bytesA l).size := by
  rw [bytesA_size]
  rcases Nat.lt_or_ge i l.length with h3 | h3
  ·exact h3
  ·rw [List.getElem?_eq_none h3] at h; cases h
 rw [getElem?_pos (bytesA l) i hi]
 have h3 : i < (bytesA l).data.size := hi
 rw [Array.getElem?_eq_getElem h3] at h2
 exact h2
section
variable {P : Program} {w0 : World} {G : Gs} {S : List Ow} {f : Fr} {o : Oper} {K : AV → Prop}
theorem q_len_str {x : Operand} {t : TypeId} (l : List Int) (hop : o.op = .call ⟨.builtin .len, #[x], #[t]⟩) (ht : P.underlying t = some .string) (hx : f.ev x = one (strV l)) (hk : K (one (.int .i64 (l.length : Int)))) : QRun P w0 G S f o K := by
 refine ⟨_, hk, fun r a hf => ?_⟩
 have h1 := hf.ev x
 rw [hx] at h1
 refine ⟨_, rfl, fun w hR => ?_⟩
 simp [execOp, hop, resolve, invoke, builtin, den_v h1, strV, bytesA_size, Builtin.len_, run_underlying ht, goInt]
theorem q_index_str {x ix : Operand} {t : TypeId} (l : List Int) (k : IntKind) (i : Nat) (b : Int) (hop : o.op = .index t x ix) (ht : P.underlying t = some .string) (hx : f.ev x = one (strV l)) (hi : f.ev ix = one (.int k (i : Int))) (hb : l[i]? = some b) (hr : 0 ≤ b ∧ b < 256) (hk : K (one (.int .u8 b))) : QRun P w0 G S f o K := by
 refine ⟨_, hk, fun r a hf => ?_⟩
 have h1 := hf.ev x
 have h2 := hf.ev ix
 rw [hx] at h1; rw [hi] at h2
 refine ⟨_, rfl, fun w hR => ?_⟩
 have hg := bytesA_get hb
 have hbb : (UInt8.ofNat b.toNat).toNat = b.toNat := by simp; omega
 simp [execOp, hop, den_v h1, den_v h2, strV, Instr.index, run_underlying ht, hg, asIntOf, hbb]
 omega
theorem q_conv_str {x : Operand} {src dst e : TypeId} {te : TypeId} (i n c : Nat) (l : List Int) (hop : o.op = .convert src dst x) (hs : P.underlying src = some (.slice e)) (he : P.underlying e = some (.int .u8)) (hd : P.underlying dst = some .string) (hx : f.ev x = .p (.c (.sl i 0 n c))) (hi : S[i]? = some (.cells te ((l.map (Value.int .u8)).map .v))) (hn : l.length = n) (hk : K (one (strV l))) : QRun P w0 G S f o K := by
 refine ⟨_, hk, fun r a hf => ?_⟩
 have h1 := hf.ev x
 rw [hx] at h1
 obtain ⟨b, hb, hu⟩ := den_sl h1
 refine ⟨_, rfl, fun w hR => ?_⟩
 obtain ⟨b', us, e1, e2, e3⟩ := hR.own i _ hi
 rw [hb] at e1; injection e1 with e1; subst e1
 obtain rfl := denL_vals_inv e3
 have hl : (loadCells ⟨b, 0, none⟩ n).run P w = .ok (l.map (Value.int .u8)).toArray w := by
  unfold loadCells
  have := run_loadCells (P := P) (w := w) (b := b) (off := 0) n 0 #[] (l.map (Value.int .u8)) (by simp [hn]) (fun j u hj => by simpa [World.cell?, e2] using hj)
  simpa using this
 simp [execOp, hop, hu, run_convert_bytes_string w src dst e _ n c hs he hd, run_bytesToString w _ n c l hl, strV, bytesA]
end
theorem op_makeCells {P : Program} {w0 : World} {G : Gs} {N : Nd} {o : Oper} {f : Fr} {S : List Ow} {K : Fr → List Ow → Prop} {t e : TypeId} {i : TypeInfo} {z : Value} {x y : Operand} (size n : Nat) (hop : o.op = .makeSlice t x y) (ht : P.underlying t = some (.slice e)) (hi : P.info? e = some i) (hz : i.zero = some z) (hsize : i.size = size)
  (hx : f.ev x = one (.int .i64 (n : Int))) (hy : f.ev y = one (.int .i64 (n : Int))) (hn : n * size ≤ 16777216) (hb : i.bytes * n ≤ 281474976710656) (hm : n ≤ maxLen) (hdst : dstOk N.n o.dst = true) {xs : List Value} (hxs : (madeCells z.cells (n * size)).toList = xs)
  (hk : K (f.put o.dst (.p (.c (.sl S.length 0 n n)))) (S ++ [.cells e (xs.map .v)])) : OpS P w0 G N o f S K := by
 refine ⟨fun r a w hR hf hN hd next Q hK => ?_⟩
 have h1 := hf.ev x
 have h2 := hf.ev y
 rw [hx] at h1; rw [hy] at h2
 have hrun := run_makeSlice (P := P) (w := w) t e i z ht hi hz .i64 .i64 (n : Int) (n : Int) (by omega) (Int.le_refl _) (by rw [hsize, Int.toNat_natCast]; exact hn) (by have := Int.ofNat_le.2 hb; simpa using this) (by have := Int.ofNat_le.2 hm; exact this)
 rw [Int.toNat_natCast, hsize] at hrun
 have hex : (execOp a.eval o).run P w = .ok (.value (.slice (some ⟨w.heap.size, 0, none⟩) n n)) (w.alloc (.cells (madeCells z.cells (n * size)) e)) := by
  simp [execOp, hop, den_v h1, den_v h2, hrun]
 have hB : Below w.heap.size w (w.alloc (.cells (madeCells z.cells (n * size)) e)) := Below.alloc (Below.refl _ _) (Nat.le_refl _) _
 have hle := hR.le_new (some w.heap.size) none
 refine wp_of_value hex (hK _ _ _ _ hk (good_value hR hf hN hd hdst (r' := r.set S.length (some w.heap.size) none) ?_ (hR.snoc hB (fun x hx => by injection hx with hx; subst hx; exact ⟨Nat.le_refl _, by show w.heap.size < (w.heap.push _).size; simp⟩) ⟨w.heap.size, xs, by simp [Env.set], by show (w.heap.push _)[w.heap.size]? = _; simp [← hxs], denL_vals xs⟩) hle))
 simp only [AV.den, Pc.den, CV.den]
 exact ⟨w.heap.size, by simp [Env.set], rfl⟩
end Go.Proofs.YtnhdcclpjildjaaGreat
namespace Go.Proofs.YtnhdcclpjildjaaGreat
open Go.RowKit

theorem slot_ref {r : Env} {f : Fr} {a : Act} (hf : FDen r f a) (d : Nat) {i g : Nat} (h : f.get d = .p (.c (.ref i 0))) (hb : r.blk i = some g) : a.tmps.getD d undef = .pointer (some ⟨g, 0, none⟩) := by
 have := hf d
 rw [h] at this
 obtain ⟨b, h1, h2⟩ := den_ref this
 rw [hb] at h1; injection h1 with h1; subst h1
 exact h2
end Go.Proofs.YtnhdcclpjildjaaGreat
namespace Go.Proofs.YtnhdcclpjildjaaGreat
open Go.RowKit

section
variable {w0 : World} {S : List Ow} {K : AV → List Ow → Prop} {b : Blk} {A1 A2 A3 : Option Addr} {n1 n2 n3 c1 c2 c3 : Nat}
end
theorem slot_val {r : Env} {f : Fr} {a : Act} (hf : FDen r f a) {d : Nat} {x : Value} (h : (f.get d).val = some x) : a.tmps.getD d undef = x := AV.val_den h (hf d)
end Go.Proofs.YtnhdcclpjildjaaGreat
namespace Go.Proofs.YtnhdcclpjildjaaGreat
open Go.RowKit

def MemP.protect (M : MemP) (q : Nat) (x : Int) : MemP := { M with rights := M.rights.set q x }
theorem protect_ok {M : MemP} {n p : Nat} (hM : M.ok n p) (q : Nat) {x : Int} (hx : 0 ≤ x ∧ x < 8) : (M.protect q x).ok n p :=
 ⟨hM.ld, hM.li, by show (M.rights.set q x).length = p; rw [List.length_set]; exact hM.lr, hM.lod, hM.loi, hM.np, hM.pmax, hM.db, hM.ib, fun z hz => by
  rcases List.mem_or_eq_of_mem_set hz with h | h
  ·exact hM.rb z h
  ·rw [h]; exact hx⟩
theorem bits_and7 {x : Int} (h : 0 ≤ x ∧ x < 8) : bits .and .i64 x 7 = x := by
 have : x = 0 ∨ x = 1 ∨ x = 2 ∨ x = 3 ∨ x = 4 ∨ x = 5 ∨ x = 6 ∨ x = 7 := by omega
 rcases this with rfl | rfl | rfl | rfl | rfl | rfl | rfl | rfl <;> decide
set_option maxRecDepth 100000 in
theorem mem_protect (M : MemP) (n p : Nat) (q : Nat) (x : Int) (w : World) (g : Nat) (gs : List Nat) (hU : ObjsAt w (g :: gs) (memS 0 n p M)) (hM : M.ok n p) (hq : q < p) (_hp : p < 8) (hx : 0 ≤ x ∧ x < 8) :
  Calls Tryz.prog 28 #[.pointer (some ⟨g, 0, none⟩), .int .i64 (q : Int), .int .i64 x] w fun e w' => e = .returned (.tuple #[]) ∧ ObjsAt w' (g :: gs) (memS 0 n p (M.protect q x)) ∧ GrownBys w w' (g :: gs) := by
 obtain ⟨g0, g1, g2, g3, g4, g5, hg⟩ := six_blocks hU
 injection hg with hg0 hgs
 subst hgs; subst hg0
 refine calls_objs [.p (.c (.ref 0 0)), one (.int .i64 (q : Int)), one (.int .i64 x)] [.pointer (some ⟨g, 0, none⟩), .int .i64 (q : Int), .int .i64 x] Tryz.func28 Tryz.ntmps28 rfl (by simp) hU ⟨_, _, rfl, den_mk_ref rfl, avdenL_of [.int .i64 (q : Int), .int .i64 x]⟩ ?_
 conv => whnf
 refine ⟨decide ((q : Int) < (p : Int)), fun _ => ?_, ?_⟩
 ·conv => whnf
  exact ⟨rfl, rfl, rfl, rfl, grp_mem _ _ _ _ _ _ _ _ _⟩
 conv => whnf
 refine ⟨fun _ => ?_, fun hc => absurd hc (by simp [cmb]; omega)⟩
 conv => whnf
 have h7 : bits .and .i64 x 7 = x := bits_and7 hx
 refine ⟨x, h7, ?_⟩
 conv => whnf
 refine ⟨⟨by omega, by omega⟩, ?_⟩
 conv => whnf
 have hlen : p ≤ (List.map CV.v M.rV).length := tail_le hM.lr
 rw [show Nat.ble (0 + (q : Int).toNat * tsz Tryz.prog 3 + [CV.v (Value.int IntKind.i64 x)].length) (List.map CV.v M.rV).length = true from Nat.ble_eq_true_of_le (by refine Nat.le_trans ?_ hlen; show 0 + _ * 1 + 1 ≤ p; omega)]
 conv => whnf
 have hset : setAll (List.map CV.v M.rV) (0 + (q : Int).toNat * tsz Tryz.prog 3) [CV.v (Value.int IntKind.i64 x)] = List.map CV.v (M.protect q x).rV := by
  rw [set_vals]
  show List.map CV.v (M.rV.set (0 + (q : Int).toNat * 1) _) = _
  rw [Nat.zero_add, Nat.mul_one, Int.toNat_natCast]
  exact congrArg (List.map CV.v) (tail_set (by rw [hM.lr]; exact hq))
 cases hble : Nat.ble (List.map CV.v M.rV).length 8 with
 | true =>
  refine forceL_iff.2 ?_
  conv => whnf
  rw [hset]
  exact fin_objs rfl rfl (fun i o h => h) (memS_ob n p (M.protect q x)) fun w' h1 h2 => ⟨rfl, h1, h2⟩
 | false =>
  conv => whnf
  rw [hset]
  exact fin_objs rfl rfl (fun i o h => h) (memS_ob n p (M.protect q x)) fun w' h1 h2 => ⟨rfl, h1, h2⟩
end Go.Proofs.YtnhdcclpjildjaaGreat
namespace Go.Proofs.YtnhdcclpjildjaaGreat
open Go.RowKit

section
variable {P : Program} {w0 : World} {G : Gs} {S : List Ow} {f : Fr} {o : Oper} {N : Nd} {K : Fr → List Ow → Prop}
theorem op_max {x y : Operand} {a b : Int} {tys : Array TypeId} (hop : o.op = .call ⟨.builtin .max, #[x, y], tys⟩) (hx : f.ev x = one (.int .i64 a)) (hy : f.ev y = one (.int .i64 b)) (hdst : dstOk N.n o.dst = true) (hk : K (f.put o.dst (one (.int .i64 (if a < b then b else a)))) S) : OpS P w0 G N o f S K := by
 refine opS_val _ hdst (fun r act w hR hf => ⟨_, den_one _ _, ?_⟩) hk
 have h1 := hf.ev x
 have h2 := hf.ev y
 rw [hx] at h1; rw [hy] at h2
 simp [execOp, hop, resolve, invoke, builtin, den_v h1, den_v h2, Builtin.max_, Builtin.max2]
end
end Go.Proofs.YtnhdcclpjildjaaGreat
namespace Go.Proofs.YtnhdcclpjildjaaGreat
open Go.ChangeShapes Go.WideShapes Go.ChangeAt Go.RowKit

theorem ownK : ownKnob Tryz.prog.godebug = none := by kernel_rfl
theorem laidOutP : laidOutB Tryz.prog = true := by kernel_rfl
theorem word_wf {n : Int} (h : (Lit.int .u32 n).wf = true) : word n := by
 simp [Lit.wf, IntKind.min, IntKind.max, IntKind.signed, IntKind.bits] at h
 unfold word; omega
theorem open_ints_arr {H : Type} {enc : TypeId × Value → H} {W : World} {fuel n : Nat} {t e : TypeId} {k : IntKind} {cs : List Value} {x : DataW H × List MemPlace} (ht : Tryz.prog.underlying t = some (.array n e)) (he : Tryz.prog.underlying e = some (.int k)) (hc : Tryz.prog.cellsOf e = 1) (hct : Tryz.prog.cellsOf t = n)
  (h : DataW.trod enc Tryz.prog W 0 (fun _ => true) true fuel t cs = some x) : ∃ zs : List Int, cs = zs.map (Value.int k) ∧ zs.length = n ∧ ∀ z ∈ zs, (Lit.int k z).wf = true := by
 obtain ⟨xs, m, _, _, hl, hlen, hel⟩ := DataW.trod_array ht h
 rw [hct] at hl
 have get : ∀ i (hi : i < n), ∃ z, cs[i]? = some (.int k z) ∧ (Lit.int k z).wf = true := fun i hi => by
  have := hel i hi
  rw [hc, List.getElem?_eq_getElem (by omega)] at this
  obtain ⟨z, e1, _, e3⟩ := DataW.trod_int he this
  refine ⟨z, ?_, e3⟩
  have h0 : ((cs.drop (i * 1)).take 1)[0]? = some (.int k z) := by rw [e1]; rfl
  rw [List.getElem?_take, if_pos (by omega), List.getElem?_drop] at h0
  simpa using h0
 refine ⟨(List.range n).map fun i => intOf (cs.getD i undef), ?_, by simp, fun z hz => ?_⟩
 ·refine List.ext_getElem? fun i => ?_
  rw [List.getElem?_map, List.getElem?_map]
  rcases Nat.lt_or_ge i n with hi | hi
  ·obtain ⟨z, e1, _⟩ := get i hi
   rw [List.getElem?_range hi, e1]
   simp [List.getD_eq_getElem?_getD, e1, intOf]
  ·rw [List.getElem?_eq_none (by omega), List.getElem?_eq_none (by simpa using hi)]; rfl
 ·obtain ⟨i, hi, rfl⟩ := List.mem_map.1 hz
  have hi : i < n := by simpa using hi
  obtain ⟨z, e1, e2⟩ := get i hi
  simpa [List.getD_eq_getElem?_getD, e1, intOf] using e2
end Go.Proofs.YtnhdcclpjildjaaGreat
namespace Go.Proofs.YtnhdcclpjildjaaGreat
open Go.RowKit

def endsQ (op : Int) : Bool := decide (op = 27 ∨ (32 ≤ op ∧ op ≤ 37) ∨ op = 40 ∨ (48 ≤ op ∧ op ≤ 51))
theorem tail_iff {i : QI} (hv : (qForm i.op).is = true) (a : Int) : (qTail i a).isSome = (!simpleQ i.op || endsQ i.op) := by
 have ho := is_ops hv
 unfold qTail simpleQ endsQ
 have hz := @qCode_zero i.op
 by_cases hc : qCode i.op ≠ 0
 ·have := hz.1 hc
  rw [if_pos hc]
  have e1 : decide (i.op < 48) = true := by rw [decide_eq_true_eq]; omega
  have e2 : decide (i.op = 27 ∨ (32 ≤ i.op ∧ i.op ≤ 37) ∨ i.op = 40 ∨ (48 ≤ i.op ∧ i.op ≤ 51)) = false := by rw [decide_eq_false_iff_not]; omega
  rw [e1, e2]; rfl
 ·have hn : ¬ ((1 ≤ i.op ∧ i.op ≤ 12) ∨ (16 ≤ i.op ∧ i.op ≤ 22)) := fun h => hc (hz.2 h)
  rw [if_neg hc]
  by_cases h1 : i.op = 41 ∨ (23 ≤ i.op ∧ i.op ≤ 26)
  ·rw [if_pos h1]
   have e1 : decide (i.op < 48) = true := by rw [decide_eq_true_eq]; omega
   have e2 : decide (i.op = 27 ∨ (32 ≤ i.op ∧ i.op ≤ 37) ∨ i.op = 40 ∨ (48 ≤ i.op ∧ i.op ≤ 51)) = false := by rw [decide_eq_false_iff_not]; omega
   rw [e1, e2]; rfl
  ·rw [if_neg h1]
   have e3 : (!decide (i.op < 48) || decide (i.op = 27 ∨ (32 ≤ i.op ∧ i.op ≤ 37) ∨ i.op = 40 ∨ (48 ≤ i.op ∧ i.op ≤ 51))) = true := by
    by_cases h48 : i.op < 48
    ·have e2 : decide (i.op = 27 ∨ (32 ≤ i.op ∧ i.op ≤ 37) ∨ i.op = 40 ∨ (48 ≤ i.op ∧ i.op ≤ 51)) = true := by rw [decide_eq_true_eq]; omega
     rw [e2]; simp
    ·have e1 : decide (i.op < 48) = false := by rw [decide_eq_false_iff_not]; exact h48
     rw [e1]; rfl
   rw [e3]
   repeat' split
   all_goals rfl
theorem tail_none (a : Int) : (qTail ⟨0, 0, 0, 0, 0⟩ a).isSome = true := rfl
end Go.Proofs.YtnhdcclpjildjaaGreat
namespace Go.Proofs.YtnhdcclpjildjaaGreat
open Go.RowKit

theorem liftAts_succ (pc : Int) (m : Nat) : liftAts pc (m + 1) = liftAts pc m ++ [qAddr pc m] := by
 unfold liftAts; rw [List.range_succ]; simp
def goesQ (F : Int → Option QI) (a : Int) : Bool := match F a with | none => false | some i => simpleQ i.op && !endsQ i.op
theorem goes_iff {F : Int → Option QI} (hF : ∀ a i, F a = some i → (qForm i.op).is = true) (a : Int) : (qTail (qAt F a) a).isSome = !goesQ F a := by
 unfold goesQ qAt
 cases h : F a with
 | none => exact tail_none a
 | some i =>
  show (qTail i a).isSome = !(simpleQ i.op && !endsQ i.op)
  rw [tail_iff (hF a i h)]
  cases simpleQ i.op <;> cases endsQ i.op <;> rfl
end Go.Proofs.YtnhdcclpjildjaaGreat
namespace Go.Proofs.YtnhdcclpjildjaaGreat
open Go.RowKit

theorem orI_add {a b : Int} (k : Nat) (ha : 0 ≤ a) (hd : a % 2 ^ k = 0) (hb : 0 ≤ b ∧ b < 2 ^ k) : orI a b = a + b := by
 obtain ⟨n, rfl⟩ : ∃ n : Nat, a = n := ⟨a.toNat, by omega⟩
 obtain ⟨m, rfl⟩ : ∃ m : Nat, b = m := ⟨b.toNat, by omega⟩
 have hm : m < 2 ^ k := by
  have := hb.2
  exact_mod_cast this
 have hn : n % 2 ^ k = 0 := by exact_mod_cast hd
 unfold orI
 rw [Int.toNat_natCast, Int.toNat_natCast]
 have e : n = (n / 2 ^ k) <<< k := by
  rw [Nat.shiftLeft_eq]
  have := Nat.div_add_mod n (2 ^ k)
  rw [hn, Nat.add_zero, Nat.mul_comm] at this
  exact this.symm
 have key : n ||| m = n + m := by
  rw [e, ← Nat.shiftLeft_add_eq_or_of_lt hm]
 rw [key]
 push_cast
 rfl
theorem andI_mod {a : Int} (k : Nat) (ha : 0 ≤ a) : andI a (2 ^ k - 1) = a % 2 ^ k := by
 obtain ⟨n, rfl⟩ : ∃ n : Nat, a = n := ⟨a.toNat, by omega⟩
 have h1 : ((2 : Int) ^ k - 1).toNat = 2 ^ k - 1 := by
  have e : ((2 ^ k : Nat) : Int) = (2 : Int) ^ k := by push_cast; rfl
  have hp := Nat.one_le_two_pow (n := k)
  rw [← e]
  generalize 2 ^ k = x at hp ⊢
  omega
 unfold andI
 rw [Int.toNat_natCast, h1, Nat.and_two_pow_sub_one_eq_mod]
 push_cast
 rfl
theorem enc_or {i : QI} (hv : validQ i = true) (him : word i.imm) :
  orI (orI (orI (orI (i.op * 67108864) (i.d * 4194304)) (i.a * 262144)) (i.b * 16384)) (andI i.imm (2 ^ (qForm i.op).bits - 1)) = wordQ i := by
 obtain ⟨h1, h2, h3, h4, h5⟩ := validQ_parts hv
 obtain ⟨q1, q2, q2', q4, q5, q6, q7, q8⟩ := qForm_cases i.op
 have r2 := regB_range h2
 have r3 := regB_range h3
 have r4 := regB_range h4
 have r1 := q5 h1
 unfold word at him
 rw [andI_mod _ him.1]
 have lo := low_range i.imm q1
 have p26 : (2 : Int) ^ 26 = 67108864 := rfl
 have p22 : (2 : Int) ^ 22 = 4194304 := rfl
 have p18 : (2 : Int) ^ 18 = 262144 := rfl
 have p0 : (2 : Int) ^ 0 = 1 := rfl
 rw [orI_add (a := i.op * 67108864) 26 (by omega) (by rw [p26]; omega) (by rw [p26]; omega)]
 rw [orI_add (a := i.op * 67108864 + i.d * 4194304) 22 (by omega) (by rw [p22]; omega) (by rw [p22]; omega)]
 rw [orI_add (a := i.op * 67108864 + i.d * 4194304 + i.a * 262144) 18 (by omega) (by rw [p18]; omega) (by rw [p18]; omega)]
 unfold wordQ
 rcases q1 with q | q | q
 ·rw [q] at lo ⊢
  rw [orI_add 0 (by omega) (by rw [p0]; omega) (by rw [p0]; omega)]
 ·have hb := r4.2.2 (by cases hb : (qForm i.op).b with | false => rfl | true => rw [q6 hb] at q; cases q)
  rw [q] at lo ⊢
  rw [p18] at lo
  rw [orI_add 18 (by omega) (by rw [p18]; omega) (by rw [p18]; omega)]
 ·have hb := r4.2.2 (by cases hb : (qForm i.op).b with | false => rfl | true => rw [q6 hb] at q; cases q)
  have ha := r3.2.2 (q7 q)
  rw [q] at lo ⊢
  rw [p22] at lo
  rw [orI_add 22 (by omega) (by rw [p22]; omega) (by rw [p22]; omega)]
theorem sgn_shift18 (n : Int) (_h : word n) : signedI (n * 16384 % 4294967296) / 16384 % 4294967296 = sgnW n 18 := by
 
 rw [sgn18]
 unfold signedI
 split <;> split <;> omega
theorem sgn_shift22 (n : Int) (_h : word n) : signedI (n * 1024 % 4294967296) / 1024 % 4294967296 = sgnW n 22 := by
 
 rw [sgn22]
 unfold signedI
 split <;> split <;> omega
end Go.Proofs.YtnhdcclpjildjaaGreat
namespace Go.Proofs.YtnhdcclpjildjaaGreat
open Go.RowKit
section
variable {P : Program} {w0 : World} {G : Gs} {N : Nd} {o : Oper} {f : Fr} {S : List Ow} {K : Fr → List Ow → Prop}
theorem op_invoke {recv : Operand} {name : String} {args : Array Operand} {tys : Array TypeId} {t : TypeId} {v rcv : Value} {fid : FuncId} (hop : o.op = .call ⟨.invoke recv name, args, tys⟩) (hdst : dstOk N.n o.dst = true) (hr : f.ev recv = .p (.c (.v (.iface t v))))
  (hm : ∀ w, (method (P.types.size + Made.depth) t v name).run P w = .ok (fid, rcv) w) (h : CallS P w0 G fid (AV.of rcv :: args.toList.map f.ev) S fun u S' => K (f.put o.dst u) S') : OpS P w0 G N o f S K := by
 refine ⟨fun r a w hR hf hN hd next Q hK => ?_⟩
 have hfr := hf.ev recv
 rw [hr] at hfr
 have hu := den_v hfr
 obtain ⟨hok, hc⟩ := h
 have hrun : (execOp a.eval o).run P w = .ok (.enter fid (#[rcv] ++ args.map a.eval)) w := by
  have h0 : (#[a.eval recv] ++ args.map a.eval)[0]? = some (.iface t v) := by rw [Array.getElem?_append_left (by simp), hu]; rfl
  have h1 : (#[a.eval recv] ++ args.map a.eval).extract 1 (#[a.eval recv] ++ args.map a.eval).size = args.map a.eval := by
   apply Array.ext'
   simp
   exact List.take_of_length_le (by simp)
  have hp : (program).run P w = .ok P w := rfl
  have hcf := run_callFunc (w := w) (args := #[rcv] ++ args.map a.eval) hok
  simp only [execOp, hop, resolve, pure_bind, invoke, h0, h1, callMethod, Sem.run_bind, hp, hm, Result.andThen_ok]
  exact hcf
 refine wp_of_enter hrun ?_
 have := hc r w (rcv :: args.toList.map a.eval) hR ⟨rcv, _, rfl, AV.of_den r rcv, avdenL_ev hf _⟩
 rw [show (rcv :: args.toList.map a.eval).toArray = #[rcv] ++ args.map a.eval by apply Array.ext'; simp] at this
 exact Calls.mono this fun e w' ⟨v, u, S', r', he, hv, hR', hle, hKv⟩ => ⟨u, he, hK _ _ _ _ hKv (good_value hR hf hN hd hdst hv hR' hle)⟩
end
end Go.Proofs.YtnhdcclpjildjaaGreat
namespace Go.Proofs.YtnhdcclpjildjaaGreat
open Go.RowKit

theorem call_newObjs {P : Program} {w0 : World} {G : Gs} {fid : FuncId} {args : List AV} {xs : List Value} {S : List Ow} {K : AV → List Ow → Prop} (U V : List Ow) (hx : avals args = some xs) (hok : fnOk P fid = true) (hsh : ShAll S.length U V) (hob : ObAll U.length U)
  (h : ∀ r w, Rel w0 G S r w → Calls P fid xs.toArray w fun e w' => ∃ g gs, e = .returned (.pointer (some ⟨g, 0, none⟩)) ∧ NewObjs w w' (g :: gs) U) (hK : K (.p (.c (.ref S.length 0))) (S ++ V)) : CallS P w0 G fid args S K := by
 refine ⟨hok, fun r w us hR hd => ?_⟩
 obtain rfl := avals_den hx hd
 refine (h r w hR).mono fun e w' ⟨g, gs, he, hn⟩ => ?_
 obtain ⟨h1, h2⟩ := hR.newObjs hn hsh hob
 refine ⟨_, _, _, _, he, den_mk_ref ?_, h1, h2, hK⟩
 show (if S.length < S.length then r.blk S.length else (g :: gs)[S.length - S.length]?) = some g
 rw [if_neg (by omega), Nat.sub_self]; rfl
theorem fin_newObjs {w0 : World} {S : List Ow} {R : Ending → World → Prop} (k : Nat) (U V : List Ow) (hpos : 0 < U.length) (hS : ∀ i, i < U.length → S[k + i]? = V[i]?) (hsh : ShAll k U V) (hob : ObAll U.length U)
  (h : ∀ w g gs, NewObjs w0 w (g :: gs) U → R (.returned (.pointer (some ⟨g, 0, none⟩))) w) : Fin w0 Gs.nil S (.p (.c (.ref k 0))) R := by
 refine ⟨fun r w u hR hd => ?_⟩
 obtain ⟨g, hg, rfl⟩ := den_ref hd
 have hnew : ∀ i b, r.blk i = some b → w0.heap.size ≤ b := fun i b hb => by
  rcases Nat.lt_or_ge b w0.heap.size with h1 | h1
  ·exact absurd ((hR.new i b hb).2 h1) (by simp)
  ·exact h1
 have hown : ∀ i, i < U.length → ∃ b t l, U[i]? = some (.cells t l) ∧ r.blk (k + i) = some b ∧ ∃ us : List Value, w.heap[b]? = some (.cells us.toArray t (0, 0)) ∧ denL r (l.map (CV.sh k)) us := fun i hi => by
  have hu := List.getElem?_eq_getElem hi
  obtain ⟨o', h1, h2⟩ := hsh.get i hu
  have h3 := hR.own (k + i) o' (by rw [hS i hi, h1])
  have h4 := hob _ (List.getElem_mem hi)
  cases ho : U[i] with
  | cells t l =>
   rw [ho] at h2 hu
   cases o' with
   | cells t' l' =>
    obtain ⟨rfl, rfl⟩ := h2
    obtain ⟨b, us, e1, e2, e3⟩ := h3
    exact ⟨b, t, l, hu, e1, us, e2, e3⟩
   | row => exact h2.elim
   | ext => exact h2.elim
   | view => exact h2.elim
   | gone => exact h2.elim
  | row => rw [ho] at h4; exact h4.elim
  | ext => rw [ho] at h4; exact h4.elim
  | view => rw [ho] at h4; exact h4.elim
  | gone => rw [ho] at h4; exact h4.elim
 obtain ⟨gs, hgl, hgs⟩ : ∃ gs : List Nat, gs.length = U.length ∧ ∀ i, i < U.length → gs[i]? = r.blk (k + i) := by
  refine ⟨(List.range U.length).map fun i => (r.blk (k + i)).getD 0, by simp, fun i hi => ?_⟩
  obtain ⟨b, _, _, _, hb, _⟩ := hown i hi
  rw [List.getElem?_map, List.getElem?_range hi, hb]
  simp [hb]
 have hto : ∀ i b, i < U.length → r.blk (k + i) = some b → (envOf gs).blk i = some b := fun i b hi hb => by
  show gs[i]? = some b
  rw [hgs i hi]; exact hb
 have hin : ∀ (i b : Nat), gs[i]? = some b → i < U.length ∧ r.blk (k + i) = some b := fun i b hb => by
  have hi : i < U.length := by
   rcases Nat.lt_or_ge i U.length with h1 | h1
   ·exact h1
   ·rw [List.getElem?_eq_none (by omega)] at hb; cases hb
  exact ⟨hi, by rw [← hgs i hi]; exact hb⟩
 have hmem : ∀ b, b ∈ gs → ∃ i, i < U.length ∧ r.blk (k + i) = some b := fun b hb => by
  obtain ⟨i, hi⟩ := List.getElem?_of_mem hb
  exact ⟨i, hin i b hi⟩
 have hU : NewObjs w0 w gs U := by
  refine ⟨⟨hgl.symm, fun i j b hi hj => ?_, fun b hb => ?_, fun i o ho => ?_⟩, fun b hb => ?_, hR.toBelow⟩
  ·have := hR.inj _ _ b (hin i b hi).2 (hin j b hj).2
   omega
  ·obtain ⟨i, _, hi⟩ := hmem b hb
   exact (hR.new _ b hi).1
  ·have hi : i < U.length := by
    rcases Nat.lt_or_ge i U.length with h1 | h1
    ·exact h1
    ·rw [List.getElem?_eq_none h1] at ho; cases ho
   obtain ⟨b, t, l, e1, e2, us, e3, e4⟩ := hown i hi
   rw [ho] at e1; injection e1 with e1; subst e1
   exact ⟨b, us, hto i b hi e2, e3, denL_sh (n := U.length) hto (hob _ (List.mem_of_getElem? ho)) e4⟩
  ·obtain ⟨i, _, hi⟩ := hmem b hb
   exact hnew _ b hi
 cases gs with
 | nil => simp at hgl; omega
 | cons g' gs =>
  have := hto 0 g hpos (by simpa using hg)
  have : g' = g := by injection this
  subst this
  exact h w g' gs hU
end Go.Proofs.YtnhdcclpjildjaaGreat
namespace Go.Proofs.YtnhdcclpjildjaaGreat
open Go.RowKit
section
variable {P : Program} {w0 : World} {G : Gs} {N : Nd} {S : List Ow} {f : Fr} {o : Oper}
theorem q_slice_arr {K : AV → Prop} {t e : TypeId} {x : Operand} {inf : TypeInfo} (i off n : Nat) (hop : o.op = .slice t x none none none) (ht : P.underlying t = some (.array n e)) (hif : P.info? e = some inf) (hx : f.ev x = .p (.c (.ref i off))) (_hsz : inf.size = 1) (hk : K (.p (.c (.sl i off n n)))) : QRun P w0 G S f o K := by
 refine ⟨_, hk, fun r a hf => ?_⟩
 have h1 := hf.ev x
 rw [hx] at h1
 obtain ⟨b, hb, hu⟩ := den_ref h1
 refine ⟨.slice (some ⟨b, off, none⟩) n n, ?_, fun w hR => ?_⟩
 ·simp only [AV.den, Pc.den, CV.den]; exact ⟨b, hb, rfl⟩
 ·have hs := run_sizeOf P e w hif
  simp [execOp, hop, hu, Instr.sliceAt, underlying, ht, Instr.sureAddr, Instr.sliceBounds, hs, addr_add]
end
end Go.Proofs.YtnhdcclpjildjaaGreat
namespace Go.Proofs.YtnhdcclpjildjaaGreat
open Go.RowKit

theorem mem_zero_ok {p : Nat} (hp : p ≤ 4096) : (MemP.zero p).ok (256 * p) p :=
 ⟨List.length_replicate, List.length_replicate, List.length_replicate, List.length_replicate, List.length_replicate, rfl, hp, fun x hx => by rw [List.eq_of_mem_replicate hx]; omega, fun x hx => by rw [List.eq_of_mem_replicate hx]; omega, fun x hx => by rw [List.eq_of_mem_replicate hx]; omega⟩
theorem made_zero (z : Value) (n : Nat) : (madeCells #[z] (n * 1)).toList = List.replicate n z := by
 refine List.ext_getElem? fun i => ?_
 simp only [madeCells, Array.getElem?_toList, Array.getElem?_map, List.getElem?_replicate, Nat.mul_one]
 by_cases h : i < n <;> simp [h, Nat.mod_one]
theorem memS_bnd (n p : Nat) (M : MemP) : sbnd 6 (memS 0 n p M) = true := by
 simp only [sbnd, Ow.bnd, bndL_vals, bndL, CV.bnd]
 rfl
set_option maxRecDepth 100000 in
theorem new_mem (p : Nat) (w : World) (hp : 1 ≤ p ∧ p ≤ 64) :
  Calls Tryz.prog 63 #[.int .i64 (p : Int), .bool false] w fun e w' => ∃ g gs, e = .returned (.pointer (some ⟨g, 0, none⟩)) ∧ NewObjs w w' (g :: gs) (memS 0 (256 * p) p (MemP.zero p)) := by
 obtain ⟨Z, hZ⟩ : ∃ Z : List Value, Z = List.replicate (256 * p) (byteV 0) := ⟨_, rfl⟩
 obtain ⟨Y, hY⟩ : ∃ Y : List Value, Y = List.replicate p (intV 0) := ⟨_, rfl⟩
 obtain ⟨n, hn⟩ : ∃ n, n = 256 * p := ⟨_, rfl⟩
 have hmZ : (madeCells (Value.int .u8 0).cells (n * 1)).toList = Z := by rw [hZ, hn]; exact made_zero _ _
 have hmY : (madeCells (Value.int .i64 0).cells (p * 1)).toList = Y := by rw [hY]; exact made_zero _ _
 have h256 : (256 : Int) * (p : Int) = (n : Int) := by omega
 have hfb : Fr.bnd 4 [(1, one (.bool false)), (5, one (.int .i64 (p : Int))), (6, .p (.c (.ref 3 0)))] = true := rfl
 have hsb : sbnd 4 [.cells 5 (Z.map .v), .cells 5 (Z.map .v), .cells 3 (Y.map .v), .cells 125 [.sl 0 0 n n, .v (.slice none 0 0), .sl 1 0 n n, .v (.slice none 0 0), .sl 2 0 p p, .v (.bool false)]] = true := by
  simp only [sbnd, Ow.bnd, bndL_vals, bndL, CV.bnd]; rfl
 refine calls_satq [.int .i64 (p : Int), .bool false] Tryz.func63 Tryz.ntmps63 rfl (by simp) ?_
 refine satq_seq ?_
 conv => whnf
 refine satq_seq ?_
 conv => whnf
 refine op_min rfl rfl rfl rfl ?_
 rw [if_neg (by omega)]
 conv => whnf
 refine op_max rfl rfl rfl rfl ?_
 rw [if_pos (by omega)]
 conv => whnf
 refine satq_mid (α := Unit) (fun _ => [(1, one (.bool false)), (5, one (.int .i64 (p : Int))), (6, .p (.c (.ref 3 0)))]) (fun _ => [.cells 5 (Z.map .v), .cells 5 (Z.map .v), .cells 3 (Y.map .v), .cells 125 [.sl 0 0 n n, .v (.slice none 0 0), .sl 1 0 n n, .v (.slice none 0 0), .sl 2 0 p p, .v (.bool false)]]) ?_ fun _ => ?_
 ·refine satq_vc ?_
  refine sat_anyG (.q 0 (.q 1 (.q 3 (.q 4 (.q 6 (.q 8 (.alt 2 (.alt 5 (.alt 7 (.q 9 (.alt 10 (.q 11 .done) .no)) .no) (.alt 7 (.alt 5 (.q 9 (.alt 10 (.q 11 .done) .no)) .no) .no)) (.alt 5 (.alt 2 (.alt 7 (.q 9 (.alt 10 (.q 11 .done) .no)) .no) (.alt 7 (.alt 2 (.q 9 (.alt 10 (.q 11 .done) .no)) .no) .no)) (.alt 7 (.alt 2 (.alt 5 (.q 9 (.alt 10 (.q 11 .done) .no)) .no) (.alt 5 (.alt 2 (.q 9 (.alt 10 (.q 11 .done) .no)) .no) .no)) .no))))))))) mixed (by kernel_rfl) (by kernel_rfl) ?_
  conv => whnf
  refine ⟨(n : Int), by rw [h256]; exact wr64 (by omega), ?_⟩
  conv => whnf
  refine ⟨(n : Int), by rw [h256]; exact wr64 (by omega), ?_⟩
  conv => whnf
  refine ⟨?_, ?_, ?_, trivial⟩
  ·conv => whnf
   refine op_makeCells 1 n rfl rfl rfl rfl rfl rfl rfl (by omega) (by show 1 * n ≤ _; omega) (by show n ≤ 9223372036854775807; omega) rfl (xs := Z) hmZ ?_
   conv => whnf
   refine ⟨?_, ?_, trivial⟩
   ·conv => whnf
    refine op_makeCells 1 n rfl rfl rfl rfl rfl rfl rfl (by omega) (by show 1 * n ≤ _; omega) (by show n ≤ 9223372036854775807; omega) rfl (xs := Z) hmZ ?_
    conv => whnf
    refine ⟨?_, trivial⟩
    conv => whnf
    refine op_makeCells 1 p rfl rfl rfl rfl rfl rfl rfl (by omega) (by show 8 * p ≤ _; omega) (by show p ≤ 9223372036854775807; omega) rfl (xs := Y) hmY ?_
    conv => whnf
    refine ⟨?_, trivial⟩
    conv => whnf
    exact atq_mid () (ent_ren [0, 1, 2, 3] (aI rfl (aI rfl (aI rfl trivial))) (aI ((Exists.intro _ (aI rfl (aI rfl (Or.inl (renL_vals _ _).symm))))) (aI ((Exists.intro _ (aI rfl (aI rfl (Or.inl (renL_vals _ _).symm))))) (aI ((Exists.intro _ (aI rfl (aI rfl (Or.inl (renL_vals _ _).symm))))) (aI ((Exists.intro _ (aI rfl sM))) trivial)))) hfb hsb rfl rfl rfl)
   ·conv => whnf
    refine op_makeCells 1 p rfl rfl rfl rfl rfl rfl rfl (by omega) (by show 8 * p ≤ _; omega) (by show p ≤ 9223372036854775807; omega) rfl (xs := Y) hmY ?_
    conv => whnf
    refine ⟨?_, trivial⟩
    conv => whnf
    refine op_makeCells 1 n rfl rfl rfl rfl rfl rfl rfl (by omega) (by show 1 * n ≤ _; omega) (by show n ≤ 9223372036854775807; omega) rfl (xs := Z) hmZ ?_
    conv => whnf
    refine ⟨?_, trivial⟩
    conv => whnf
    exact atq_mid () (ent_ren [0, 2, 1, 3] (aI rfl (aI rfl (aI rfl trivial))) (aI ((Exists.intro _ (aI rfl (aI rfl (Or.inl (renL_vals _ _).symm))))) (aI ((Exists.intro _ (aI rfl (aI rfl (Or.inl (renL_vals _ _).symm))))) (aI ((Exists.intro _ (aI rfl (aI rfl (Or.inl (renL_vals _ _).symm))))) (aI ((Exists.intro _ (aI rfl sM))) trivial)))) hfb hsb rfl rfl rfl)
  ·conv => whnf
   refine op_makeCells 1 n rfl rfl rfl rfl rfl rfl rfl (by omega) (by show 1 * n ≤ _; omega) (by show n ≤ 9223372036854775807; omega) rfl (xs := Z) hmZ ?_
   conv => whnf
   refine ⟨?_, ?_, trivial⟩
   ·conv => whnf
    refine op_makeCells 1 n rfl rfl rfl rfl rfl rfl rfl (by omega) (by show 1 * n ≤ _; omega) (by show n ≤ 9223372036854775807; omega) rfl (xs := Z) hmZ ?_
    conv => whnf
    refine ⟨?_, trivial⟩
    conv => whnf
    refine op_makeCells 1 p rfl rfl rfl rfl rfl rfl rfl (by omega) (by show 8 * p ≤ _; omega) (by show p ≤ 9223372036854775807; omega) rfl (xs := Y) hmY ?_
    conv => whnf
    refine ⟨?_, trivial⟩
    conv => whnf
    exact atq_mid () (ent_ren [1, 0, 2, 3] (aI rfl (aI rfl (aI rfl trivial))) (aI ((Exists.intro _ (aI rfl (aI rfl (Or.inl (renL_vals _ _).symm))))) (aI ((Exists.intro _ (aI rfl (aI rfl (Or.inl (renL_vals _ _).symm))))) (aI ((Exists.intro _ (aI rfl (aI rfl (Or.inl (renL_vals _ _).symm))))) (aI ((Exists.intro _ (aI rfl sM))) trivial)))) hfb hsb rfl rfl rfl)
   ·conv => whnf
    refine op_makeCells 1 p rfl rfl rfl rfl rfl rfl rfl (by omega) (by show 8 * p ≤ _; omega) (by show p ≤ 9223372036854775807; omega) rfl (xs := Y) hmY ?_
    conv => whnf
    refine ⟨?_, trivial⟩
    conv => whnf
    refine op_makeCells 1 n rfl rfl rfl rfl rfl rfl rfl (by omega) (by show 1 * n ≤ _; omega) (by show n ≤ 9223372036854775807; omega) rfl (xs := Z) hmZ ?_
    conv => whnf
    refine ⟨?_, trivial⟩
    conv => whnf
    exact atq_mid () (ent_ren [2, 0, 1, 3] (aI rfl (aI rfl (aI rfl trivial))) (aI ((Exists.intro _ (aI rfl (aI rfl (Or.inl (renL_vals _ _).symm))))) (aI ((Exists.intro _ (aI rfl (aI rfl (Or.inl (renL_vals _ _).symm))))) (aI ((Exists.intro _ (aI rfl (aI rfl (Or.inl (renL_vals _ _).symm))))) (aI ((Exists.intro _ (aI rfl sM))) trivial)))) hfb hsb rfl rfl rfl)
  ·conv => whnf
   refine op_makeCells 1 p rfl rfl rfl rfl rfl rfl rfl (by omega) (by show 8 * p ≤ _; omega) (by show p ≤ 9223372036854775807; omega) rfl (xs := Y) hmY ?_
   conv => whnf
   refine ⟨?_, ?_, trivial⟩
   ·conv => whnf
    refine op_makeCells 1 n rfl rfl rfl rfl rfl rfl rfl (by omega) (by show 1 * n ≤ _; omega) (by show n ≤ 9223372036854775807; omega) rfl (xs := Z) hmZ ?_
    conv => whnf
    refine ⟨?_, trivial⟩
    conv => whnf
    refine op_makeCells 1 n rfl rfl rfl rfl rfl rfl rfl (by omega) (by show 1 * n ≤ _; omega) (by show n ≤ 9223372036854775807; omega) rfl (xs := Z) hmZ ?_
    conv => whnf
    refine ⟨?_, trivial⟩
    conv => whnf
    exact atq_mid () (ent_ren [1, 2, 0, 3] (aI rfl (aI rfl (aI rfl trivial))) (aI ((Exists.intro _ (aI rfl (aI rfl (Or.inl (renL_vals _ _).symm))))) (aI ((Exists.intro _ (aI rfl (aI rfl (Or.inl (renL_vals _ _).symm))))) (aI ((Exists.intro _ (aI rfl (aI rfl (Or.inl (renL_vals _ _).symm))))) (aI ((Exists.intro _ (aI rfl sM))) trivial)))) hfb hsb rfl rfl rfl)
   ·conv => whnf
    refine op_makeCells 1 n rfl rfl rfl rfl rfl rfl rfl (by omega) (by show 1 * n ≤ _; omega) (by show n ≤ 9223372036854775807; omega) rfl (xs := Z) hmZ ?_
    conv => whnf
    refine ⟨?_, trivial⟩
    conv => whnf
    refine op_makeCells 1 n rfl rfl rfl rfl rfl rfl rfl (by omega) (by show 1 * n ≤ _; omega) (by show n ≤ 9223372036854775807; omega) rfl (xs := Z) hmZ ?_
    conv => whnf
    refine ⟨?_, trivial⟩
    conv => whnf
    exact atq_mid () (ent_ren [2, 1, 0, 3] (aI rfl (aI rfl (aI rfl trivial))) (aI ((Exists.intro _ (aI rfl (aI rfl (Or.inl (renL_vals _ _).symm))))) (aI ((Exists.intro _ (aI rfl (aI rfl (Or.inl (renL_vals _ _).symm))))) (aI ((Exists.intro _ (aI rfl (aI rfl (Or.inl (renL_vals _ _).symm))))) (aI ((Exists.intro _ (aI rfl sM))) trivial)))) hfb hsb rfl rfl rfl)
 refine satq_vc ?_
 conv => whnf
 refine ⟨fun _ => ?_, fun h => absurd h (by decide)⟩
 conv => whnf
 refine ⟨(n : Int), by rw [h256]; exact wr64 (by omega), ?_⟩
 conv => whnf
 refine op_makeCells 1 n rfl rfl rfl rfl rfl rfl rfl (by omega) (by show 1 * n ≤ _; omega) (by show n ≤ 9223372036854775807; omega) rfl (xs := Z) hmZ ?_
 conv => whnf
 refine ⟨(n : Int), by rw [h256]; exact wr64 (by omega), ?_⟩
 conv => whnf
 refine op_makeCells 1 n rfl rfl rfl rfl rfl rfl rfl (by omega) (by show 1 * n ≤ _; omega) (by show n ≤ 9223372036854775807; omega) rfl (xs := Z) hmZ ?_
 conv => whnf
 have hd : (MemP.zero p).dV = Z := by rw [hZ]; exact (List.append_nil _).trans List.map_replicate
 have hi : (MemP.zero p).iV = Z := by rw [hZ]; exact (List.append_nil _).trans List.map_replicate
 have hod : (MemP.zero p).odV = Z := by rw [hZ]; exact (List.append_nil _).trans List.map_replicate
 have hoi : (MemP.zero p).oiV = Z := by rw [hZ]; exact (List.append_nil _).trans List.map_replicate
 have hr : (MemP.zero p).rV = Y := by rw [hY]; exact (List.append_nil _).trans List.map_replicate
 rw [← hn]
 refine atq_as (f' := [(4, .p (.c (.ref 0 0)))]) (S' := memS 0 n p (MemP.zero p)) (ent_ren [3, 0, 4, 1, 5, 2] (aI rfl trivial) (aI ((Exists.intro _ (aI rfl sM))) (aI ((Exists.intro _ (aI rfl (aI rfl (Or.inl (by rw [hd]; exact (renL_vals _ _).symm)))))) (aI ((Exists.intro _ (aI rfl (aI rfl (Or.inl (by rw [hi]; exact (renL_vals _ _).symm)))))) (aI ((Exists.intro _ (aI rfl (aI rfl (Or.inl (by rw [hod]; exact (renL_vals _ _).symm)))))) (aI ((Exists.intro _ (aI rfl (aI rfl (Or.inl (by rw [hoi]; exact (renL_vals _ _).symm)))))) (aI ((Exists.intro _ (aI rfl (aI rfl (Or.inl (by rw [hr]; exact (renL_vals _ _).symm)))))) trivial)))))) rfl (memS_bnd n p _) rfl rfl rfl) (atq_ret ?_)
 conv => whnf
 exact fin_newObjs 0 (memS 0 n p (MemP.zero p)) (memS 0 n p (MemP.zero p)) (by simp) (fun i hi => by rw [Nat.zero_add]) (memS_sh 0 n p _) (memS_ob n p _) fun w' g gs h => ⟨g, gs, rfl, h⟩
end Go.Proofs.YtnhdcclpjildjaaGreat
