/- The lifter's block: arithmetic. -/
import Derived.Test.YtnhdcclpjildjaaGreatC13
namespace Go.Proofs.YtnhdcclpjildjaaGreat
open Go.RowKit

structure LSt (w w' : World) (g : Nat) (vA vP vO : Value) (l' : List BOp) (pb : Nat) (us : List Value) (t : TypeId) : Prop where
 lift : LiftTo w w' g vA vP vO l'
 box : w'.heap[pb]? = some (.cells us.toArray t (0, 0))
 lt : pb < w.heap.size
 ne : pb ≠ g
 no : vO.ownBlock ≠ some pb
section
variable {w : World} {g : Nat} {vA vP vO : Value} {l : List BOp} {pb : Nat} {us : List Value} {t : TypeId}
theorem LSt.later {w1 w2 : World} {l1 : List BOp} (h : LSt w w1 g vA vP vO l1 pb us t) (hB : Below w1.heap.size w1 w2) : LSt w w2 g vA vP vO l1 pb us t :=
 ⟨h.lift.later hB, (hB.block pb (heap_lt h.box)).trans h.box, h.lt, h.ne, h.no⟩
theorem LSt.step {w1 : World} {l1 : List BOp} (h : LSt w w1 g vA vP vO l1 pb us t) : ∃ vO1, LiftAt w1 g vA vP vO1 l1 ∧ ∀ w2 l2, LiftTo w1 w2 g vA vP vO1 l2 → LSt w w2 g vA vP vO l2 pb us t := by
 obtain ⟨vO1, k1, k2⟩ := h.lift.out
 have hfar : vO1.ownBlock ≠ some pb := fun e => by
  rcases k2 pb e with h1 | h1
  ·exact h.no h1
  ·have := h.lt; omega
 exact ⟨vO1, k1, fun w2 l2 k => ⟨h.lift.then k2 k, (k.block pb (heap_lt h.box) h.ne hfar).trans h.box, h.lt, h.ne, h.no⟩⟩
theorem box_ok {w1 : World} (h : LiftAt w g vA vP vO l) (hB : Below w.heap.size w w1) (hb : w1.heap[pb]? = some (.cells us.toArray t (0, 0))) (hn : w.heap.size ≤ pb) : LSt w1 w1 g vA vP vO l pb us t :=
 ⟨LiftTo.refl (h.later hB) (Below.refl _ _), hb, heap_lt hb, fun e => by have := h.lt; omega, fun e => by have := (own_new h.row pb e).2; omega⟩
theorem fresh_of {w1 : World} {S : List Ow} {r : Env} (hR : Rel w Gs.nil S r w1) {i b : Nat} (hb : r.blk i = some b) : w.heap.size ≤ b := by
 rcases Nat.lt_or_ge b w.heap.size with h1 | h1
 ·rcases (hR.new i b hb).2 h1 with h2 | h2 <;> cases h2
 ·exact h1
abbrev qiT : TypeId := 62
set_option maxRecDepth 100000 in
set_option maxHeartbeats 1000000 in
theorem arith_walk (h : LiftAt w g vA vP vO l) (i : QI) (hlen : l.length ≤ 100000000) :
  Calls Tryz.prog 99 #[pV g, intV (qCode i.op), qiV i] w fun e w' => e = .returned (.tuple #[]) ∧ LiftTo w w' g vA vP vO (l ++ qArith i) := by
 refine calls_satq [pV g, intV (qCode i.op), qiV i] Tryz.func99 Tryz.ntmps99 rfl (by simp) ?_
 refine satq_seqN ?_
 conv => whnf
 refine satq_restart fun r w1 hR => ?_
 obtain ⟨pb, us, e1, e2, e3⟩ := hR.own 0 _ rfl
 obtain rfl := denL_vals_inv (us := qiL i) e3
 have hB1 := hR.toBelow
 have hs := box_ok h hB1 e2 (fresh_of hR e1)
 refine ⟨slotFr [(0, pV g), (1, intV (qCode i.op)), (5, pV pb)], fun a' hf => slots_den ⟨slot_val hf rfl, slot_val hf rfl, slot_ref hf 5 rfl e1, trivial⟩, ?_⟩
 clear hR e3
 refine satq_seqN ?_
 conv => whnf
 refine ⟨_, block_cells hs.box (off := 0 + 3) (x := intV i.b) rfl, ?_⟩
 conv => whnf
 refine satq_midW (α := Unit) (fun _ => [(0, one (pV g)), (1, one (intV (qCode i.op))), (5, one (pV pb)), (6, one (intV i.b))]) (fun _ w2 => LSt w1 w2 g vA vP vO (l ++ if i.op = 10 then [⟨21, 0, i.b, 0, 0⟩] else []) pb (qiL i) qiT) ?_ fun _ w2 hs2 => ?_
 ·refine satq_seqN ?_
  conv => whnf
  refine ⟨_, block_cells hs.box (off := 0 + 0) (x := intV i.op) rfl, ?_⟩
  conv => whnf
  refine satq_cond rfl (fun hc => ?_) (fun hc => ?_)
  ·have ho : i.op = 10 := by simpa using hc
   rw [if_pos ho]
   refine satq_jump 4 rfl rfl rfl ?_
   conv => whnf
   obtain ⟨vO1, k1, k2⟩ := hs.step
   refine jmp_add (h.later hB1) [⟨21, 0, i.b, 0, 0⟩] 0 1 rfl rfl (by omega) fun w2 hl => ?_
   conv => whnf
   refine atq_midW () (aI rfl (aI rfl (aI rfl (aI rfl trivial)))) fun r w3 hR => ?_
   exact (LSt.mk hl ((hl.block pb hs.lt hs.ne hs.no).trans hs.box) hs.lt hs.ne hs.no).later hR.toBelow
  ·have ho : ¬ i.op = 10 := by simpa using hc
   rw [if_neg ho, List.append_nil]
   refine satq_skip (atq_midW () (aI rfl (aI rfl (aI rfl (aI rfl trivial)))) fun r w3 hR => ?_)
   exact hs.later hR.toBelow
 have hgl : (l ++ if i.op = 10 then [(⟨21, 0, i.b, 0, 0⟩ : BOp)] else []).length ≤ 100000001 := by
  rw [List.length_append]; split
  ·simp; omega
  ·simp; omega
 have hq : qArith i = (if i.op = 10 then [⟨21, 0, i.b, 0, 0⟩] else []) ++ (if i.d = 0 then [] else if 16 ≤ i.op then [⟨1, 20, 0, 0, i.imm⟩, ⟨qCode i.op, i.d, i.a, 20, 0⟩] else [⟨qCode i.op, i.d, i.a, i.b, 0⟩]) := rfl
 rw [hq, ← List.append_assoc]
 generalize (l ++ if i.op = 10 then [(⟨21, 0, i.b, 0, 0⟩ : BOp)] else []) = l1 at hgl hs2 ⊢
 refine satq_seqN ?_
 conv => whnf
 refine ⟨_, block_cells hs2.box (off := 0 + 1) (x := intV i.d) rfl, ?_⟩
 conv => whnf
 refine ⟨fun hc => ?_, fun hc => ?_⟩
 ·have hd : i.d = 0 := by simpa using hc
  rw [if_pos hd, List.append_nil]
  conv => whnf
  refine atq_ret ?_
  conv => whnf
  exact fin_val rfl fun w3 hB => ⟨rfl, (hs2.lift.early hB1).later hB⟩
 have hd : ¬ i.d = 0 := by simpa using hc
 rw [if_neg hd]
 conv => whnf
 refine satq_midW (α := Unit) (fun _ => [(0, one (pV g)), (1, one (intV (qCode i.op))), (5, one (pV pb)), (6, one (intV (if 16 ≤ i.op then 20 else i.b)))]) (fun _ w3 => LSt w1 w3 g vA vP vO (l1 ++ if 16 ≤ i.op then [⟨1, 20, 0, 0, i.imm⟩] else []) pb (qiL i) qiT) ?_ fun _ w3 hs3 => ?_
 ·refine satq_seqN ?_
  conv => whnf
  refine ⟨_, block_cells hs2.box (off := 0 + 0) (x := intV i.op) rfl, ?_⟩
  conv => whnf
  refine satq_cond rfl (fun hc => ?_) (fun hc => ?_)
  ·have ho : 16 ≤ i.op := by simpa using hc
   rw [if_pos ho, if_pos ho]
   refine satq_seqN ?_
   conv => whnf
   refine satq_jump 6 rfl rfl rfl ?_
   conv => whnf
   refine ⟨_, block_cells hs2.box (off := 0 + 4) (x := .int .u32 i.imm) rfl, ?_⟩
   conv => whnf
   obtain ⟨vO1, k1, k2⟩ := hs2.step
   refine jmp_add k1 [⟨1, 20, 0, 0, i.imm⟩] 0 1 rfl rfl (by omega) fun w3 hl => ?_
   conv => whnf
   refine atq_midW () (aI rfl (aI rfl (aI rfl (aI rfl trivial)))) fun r w4 hR => ?_
   exact (k2 _ _ hl).later hR.toBelow
  ·have ho : ¬ 16 ≤ i.op := by simpa using hc
   rw [if_neg ho, if_neg ho, List.append_nil]
   refine satq_skip (atq_midW () (aI rfl (aI rfl (aI rfl (aI rfl trivial)))) fun r w4 hR => ?_)
   exact hs2.later hR.toBelow
 refine satq_jump 9 rfl rfl rfl ?_
 conv => whnf
 refine ⟨_, block_cells hs3.box (off := 0 + 1) (x := intV i.d) rfl, ?_⟩
 conv => whnf
 refine ⟨_, block_cells hs3.box (off := 0 + 2) (x := intV i.a) rfl, ?_⟩
 conv => whnf
 obtain ⟨vO1, k1, k2⟩ := hs3.step
 refine jmp_add k1 [⟨qCode i.op, i.d, i.a, if 16 ≤ i.op then 20 else i.b, 0⟩] 0 1 rfl rfl (by rw [List.length_append]; split <;> simp <;> omega) fun w4 hl => ?_
 have hfin := k2 _ _ hl
 have e : l1 ++ (if 16 ≤ i.op then [⟨1, 20, 0, 0, i.imm⟩] else []) ++ [(⟨qCode i.op, i.d, i.a, if 16 ≤ i.op then 20 else i.b, 0⟩ : BOp)] = l1 ++ (if 16 ≤ i.op then [⟨1, 20, 0, 0, i.imm⟩, ⟨qCode i.op, i.d, i.a, 20, 0⟩] else [⟨qCode i.op, i.d, i.a, i.b, 0⟩]) := by
  split <;> simp
 rw [e] at hfin
 conv => whnf
 refine atq_end ?_
 conv => whnf
 exact fin_val rfl fun w5 hB => ⟨rfl, (hfin.lift.early hB1).later hB⟩
end
end Go.Proofs.YtnhdcclpjildjaaGreat
namespace Go.Proofs.YtnhdcclpjildjaaGreat
open Go.RowKit

abbrev liT : TypeId := 138
abbrev opT : TypeId := 45
section
variable {w0 : World} {G : Gs} {S : List Ow} {r : Env} {w : World}
theorem lift_at (h : Rel w0 G S r w) {c o : Nat} {x y : CV} {l : List BOp} (h0 : S[c]? = some (.cells liT [x, y, .row o])) (ho : S[o]? = some (.row opT 5 l.length (l.flatMap opC))) (hco : c ≠ o) : ∃ g vA vP vO, r.blk c = some g ∧ r.val o = some vO ∧ x.den r vA ∧ y.den r vP ∧ vO.ownBlock = r.blk o ∧ LiftAt w g vA vP vO l := by
 obtain ⟨g, us, e1, e2, e3⟩ := h.own c _ h0
 simp only [denL] at e3
 obtain ⟨u1, l1, rfl, d1, u2, l2, rfl, d2, u3, l3, rfl, d3, rfl⟩ := e3
 obtain ⟨vO, k1, k2, k3⟩ := h.own o _ ho
 have d3 : r.val o = some u3 := d3
 rw [d3] at k1; injection k1 with k1; subst k1
 refine ⟨g, u1, u2, u3, e1, d3, d1, d2, k2, e2, k3, fun e => ?_⟩
 rw [k2] at e
 exact hco (h.inj c o g e1 e)
theorem rel_lifted (h : Rel w0 G S r w) {c o g : Nat} {x y : CV} {n : Nat} {xs : List Value} {l' : List BOp} {w' : World} {vA vP vO : Value} (h0 : S[c]? = some (.cells liT [x, y, .row o])) (hS : S[o]? = some (.row opT 5 n xs)) (hco : c ≠ o) (hG : G.fix.length ≤ o) (hx : x.names o = false) (hy : y.names o = false)
  (hg : r.blk c = some g) (hvO : r.val o = some vO) (hdA : x.den r vA) (hdP : y.den r vP) (hob : vO.ownBlock = r.blk o) (hl : LiftTo w w' g vA vP vO l') :
  ∃ r2, Rel w0 G (((killS o S).set o (.row opT 5 l'.length (l'.flatMap opC))).set c (.cells liT [x, y, .row o])) r2 w' ∧ But o r r2 := by
 obtain ⟨vO', hat, hb⟩ := hl.out
 have hbut : But o r (r.set o vO'.ownBlock (some vO')) := fun j hj => by simp [Env.set, hj]
 have hil : o < S.length := by
  rcases Nat.lt_or_ge o S.length with h1 | h1
  ·exact h1
  ·rw [List.getElem?_eq_none h1] at hS; cases hS
 have hcl : c < S.length := by
  rcases Nat.lt_or_ge c S.length with h1 | h1
  ·exact h1
  ·rw [List.getElem?_eq_none h1] at h0; cases h0
 have hnewlt : ∀ x, vO'.ownBlock = some x → x < w'.heap.size := fun x hx => (own_new hat.row x hx).2
 have hblk : ∀ j b, r.blk j = some b → j ≠ o → j ≠ c → w'.heap[b]? = w.heap[b]? := fun j b hb hj hj0 => hl.block b (h.new j b hb).1 (fun e => hj0 (h.inj j c b hb (by rw [hg, e]))) (fun e => hj (h.inj j o b hb (by rw [← hob]; exact e)))
 refine ⟨_, ⟨hl.os.trans h.os, hl.tape.trans h.tape, hl.output.trans h.output, Nat.le_trans h.size hl.size, fun k hk hkG => ?_, fun j ow hj => ?_, fun a b x ha hb' => ?_, fun j x hj => ?_, fun j hj => ?_, fun j hj => ?_, fun j g hj => ?_⟩, hbut⟩
 ·rw [hl.block k (Nat.lt_of_lt_of_le hk h.size) (fun e => hkG ((h.new c k (by rw [hg, e])).2 hk)) (fun e => hkG ((h.new o k (by rw [← hob]; exact e)).2 hk))]
  exact h.old k hk hkG
 ·by_cases hj0 : j = c
  ·subst hj0
   rw [List.getElem?_set_self (by simp [killS_length]; exact hcl)] at hj
   injection hj with hj; subst hj
   refine ⟨g, [vA, vP, vO'], by rw [← (hbut _ hco).1]; exact hg, hat.blk, ?_⟩
   simp only [denL]
   exact ⟨_, _, rfl, CV.den_but hbut x vA hx hdA, _, _, rfl, CV.den_but hbut y vP hy hdP, _, _, rfl, by simp [CV.den, Env.set], rfl⟩
  ·rw [List.getElem?_set_ne (fun e => hj0 e.symm)] at hj
   by_cases hij : o = j
   ·subst hij
    rw [List.getElem?_set_self (by rw [killS_length]; exact hil)] at hj
    injection hj with hj; subst hj
    exact ⟨vO', by simp [Env.set], by simp [Env.set], hat.row⟩
   ·rw [List.getElem?_set_ne hij, killS_get] at hj
    cases hSj : S[j]? with
    | none => rw [hSj] at hj; cases hj
    | some o' =>
     rw [hSj] at hj
     simp at hj; subst hj
     have h1 := Ow.holds_block (h.own j o' hSj) (fun x hx => hblk j x hx (Ne.symm hij) hj0) hl.size (fun x hx hno => hl.block x hx (fun e => hno c (by rw [hg, e])) (fun e => hno o (by rw [← hob]; exact e)))
     cases o' with
     | view φ m ys =>
      obtain ⟨A, cp, h2, h3, h4, h5, h6⟩ := h.own j _ hSj
      refine ⟨A, cp, by rw [← (hbut j (Ne.symm hij)).2]; exact h2, h3, h4, by rw [← (hbut j (Ne.symm hij)).1]; exact h5, fun k u hk => ?_⟩
      obtain ⟨b, off, h7, h8, h9, h10⟩ := h6 k u hk
      refine ⟨b, off, h7, Nat.lt_of_lt_of_le h8 hl.size, fun q hq => ?_, (World.cell?_of_block (w := w) (a := ⟨b, off + k, none⟩) (hl.block b h8 (fun e => h9 c (by rw [hg, e])) (fun e => h9 o (by rw [← hob]; exact e)))).trans h10⟩
      by_cases hqi : q = o
      ·subst hqi
       simp [Env.set] at hq
       rcases hb b hq with hb | hb
       ·exact h9 q (by rw [← hob]; exact hb)
       ·omega
      ·exact h9 q (by rw [(hbut q hqi).1]; exact hq)
     | cells t l => obtain ⟨b, us, h2, h3, h4⟩ := h1; exact ⟨b, us, by rw [← (hbut j (Ne.symm hij)).1]; exact h2, h3, killL_den hbut h4⟩
     | row e s n xs => obtain ⟨v, h2, h3, h4⟩ := h1; exact ⟨v, by rw [← (hbut j (Ne.symm hij)).2]; exact h2, by rw [← (hbut j (Ne.symm hij)).1]; exact h3, h4⟩
     | ext φ => obtain ⟨b, h2, h3⟩ := h1; exact ⟨b, by rw [← (hbut j (Ne.symm hij)).1]; exact h2, h3⟩
     | gone => trivial
 ·have fresh : ∀ j x, j ≠ o → r.blk j = some x → vO'.ownBlock = some x → False := fun j x hj hx he => by
   rcases hb x he with hb | hb
   ·rw [hob] at hb; exact hj (h.inj j o x hx hb)
   ·have := (h.new j x hx).1; omega
  simp only [Env.set] at ha hb'
  split at ha <;> split at hb'
  ·omega
  ·exact (fresh b x (by assumption) hb' ha).elim
  ·exact (fresh a x (by assumption) ha hb').elim
  ·exact h.inj a b x ha hb'
 ·simp only [Env.set] at hj
  split at hj
  ·refine ⟨hnewlt x hj, fun hlt => ?_⟩
   rcases hb x hj with hb | hb
   ·rw [hob] at hb; exact (h.new o x hb).2 hlt
   ·have := h.size; omega
  ·exact ⟨Nat.lt_of_lt_of_le (h.new j x hj).1 hl.size, (h.new j x hj).2⟩
 ·have hj' : S.length ≤ j := by simpa [killS_length] using hj
  simp only [Env.set]; rw [if_neg (by omega)]; exact h.outB j hj'
 ·have hj' : S.length ≤ j := by simpa [killS_length] using hj
  simp only [Env.set]; rw [if_neg (by omega)]; exact h.outV j hj'
 ·have : j < G.fix.length := by
   rcases Nat.lt_or_ge j G.fix.length with h1 | h1
   ·exact h1
   ·rw [List.getElem?_eq_none h1] at hj; cases hj
  simp only [Env.set]; rw [if_neg (by omega)]; exact h.first j g hj
end
section
variable {w0 : World} {G : Gs} {f : Fr} {S : List Ow} {K : AV → Fr → List Ow → Prop}
theorem kill_add (c o j n : Nat) {x y : CV} {l : List BOp} (ops : List BOp) (h0 : S[c]? = some (.cells liT [x, y, .row o])) (ho : S[o]? = some (.row opT 5 l.length (l.flatMap opC))) (hj : S[j]? = some (.cells opT ((ops.flatMap opC).map .v))) (hn : ops.length = n) (hjo : j ≠ c ∧ j ≠ o ∧ c ≠ o) (hG : G.fix.length ≤ o) (hx : x.names o = false) (hy : y.names o = false) (hlen : l.length + n ≤ 1000000000)
  (hK : forceL (((killS o S).set o (.row opT 5 (l ++ ops).length ((l ++ ops).flatMap opC))).set c (.cells liT [x, y, .row o])) fun S2 => fillF o f fun f2 => K (.tup []) f2 S2) : KillS Tryz.prog w0 G 71 [.p (.c (.ref c 0)), .p (.c (.sl j 0 n n))] f S K := by
 rw [forceL_iff, fillF_iff] at hK
 refine ⟨by kernel_rfl, fun r w us hR hd => ?_⟩
 obtain ⟨u1, l1, rfl, d1, d2⟩ := hd
 obtain ⟨u2, l2, rfl, d3, d4⟩ := d2
 obtain rfl : l2 = [] := d4
 obtain ⟨g, vA, vP, vO, k1, k2, k3, k4, k5, k6⟩ := lift_at hR h0 ho hjo.2.2
 obtain ⟨b', hb', rfl⟩ := den_ref d1
 rw [k1] at hb'; injection hb' with hb'; subst hb'
 obtain ⟨q, hq, rfl⟩ := den_sl d3
 obtain ⟨q', vs, e1, e2, e3⟩ := hR.own j _ hj
 rw [hq] at e1; injection e1 with e1; subst e1
 obtain rfl := denL_vals_inv e3
 have hcells : CellsAt w (liftG g vO) q 0 (ops.flatMap opC) := by
  refine ⟨(hR.new j q hq).1, ?_, fun i u hi => by simp [World.cell?, e2, hi]⟩
  rintro (h3 | h3)
  ·simp at h3; subst h3; exact hjo.1 (hR.inj _ _ _ hq k1)
  ·simp at h3; exact hjo.2.1 (hR.inj j o q hq (by rw [← k5]; exact h3))
 refine (add_walk k6 ops q n n hcells hn hlen).mono fun e w2 ⟨he, hl⟩ => ?_
 obtain ⟨r2, hR2, hbut⟩ := rel_lifted hR h0 ho hjo.2.2 hG hx hy k1 k2 k3 k4 k5 hl
 exact ⟨_, .tup [], _, _, r2, he, hR2, fun a hf => hf.kill hbut, ⟨_, rfl, rfl⟩, hK⟩
theorem kill_lift (c o : Nat) {x y : CV} {l : List BOp} (l2 : List BOp) (v : Value) {fid : FuncId} {args : List AV} {us : List Value} (h0 : S[c]? = some (.cells liT [x, y, .row o])) (ho : S[o]? = some (.row opT 5 l.length (l.flatMap opC))) (hco : c ≠ o) (hG : G.fix.length ≤ o) (hx : x.names o = false) (hy : y.names o = false) (hu : avals args = some us) (hok : fnOk Tryz.prog fid = true)
  (h : ∀ w g vA vP vO, LiftAt w g vA vP vO l → Calls Tryz.prog fid (pV g :: us).toArray w fun e w' => e = .returned v ∧ LiftTo w w' g vA vP vO l2)
  (hK : forceL (((killS o S).set o (.row opT 5 l2.length (l2.flatMap opC))).set c (.cells liT [x, y, .row o])) fun S2 => fillF o f fun f2 => K (AV.of v) f2 S2) : KillS Tryz.prog w0 G fid (.p (.c (.ref c 0)) :: args) f S K := by
 rw [forceL_iff, fillF_iff] at hK
 refine ⟨hok, fun r w us hR hd => ?_⟩
 obtain ⟨u1, l1, rfl, d1, d2⟩ := hd
 obtain rfl := avals_den hu d2
 obtain ⟨g, vA, vP, vO, k1, k2, k3, k4, k5, k6⟩ := lift_at hR h0 ho hco
 obtain ⟨b', hb', rfl⟩ := den_ref d1
 rw [k1] at hb'; injection hb' with hb'; subst hb'
 refine (h w g vA vP vO k6).mono fun e w2 ⟨he, hl⟩ => ?_
 obtain ⟨r2, hR2, hbut⟩ := rel_lifted hR h0 ho hco hG hx hy k1 k2 k3 k4 k5 hl
 exact ⟨_, _, _, _, r2, he, hR2, fun a hf => hf.kill hbut, AV.of_den _ _, hK⟩
end
end Go.Proofs.YtnhdcclpjildjaaGreat
namespace Go.Proofs
open Go.Shelf Go.Lib
def Tryz.laysSort_ren : Go.Shelf.Ren := ⟨fun | 189 => 102 | 125 => 120 | 257 => 119 | 128 => 132 | 129 => 133 | 294 => 123 | 295 => 124 | 296 => 125 | 297 => 126 | 298 => 127 | 299 => 128 | 216 => 129 | 300 => 130 | 301 => 131 | 328 => 137 | 329 => 138 | 330 => 139 | 331 => 140 | 332 => 141 | 215 => 142 | 343 => 144 | n => n, fun | 28 => 29 | 3 => 3 | 46 => 116 | 0 => 0 | 51 => 35 | 53 => 155 | 4 => 4 | 183 => 199 | 182 => 198 | 131 => 175 | 5 => 5 | 9 => 9 | 218 => 207 | 222 => 211 | 228 => 213 | 229 => 214 | n => n, fun n => n⟩
theorem Tryz.laysSort : Lays.n189 Tryz.prog Tryz.laysSort_ren where
 mixed := by kernel_rfl
 f125 := Tryz.func120.trans (congrArg some (by kernel_rfl))
 f128 := Tryz.func132.trans (congrArg some (by kernel_rfl))
 f129 := Tryz.func133.trans (congrArg some (by kernel_rfl))
 f189 := Tryz.func102.trans (congrArg some (by kernel_rfl))
 f215 := Tryz.func142.trans (congrArg some (by kernel_rfl))
 f216 := Tryz.func129.trans (congrArg some (by kernel_rfl))
 f257 := Tryz.func119.trans (congrArg some (by kernel_rfl))
 f294 := Tryz.func123.trans (congrArg some (by kernel_rfl))
 f295 := Tryz.func124.trans (congrArg some (by kernel_rfl))
 f296 := Tryz.func125.trans (congrArg some (by kernel_rfl))
 f297 := Tryz.func126.trans (congrArg some (by kernel_rfl))
 f298 := Tryz.func127.trans (congrArg some (by kernel_rfl))
 f299 := Tryz.func128.trans (congrArg some (by kernel_rfl))
 f300 := Tryz.func130.trans (congrArg some (by kernel_rfl))
 f301 := Tryz.func131.trans (congrArg some (by kernel_rfl))
 f328 := Tryz.func137.trans (congrArg some (by kernel_rfl))
 f329 := Tryz.func138.trans (congrArg some (by kernel_rfl))
 f330 := Tryz.func139.trans (congrArg some (by kernel_rfl))
 f331 := Tryz.func140.trans (congrArg some (by kernel_rfl))
 f332 := Tryz.func141.trans (congrArg some (by kernel_rfl))
 f343 := Tryz.func144.trans (congrArg some (by kernel_rfl))
 t0 := Tryz.underlying0
 a0 := Tryz.isAgg0
 z0 := Tryz.sizeOf0
 v0 := Tryz.zeroValue0
 t3 := Tryz.underlying3
 a3 := Tryz.isAgg3
 z3 := Tryz.sizeOf3
 v3 := Tryz.zeroValue3
 t4 := Tryz.underlying4
 a4 := Tryz.isAgg4
 z4 := Tryz.sizeOf4
 v4 := Tryz.zeroValue4
 t5 := Tryz.underlying5
 a5 := Tryz.isAgg5
 z5 := Tryz.sizeOf5
 v5 := Tryz.zeroValue5
 t9 := Tryz.underlying9
 a9 := Tryz.isAgg9
 z9 := Tryz.sizeOf9
 v9 := Tryz.zeroValue9
 t28 := Tryz.underlying29
 a28 := Tryz.isAgg29
 z28 := Tryz.sizeOf29
 v28 := Tryz.zeroValue29
 t46 := Tryz.underlying116
 a46 := Tryz.isAgg116
 z46 := Tryz.sizeOf116
 v46 := Tryz.zeroValue116
 t51 := Tryz.underlying35
 a51 := Tryz.isAgg35
 z51 := Tryz.sizeOf35
 v51 := Tryz.zeroValue35
 t53 := Tryz.underlying155
 a53 := Tryz.isAgg155
 z53 := Tryz.sizeOf155
 v53 := Tryz.zeroValue155
 t131 := Tryz.underlying175
 a131 := Tryz.isAgg175
 z131 := Tryz.sizeOf175
 v131 := Tryz.zeroValue175
 t182 := Tryz.underlying198
 a182 := Tryz.isAgg198
 z182 := Tryz.sizeOf198
 v182 := Tryz.zeroValue198
 t183 := Tryz.underlying199
 a183 := Tryz.isAgg199
 z183 := Tryz.sizeOf199
 v183 := Tryz.zeroValue199
 t218 := Tryz.underlying207
 a218 := Tryz.isAgg207
 z218 := Tryz.sizeOf207
 v218 := Tryz.zeroValue207
 t222 := Tryz.underlying211
 a222 := Tryz.isAgg211
 z222 := Tryz.sizeOf211
 v222 := Tryz.zeroValue211
 t228 := Tryz.underlying213
 a228 := Tryz.isAgg213
 z228 := Tryz.sizeOf213
 v228 := Tryz.zeroValue213
 t229 := Tryz.underlying214
 a229 := Tryz.isAgg214
 z229 := Tryz.sizeOf214
 v229 := Tryz.zeroValue214
def Tryz.laysCompact_ren : Go.Shelf.Ren := ⟨fun | 20 => 103 | n => n, fun | 22 => 29 | 3 => 3 | 4 => 4 | 0 => 0 | n => n, fun n => n⟩
theorem Tryz.laysCompact : Lays2.n20 Tryz.prog Tryz.laysCompact_ren where
 mixed := by kernel_rfl
 f20 := Tryz.func103.trans (congrArg some (by kernel_rfl))
 t0 := Tryz.underlying0
 a0 := Tryz.isAgg0
 z0 := Tryz.sizeOf0
 v0 := Tryz.zeroValue0
 t3 := Tryz.underlying3
 a3 := Tryz.isAgg3
 z3 := Tryz.sizeOf3
 v3 := Tryz.zeroValue3
 t4 := Tryz.underlying4
 a4 := Tryz.isAgg4
 z4 := Tryz.sizeOf4
 v4 := Tryz.zeroValue4
 t22 := Tryz.underlying29
 a22 := Tryz.isAgg29
 z22 := Tryz.sizeOf29
 v22 := Tryz.zeroValue29
 i3 := by kernel_rfl
end Go.Proofs
namespace Go.Proofs.YtnhdcclpjildjaaGreat
open Go.RowKit

theorem sort_row (w : World) (v : Value) (zs : List Int) (hn : zs.length ≤ 1000000) (h : w.ownsRow 0 3 1 v zs.length (zs.map intV)) :
  Calls Tryz.prog 102 #[v] w fun e w' => e = .returned (.tuple #[]) ∧ w'.ownsRow 0 3 1 v zs.length ((zs.mergeSort fun x y => decide (x ≤ y)).map intV) ∧ w.grownBy w' v.ownBlock := by
 rcases h.2 with ⟨rfl, h0⟩ | ⟨g, cap, cur, rfl, hg, hh, hnc, hcap, hsz, htake⟩
 ·have : zs = [] := List.eq_nil_of_length_eq_zero h0
  subst this
  refine (Any.slices_Sort_int_none Tryz.laysSort none 0 w).mono fun e w' ⟨h3, h4⟩ => ⟨h3, ⟨by simp, .inl ⟨rfl, rfl⟩⟩, ?_⟩
  rw [h4]; exact World.grownBy.refl _ _
 ·obtain ⟨g', cap', e1, _, hlt, _, _, _, hH⟩ := Lib.holds_of_ownsRow (enc := Value.int .i64) h (by simp)
  injection e1 with e1 _ e2
  injection e1 with e1; injection e1 with e1
  subst e1; subst e2
  refine (Any.slices_Sort_int Tryz.laysSort g 0 cap zs w hH hlt (by omega)).mono fun e w' ⟨h3, n, os, h4⟩ => ⟨h3, ?_, ?_⟩
  ·rw [h4]; exact Go.ownsRow_sortedI (by simp) hg hh hnc hcap hsz
  ·rw [h4]; exact Go.grownBy_sortedI _
theorem compact_row (w : World) (v : Value) (zs : List Int) (hn : zs.length ≤ 1000000) (h : w.ownsRow 0 3 1 v zs.length (zs.map intV)) :
  Calls Tryz.prog 103 #[v] w fun e w' => ∃ v', e = .returned v' ∧ w'.ownsRow 0 3 1 v' (Lib.compact zs).length ((Lib.compact zs).map intV) ∧ w.grownBy w' v.ownBlock ∧ v'.ownBlock = v.ownBlock := by
 rcases h.2 with ⟨rfl, h0⟩ | ⟨g, cap, cur, rfl, hg, hh, hnc, hcap, hsz, htake⟩
 ·have : zs = [] := List.eq_nil_of_length_eq_zero h0
  subst this
  refine (Any.slices_Compact_int_empty Tryz.laysCompact none 0 w).mono fun e w' ⟨h3, h4⟩ => ⟨_, h3, ⟨rfl, .inl ⟨rfl, rfl⟩⟩, ?_, rfl⟩
  rw [h4]; exact World.grownBy.refl _ _
 ·obtain ⟨g', cap', e1, _, hlt, _, _, _, hH⟩ := Lib.holds_of_ownsRow (enc := Value.int .i64) h (by simp)
  injection e1 with e1 _ e2
  injection e1 with e1; injection e1 with e1
  subst e1; subst e2
  have hle := Lib.compact_length_le zs
  refine (Any.slices_Compact_int Tryz.laysCompact g 0 cap zs w hH (by omega) hnc).mono fun e w' ⟨h3, q, h4⟩ => ⟨_, h3, ?_, ?_, rfl⟩
  ·rw [h4]
   have := Lib.ownsRow_putRow (q := q) (k := (Lib.compact zs).length) (ys := Lib.compact zs ++ List.replicate (zs.length - (Lib.compact zs).length) 0) h (by simp; omega) hle
   rw [List.take_left] at this
   exact this
  ·rw [h4]
   refine ⟨rfl, rfl, rfl, by simp [Sort.putRow, Sort.mapBlock, Sort.ahead], fun k hk hne => ?_⟩
   have hne : g ≠ k := fun e => hne (by rw [e]; rfl)
   simp [Sort.putRow, Sort.mapBlock, Array.getElem?_modify, hne, Sort.ahead]
theorem unique_of (w : World) (A : Option Addr) (n n' c : Nat) (xs ss us : List Value) (h : w.ownsRow 0 3 1 (.slice A n c) n xs)
  (hs : ∀ w, w.ownsRow 0 3 1 (.slice A n c) n xs → Calls Tryz.prog 102 #[.slice A n c] w fun e w' => e = .returned (.tuple #[]) ∧ w'.ownsRow 0 3 1 (.slice A n c) n ss ∧ w.grownBy w' (Value.slice A n c).ownBlock)
  (hc : ∀ w, w.ownsRow 0 3 1 (.slice A n c) n ss → Calls Tryz.prog 103 #[.slice A n c] w fun e w' => ∃ v', e = .returned v' ∧ w'.ownsRow 0 3 1 v' n' us ∧ w.grownBy w' (Value.slice A n c).ownBlock ∧ v'.ownBlock = (Value.slice A n c).ownBlock) :
  Calls Tryz.prog 74 #[.slice A n c] w fun e w' => ∃ v', e = .returned v' ∧ w'.ownsRow 0 3 1 v' n' us ∧ w.grownBy w' (Value.slice A n c).ownBlock ∧ v'.ownBlock = (Value.slice A n c).ownBlock := by
 generalize (Value.slice A n c).ownBlock = B at hs hc ⊢
 refine calls_satq [.slice A n c] Tryz.func74 Tryz.ntmps74 rfl (by simp) ?_
 refine satq_seqN ?_
 conv => whnf
 refine satq_in (satq_jump 1 rfl rfl rfl ?_)
 conv => whnf
 refine jmp_con (fun u w1 => u = .tuple #[] ∧ w1.ownsRow 0 3 1 (.slice A n c) n ss ∧ w.grownBy w1 B) rfl (by kernel_rfl) (fun r w1 hR => ?_) fun u w1 hj => ?_
 ·have hB := hR.toBelow
  refine (hs w1 (owns_below h hB)).mono fun e w2 ⟨he, k1, k2⟩ => ⟨_, he, rfl, k1, ?_⟩
  exact ⟨k2.os.trans hB.os, k2.tape.trans hB.tape, k2.output.trans hB.output, Nat.le_trans hB.size k2.size, fun k hk hne => (k2.block k (Nat.lt_of_lt_of_le hk hB.size) hne).trans (hB.block k hk)⟩
 ·obtain ⟨hu, h1, h2⟩ := hj
  subst hu
  conv => whnf
  refine atq_on ?_
  refine satq_in (satq_jump 1 rfl rfl rfl ?_)
  conv => whnf
  refine jmp_con (fun u w2 => w2.ownsRow 0 3 1 u n' us ∧ w.grownBy w2 B ∧ u.ownBlock = B) rfl (by kernel_rfl) (fun r w2 hR => ?_) fun u w2 hj => ?_
  ·have hB := hR.toBelow
   refine (hc w2 (owns_below h1 hB)).mono fun e w3 ⟨v', he, k1, k2, k3⟩ => ⟨v', he, k1, ?_, k3⟩
   exact ⟨k2.os.trans (hB.os.trans h2.os), k2.tape.trans (hB.tape.trans h2.tape), k2.output.trans (hB.output.trans h2.output), Nat.le_trans h2.size (Nat.le_trans hB.size k2.size), fun k hk hne => (k2.block k (Nat.lt_of_lt_of_le hk (Nat.le_trans h2.size hB.size)) hne).trans ((hB.block k (Nat.lt_of_lt_of_le hk h2.size)).trans (h2.block k hk hne))⟩
  ·obtain ⟨k1, k2, k3⟩ := hj
   obtain ⟨A2, c2, rfl, _⟩ := own_slice k1
   conv => whnf
   refine atq_on ?_
   refine satq_vcN ?_
   conv => whnf
   refine atq_ret ?_
   conv => whnf
   exact fin_val rfl fun w3 hB => ⟨_, rfl, owns_below k1 hB, ⟨hB.os.trans k2.os, hB.tape.trans k2.tape, hB.output.trans k2.output, Nat.le_trans k2.size hB.size, fun k hk hne => (hB.block k (Nat.lt_of_lt_of_le hk k2.size)).trans (k2.block k hk hne)⟩, k3⟩
theorem unique_walk (w : World) (v : Value) (zs : List Int) (hn : zs.length ≤ 1000000) (h : w.ownsRow 0 3 1 v zs.length (zs.map intV)) :
  Calls Tryz.prog 74 #[v] w fun e w' => ∃ v', e = .returned v' ∧ w'.ownsRow 0 3 1 v' (uniqL zs).length ((uniqL zs).map intV) ∧ w.grownBy w' v.ownBlock ∧ v'.ownBlock = v.ownBlock := by
 obtain ⟨A, c, rfl, _⟩ := own_slice h
 have hl : (zs.mergeSort fun x y => decide (x ≤ y)).length = zs.length := List.length_mergeSort zs
 have h2 := fun w => compact_row w (.slice A (zs.mergeSort fun x y => decide (x ≤ y)).length c) _ (by rw [hl]; exact hn)
 rw [hl] at h2
 exact unique_of w A zs.length _ c _ _ _ h (fun w => sort_row w _ zs hn) h2
end Go.Proofs.YtnhdcclpjildjaaGreat
namespace Go.Proofs.YtnhdcclpjildjaaGreat
open Go.RowKit

def MemTo (w w' : World) (B m sb : Nat) (l : List Slt) (img : Nat → List Int) : Prop := ∃ l', MemAt2 w' B m sb l' img ∧ keepS l l' ∧ Below B w w' ∧ FrameT w w'
theorem MemTo.later {w w1 w2 : World} {B m sb : Nat} {l : List Slt} {img : Nat → List Int} (h : MemTo w w1 B m sb l img) (hB : Below w1.heap.size w1 w2) : MemTo w w2 B m sb l img := by
 obtain ⟨l', h1, h2, h3, h4⟩ := h
 have hsz : B ≤ w1.heap.size := Nat.le_of_lt (Nat.lt_of_le_of_lt h1.Bm (heap_lt h1.hm))
 exact ⟨l', h1.later hB, h2, h3.trans (hB.mono hsz), h4.trans (FrameT.of hB)⟩
theorem MemTo.start {w w' : World} {B m sb : Nat} {l : List Slt} {img : Nat → List Int} (h : MemAt2 w B m sb l img) (hB : Below w.heap.size w w') : MemTo w w' B m sb l img := MemTo.later ⟨l, h, keepS.refl l, Below.refl _ _, fun _ _ _ _ _ _ => rfl⟩ hB
theorem MemTo.trans {w w1 w2 : World} {B m sb : Nat} {l l' : List Slt} {img : Nat → List Int} (h2 : keepS l l') (h3 : Below B w w1) (h4 : FrameT w w1) (k : MemTo w1 w2 B m sb l' img) : MemTo w w2 B m sb l img := by
 obtain ⟨l2, k1, k2, k3, k4⟩ := k
 exact ⟨l2, k1, h2.trans k2, h3.trans k3, h4.trans k4⟩
section
variable {B m sb : Nat} {img : Nat → List Int}
structure Boxes (w : World) (pm pa m : Nat) (a : Int) : Prop where
 bm : w.heap[pm]? = some (.cells #[ptrV m] 95 (0, 0))
 ba : w.heap[pa]? = some (.cells #[.int .u32 a] 35 (0, 0))
theorem Boxes.keep {w w' : World} {pm pa m : Nat} {a : Int} (h : Boxes w pm pa m a) (hf : FrameT w w') : Boxes w' pm pa m a :=
 ⟨(hf _ _ _ h.bm (by decide) (by decide)).trans h.bm, (hf _ _ _ h.ba (by decide) (by decide)).trans h.ba⟩
set_option maxRecDepth 100000 in
theorem poke1_walk {w : World} {l : List Slt} (h : MemAt2 w B m sb l img) (h2 : 2 ≤ l.length) {pm pa : Nat} {a : Int} (hx : Boxes w pm pa m a) (_ha : word a) (i : Nat) (b : Int) (hi : i < 4294967296) (hb : 0 ≤ b ∧ b < 256) :
  Calls Tryz.prog 94 #[intV (i : Int), .int .u8 b, ptrV pm, ptrV pa] w fun e w' => e = .returned (.tuple #[]) ∧ MemTo w w' B m sb l img := by
 refine calls_satq [intV (i : Int), .int .u8 b, ptrV pm, ptrV pa] Tryz.func94 Tryz.ntmps94 rfl (by simp) ?_
 refine satq_jump 6 rfl rfl rfl ?_
 conv => whnf
 refine ⟨_, block_cells (us := [ptrV m]) hx.bm rfl, ?_⟩
 conv => whnf
 refine ⟨_, block_cells (us := [.int .u32 a]) hx.ba rfl, ?_⟩
 conv => whnf
 refine ⟨(i : Int), by rw [wr32]; omega, ?_⟩
 conv => whnf
 refine ⟨(a + i) % 4294967296, wr32 _, ?_⟩
 conv => whnf
 refine jmp_con (fun u w' => u = .tuple #[] ∧ MemTo w w' B m sb l img) rfl (by kernel_rfl) (fun r w1 hR => ?_) (fun u w' hj => ?_)
 ·have h1 := h.later hR.toBelow
  have hsz : B ≤ w.heap.size := Nat.le_of_lt (Nat.lt_of_le_of_lt h.Bm (heap_lt h.hm))
  exact (set_mem h1 ((a + i) % 4294967296) b (by unfold word; omega) hb h2).mono fun e w' ⟨he, hq⟩ => ⟨_, he, rfl, MemTo.trans (keepS.refl l) (hR.toBelow.mono hsz) (FrameT.of hR.toBelow) hq⟩
 ·obtain ⟨rfl, hq⟩ := hj
  conv => whnf
  refine atq_end ?_
  conv => whnf
  exact fin_val rfl fun w2 hB => ⟨rfl, hq.later hB⟩
set_option maxRecDepth 100000 in
theorem each_walk {w : World} {l : List Slt} (h : MemAt2 w B m sb l img) (h2 : 2 ≤ l.length) {pm pa : Nat} {a : Int} (hx : Boxes w pm pa m a) (ha : word a) (xs : List Int) (hxs : ∀ x ∈ xs, 0 ≤ x ∧ x < 256) (hlen : xs.length ≤ 1000000) :
  Calls Tryz.prog 93 #[strV xs, .func (.func 94) #[] #[ptrV pm, ptrV pa]] w fun e w' => e = .returned (.tuple #[]) ∧ MemTo w w' B m sb l img := by
 refine calls_satq [strV xs, .func (.func 94) #[] #[ptrV pm, ptrV pa]] Tryz.func93 Tryz.ntmps93 rfl (by simp) ?_
 refine satq_seqN ?_
 conv => whnf
 refine q_len_str xs rfl rfl rfl ?_
 conv => whnf
 refine satq_block ?_
 refine satq_loopX (fun j : { j : Nat // j ≤ xs.length } => [(0, one (strV xs)), (1, one (.func (.func 94) #[] #[ptrV pm, ptrV pa])), (6, one (intV (xs.length : Int))), (7, one (intV (j.1 : Int)))]) (fun _ w' => MemTo w w' B m sb l img) (fun j => xs.length - j.1) ⟨0, by omega⟩ (aI rfl (aI rfl (aI rfl (aI rfl trivial)))) (fun r w' hR => MemTo.start h hR.toBelow) (fun j w' hJ => ?_)
 obtain ⟨j, hj⟩ := j
 obtain ⟨l', k1, k2, k3, k4⟩ := hJ
 dsimp only
 refine satq_seqN ?_
 conv => whnf
 refine satq_seqN ?_
 conv => whnf
 refine ⟨fun hc => ?_, fun hc => ?_⟩
 ·have hlt : j < xs.length := by simpa using hc
  obtain ⟨b, hb⟩ : ∃ b, xs[j]? = some b := ⟨_, List.getElem?_eq_getElem hlt⟩
  have hbb := hxs b (List.mem_of_getElem? hb)
  conv => whnf
  refine satq_in (satq_block ?_)
  refine satq_seqN ?_
  conv => whnf
  refine satq_jump 5 rfl rfl rfl ?_
  conv => whnf
  refine q_index_str xs .i64 j b rfl rfl rfl rfl hb hbb ?_
  conv => whnf
  refine jmp_con (fun u w2 => u = .tuple #[] ∧ MemTo w w2 B m sb l img) rfl (by kernel_rfl) (fun r w1 hR => ?_) (fun u w2 hq => ?_)
  ·have hB1 := hR.toBelow
   have hsz : B ≤ w'.heap.size := Nat.le_of_lt (Nat.lt_of_le_of_lt k1.Bm (heap_lt k1.hm))
   exact (poke1_walk (k1.later hB1) (by rw [k2.1]; exact h2) ((hx.keep k4).keep (FrameT.of hB1)) ha j b (by omega) hbb).mono fun e w3 ⟨he, hq⟩ => ⟨_, he, rfl, MemTo.trans k2 (k3.trans (hB1.mono hsz)) (k4.trans (FrameT.of hB1)) hq⟩
  ·obtain ⟨rfl, hq⟩ := hq
   conv => whnf
   refine atq_then ?_
   refine satq_vcN ?_
   conv => whnf
   refine ⟨((j + 1 : Nat) : Int), by rw [show (j : Int) + 1 = ((j + 1 : Nat) : Int) by omega]; exact wr64 (by omega), ?_⟩
   conv => whnf
   exact atq_nextW ⟨j + 1, by omega⟩ (aI rfl (aI rfl (aI rfl (aI rfl trivial)))) (fun r w3 hR => hq.later hR.toBelow) (by show xs.length - (j + 1) < xs.length - j; omega)
 ·conv => whnf
  refine atq_outW (atq_exit (atq_end ?_))
  conv => whnf
  exact fin_val rfl fun w2 hB => ⟨rfl, MemTo.later ⟨l', k1, k2, k3, k4⟩ hB⟩
end
end Go.Proofs.YtnhdcclpjildjaaGreat
namespace Go.Proofs.YtnhdcclpjildjaaGreat
open Go.RowKit

structure St where
 pc : Int
 R : Int → Int
 f : Int
 c0 : Int
 c1 : Int
 c2 : Int
 c3 : Int
 steps : Int
 due : Int
structure St.ok (s : St) : Prop where
 pc : word s.pc
 reg : ∀ j, 0 ≤ j → j < 16 → word (s.R j)
 zero : s.R 0 = 0
 fl : s.f = 0
 steps : 0 ≤ s.steps ∧ s.steps < 1099511627776
end Go.Proofs.YtnhdcclpjildjaaGreat
namespace Go.Proofs.YtnhdcclpjildjaaGreat
open Go.RowKit

structure StC (L : List Value) : Prop where
 len : L.length = 24
 one : ∀ S, onesL S (L.map .v) = true
end Go.Proofs.YtnhdcclpjildjaaGreat
namespace Go.Proofs.YtnhdcclpjildjaaGreat
open Go.RowKit

abbrev lpT : TypeId := 136
section
variable {w : World} {g : Nat} {vA vP vO : Value} {l : List BOp} {pl pi : Nat}
abbrev testL (i : QI) (c : Int) (inv : Bool) : List BOp := [⟨c, 20, i.d, i.a, 0⟩] ++ (if inv = true then [⟨1, 21, 0, 0, 1⟩, ⟨7, 20, 20, 21, 0⟩] else [])
set_option maxRecDepth 100000 in
theorem test_walk (i : QI) (c : Int) (inv : Bool) (h : LiftAt w g vA vP vO l) (hl : LSt w w g vA vP vO l pl [pV g] lpT) (hi : LSt w w g vA vP vO l pi (qiL i) qiT) (hlen : l.length ≤ 100000000) :
  Calls Tryz.prog 118 #[intV c, .bool inv, pV pl, pV pi] w fun e w' => e = .returned (.tuple #[]) ∧ LiftTo w w' g vA vP vO (l ++ testL i c inv) := by
 refine calls_satq [intV c, .bool inv, pV pl, pV pi] Tryz.func118 Tryz.ntmps118 rfl (by simp) ?_
 refine satq_in (satq_jump 8 rfl rfl rfl ?_)
 conv => whnf
 refine ⟨_, block_cells hl.box (off := 0) (x := pV g) rfl, ?_⟩
 conv => whnf
 refine ⟨_, block_cells hi.box (off := 0 + 1) (x := intV i.d) rfl, ?_⟩
 conv => whnf
 refine ⟨_, block_cells hi.box (off := 0 + 2) (x := intV i.a) rfl, ?_⟩
 conv => whnf
 refine jmp_add h [⟨c, 20, i.d, i.a, 0⟩] 0 1 rfl rfl (by omega) fun w1 hq => ?_
 have hl1 : LSt w w1 g vA vP vO (l ++ [⟨c, 20, i.d, i.a, 0⟩]) pl [pV g] lpT := ⟨hq, (hq.block pl hl.lt hl.ne hl.no).trans hl.box, hl.lt, hl.ne, hl.no⟩
 conv => whnf
 refine atq_on ?_
 refine satq_seqN ?_
 conv => whnf
 cases inv with
 | false =>
  refine satq_cond rfl (fun hc => absurd hc (by decide)) (fun _ => ?_)
  refine satq_skip (atq_end ?_)
  conv => whnf
  exact fin_val rfl fun w2 hB => ⟨rfl, hl1.lift.later hB⟩
 | true =>
  refine satq_cond rfl (fun _ => ?_) (fun hc => absurd hc (by decide))
  refine satq_jump 4 rfl rfl rfl ?_
  conv => whnf
  refine ⟨_, block_cells hl1.box (off := 0) (x := pV g) rfl, ?_⟩
  conv => whnf
  obtain ⟨vO1, k1, k2⟩ := hl1.step
  refine jmp_add k1 [⟨1, 21, 0, 0, 1⟩, ⟨7, 20, 20, 21, 0⟩] 0 2 rfl rfl (by rw [List.length_append]; simp; omega) fun w2 hq2 => ?_
  have hfin := k2 _ _ hq2
  rw [List.append_assoc] at hfin
  conv => whnf
  refine atq_end ?_
  conv => whnf
  exact fin_val rfl fun w3 hB => ⟨rfl, hfin.lift.later hB⟩
theorem test_jmp {w1 : World} {S : List Ow} {K : Value → World → Prop} (i : QI) (c : Int) (inv : Bool) (h : LiftAt w1 g vA vP vO l) (hl : LSt w1 w1 g vA vP vO l pl [pV g] lpT) (hi : LSt w1 w1 g vA vP vO l pi (qiL i) qiT) (hlen : l.length ≤ 100000000)
  (hK : ∀ w2, LSt w1 w2 g vA vP vO (l ++ testL i c inv) pl [pV g] lpT ∧ LSt w1 w2 g vA vP vO (l ++ testL i c inv) pi (qiL i) qiT → K (.tuple #[]) w2) :
  Jmp Tryz.prog w1 Gs.nil 118 [one (intV c), one (.bool inv), one (pV pl), one (pV pi)] S K := by
 refine jmp_con (fun u w2 => u = .tuple #[] ∧ LSt w1 w2 g vA vP vO (l ++ testL i c inv) pl [pV g] lpT ∧ LSt w1 w2 g vA vP vO (l ++ testL i c inv) pi (qiL i) qiT) rfl (by kernel_rfl) (fun r w2 hR => ?_) fun u w2 ⟨hu, hj⟩ => hu ▸ hK w2 hj
 have hB := hR.toBelow
 have h2 := h.later hB
 have hl2 : LSt w2 w2 g vA vP vO l pl [pV g] lpT := ⟨LiftTo.refl h2 (Below.refl _ _), (hB.block pl hl.lt).trans hl.box, Nat.lt_of_lt_of_le hl.lt hB.size, hl.ne, hl.no⟩
 have hi2 : LSt w2 w2 g vA vP vO l pi (qiL i) qiT := ⟨LiftTo.refl h2 (Below.refl _ _), (hB.block pi hi.lt).trans hi.box, Nat.lt_of_lt_of_le hi.lt hB.size, hi.ne, hi.no⟩
 refine (test_walk i c inv h2 hl2 hi2 hlen).mono fun e w3 ⟨he, hq⟩ => ⟨_, he, rfl, ?_, ?_⟩
 ·exact ⟨hq.early hB, (hq.block pl hl2.lt hl2.ne hl2.no).trans hl2.box, hl.lt, hl.ne, hl.no⟩
 ·exact ⟨hq.early hB, (hq.block pi hi2.lt hi2.ne hi2.no).trans hi2.box, hi.lt, hi.ne, hi.no⟩
def branchL (i : QI) (at_ : Int) : List BOp := qTest i ++ [⟨23, 0, 20, 0, cut32 (at_ + 4 * i.imm)⟩, ⟨24, 0, 0, 0, cut32 (at_ + 4)⟩]
set_option maxRecDepth 100000 in
set_option maxHeartbeats 2000000 in
theorem branch_walk (i : QI) (at_ : Int) (h : LiftAt w g vA vP vO l) (ho : 32 ≤ i.op ∧ i.op ≤ 37) (hlen : l.length ≤ 10000000) :
  Calls Tryz.prog 101 #[pV g, qiV i, .int .u32 at_] w fun e w' => e = .returned (.tuple #[]) ∧ LiftTo w w' g vA vP vO (l ++ branchL i at_) := by
 refine calls_satq [pV g, qiV i, .int .u32 at_] Tryz.func101 Tryz.ntmps101 rfl (by simp) ?_
 refine satq_seqN ?_
 conv => whnf
 refine satq_restart fun r w1 hR => ?_
 obtain ⟨pl, us, e1, e2, e3⟩ := hR.own 0 _ rfl
 obtain rfl := denL_vals_inv (us := [pV g]) e3
 obtain ⟨pi, us, f1, f2, f3⟩ := hR.own 1 _ rfl
 obtain rfl := denL_vals_inv (us := qiL i) f3
 have hB1 := hR.toBelow
 have hs := box_ok h hB1 e2 (fresh_of hR e1)
 have hs' := box_ok h hB1 f2 (fresh_of hR f1)
 have h1 := h.later hB1
 refine ⟨slotFr [(2, .int .u32 at_), (3, pV pl), (4, pV pi)], fun a' hf => slots_den ⟨slot_val hf rfl, slot_ref hf 3 rfl e1, slot_ref hf 4 rfl f1, trivial⟩, ?_⟩
 clear hR e3 f3
 refine satq_seqN ?_
 conv => whnf
 refine q_makeFunc2 rfl rfl rfl ?_
 conv => whnf
 refine satq_midW (α := Unit) (fun _ => [(2, one (.int .u32 at_)), (3, one (pV pl)), (4, one (pV pi))]) (fun _ w2 => LSt w1 w2 g vA vP vO (l ++ qTest i) pl [pV g] lpT ∧ LSt w1 w2 g vA vP vO (l ++ qTest i) pi (qiL i) qiT) ?_ fun _ w2 hs2 => ?_
 ·refine satq_seqN ?_
  conv => whnf
  refine ⟨_, block_cells hs'.box (off := 0 + 0) (x := intV i.op) rfl, ?_⟩
  conv => whnf
  refine satq_block ?_
  refine satq_seqN ?_
  conv => whnf
  refine satq_cond rfl (fun hc => ?_) (fun hc => ?_)
  ·have hi : i.op = 32 := by simpa using hc
   refine satq_jump 1 rfl rfl rfl ?_
   conv => whnf
   refine test_jmp i 13 false h1 hs hs' (by omega) fun w2 hq => ?_
   conv => whnf
   refine atq_block (atq_midW () (aI rfl (aI rfl (aI rfl trivial))) fun r w3 hR => ?_)
   have ht : qTest i = testL i 13 false := by unfold qTest qTestCode testL; rw [hi]; rfl
   rw [ht]
   exact ⟨hq.1.later hR.toBelow, hq.2.later hR.toBelow⟩
  have n32 : ¬ i.op = 32 := by simpa using hc
  clear hc
  refine satq_seqN ?_
  conv => whnf
  refine satq_cond rfl (fun hc => ?_) (fun hc => ?_)
  ·have hi : i.op = 33 := by simpa using hc
   refine satq_jump 1 rfl rfl rfl ?_
   conv => whnf
   refine test_jmp i 7 false h1 hs hs' (by omega) fun w2 hq => ?_
   conv => whnf
   refine atq_block (atq_midW () (aI rfl (aI rfl (aI rfl trivial))) fun r w3 hR => ?_)
   have ht : qTest i = testL i 7 false := by unfold qTest qTestCode testL; rw [hi]; rfl
   rw [ht]
   exact ⟨hq.1.later hR.toBelow, hq.2.later hR.toBelow⟩
  have n33 : ¬ i.op = 33 := by simpa using hc
  clear hc
  refine satq_seqN ?_
  conv => whnf
  refine satq_cond rfl (fun hc => ?_) (fun hc => ?_)
  ·have hi : i.op = 34 := by simpa using hc
   refine satq_jump 1 rfl rfl rfl ?_
   conv => whnf
   refine test_jmp i 14 false h1 hs hs' (by omega) fun w2 hq => ?_
   conv => whnf
   refine atq_block (atq_midW () (aI rfl (aI rfl (aI rfl trivial))) fun r w3 hR => ?_)
   have ht : qTest i = testL i 14 false := by unfold qTest qTestCode testL; rw [hi]; rfl
   rw [ht]
   exact ⟨hq.1.later hR.toBelow, hq.2.later hR.toBelow⟩
  have n34 : ¬ i.op = 34 := by simpa using hc
  clear hc
  refine satq_seqN ?_
  conv => whnf
  refine satq_cond rfl (fun hc => ?_) (fun hc => ?_)
  ·have hi : i.op = 35 := by simpa using hc
   refine satq_jump 1 rfl rfl rfl ?_
   conv => whnf
   refine test_jmp i 14 true h1 hs hs' (by omega) fun w2 hq => ?_
   conv => whnf
   refine atq_block (atq_midW () (aI rfl (aI rfl (aI rfl trivial))) fun r w3 hR => ?_)
   have ht : qTest i = testL i 14 true := by unfold qTest qTestCode testL; rw [hi]; rfl
   rw [ht]
   exact ⟨hq.1.later hR.toBelow, hq.2.later hR.toBelow⟩
  have n35 : ¬ i.op = 35 := by simpa using hc
  clear hc
  refine satq_seqN ?_
  conv => whnf
  refine satq_cond rfl (fun hc => ?_) (fun hc => ?_)
  ·have hi : i.op = 36 := by simpa using hc
   refine satq_jump 1 rfl rfl rfl ?_
   conv => whnf
   refine test_jmp i 15 false h1 hs hs' (by omega) fun w2 hq => ?_
   conv => whnf
   refine atq_block (atq_midW () (aI rfl (aI rfl (aI rfl trivial))) fun r w3 hR => ?_)
   have ht : qTest i = testL i 15 false := by unfold qTest qTestCode testL; rw [hi]; rfl
   rw [ht]
   exact ⟨hq.1.later hR.toBelow, hq.2.later hR.toBelow⟩
  have n36 : ¬ i.op = 36 := by simpa using hc
  clear hc
  refine satq_seqN ?_
  conv => whnf
  refine satq_cond rfl (fun hc => ?_) (fun hc => ?_)
  ·have hi : i.op = 37 := by simpa using hc
   refine satq_jump 1 rfl rfl rfl ?_
   conv => whnf
   refine test_jmp i 15 true h1 hs hs' (by omega) fun w2 hq => ?_
   conv => whnf
   refine atq_block (atq_midW () (aI rfl (aI rfl (aI rfl trivial))) fun r w3 hR => ?_)
   have ht : qTest i = testL i 15 true := by unfold qTest qTestCode testL; rw [hi]; rfl
   rw [ht]
   exact ⟨hq.1.later hR.toBelow, hq.2.later hR.toBelow⟩
  have n37 : ¬ i.op = 37 := by simpa using hc
  clear hc
  omega
 obtain ⟨hs3, hs4⟩ := hs2
 refine satq_jump 11 rfl rfl rfl ?_
 conv => whnf
 refine ⟨_, block_cells hs3.box (off := 0) (x := pV g) rfl, ?_⟩
 conv => whnf
 refine ⟨_, block_cells hs4.box (off := 0 + 4) (x := .int .u32 i.imm) rfl, ?_⟩
 conv => whnf
 refine ⟨_, wr32 _, ?_⟩
 conv => whnf
 refine ⟨cut32 (at_ + 4 * i.imm), by rw [wr32]; unfold cut32; omega, ?_⟩
 conv => whnf
 refine ⟨cut32 (at_ + 4), by rw [wr32]; rfl, ?_⟩
 conv => whnf
 obtain ⟨vO1, k1, k2⟩ := hs3.step
 have htl : (qTest i).length ≤ 3 := by unfold qTest; split <;> simp
 refine jmp_add k1 [⟨23, 0, 20, 0, cut32 (at_ + 4 * i.imm)⟩, ⟨24, 0, 0, 0, cut32 (at_ + 4)⟩] 0 2 rfl rfl (by rw [List.length_append]; omega) fun w3 hq => ?_
 have hfin := k2 _ _ hq
 rw [List.append_assoc] at hfin
 conv => whnf
 refine atq_end ?_
 conv => whnf
 exact fin_val rfl fun w4 hB => ⟨rfl, (hfin.lift.early hB1).later hB⟩
end
end Go.Proofs.YtnhdcclpjildjaaGreat
namespace Go.Proofs.YtnhdcclpjildjaaGreat
open Go.RowKit

section
variable {R : Value → Option (DataW Unit × List MemPlace)} {mk : Int → Value} {cd : Int → DataW Unit} {good : Int → Prop} {n : Nat} {m : Int → Option Int}
variable {w0 : World} {G : Gs} {N : Nd} {o : Oper} {f : Fr} {S : List Ow} {K : Fr → List Ow → Prop}
theorem op_insert {t e : TypeId} {mo x v : Operand} (hop : o.op = .insert t mo x v) (ht : Tryz.prog.underlying t = some (.map 3 e)) (E : Elems R mk cd good) (i : Nat) (k y : Int)
  (hm : f.ev mo = .p (.c (.mp i))) (hi : S[i]? = some (mapOw R cd n m)) (hx : f.ev x = one (.int .i64 k)) (hv : f.ev v = one (mk y)) (hn : n < 1000000) (hkw : (Lit.int .i64 k).wf = true) (hy : good y) (hdst : dstOk N.n o.dst = true)
  (hk : K (f.put o.dst (.p (.c .any))) (S.set i (mapOw R cd (n + 1) (mput m k y)))) : OpS Tryz.prog w0 G N o f S K := by
 refine ⟨fun r a w hR hf hN hd next Q hK => ?_⟩
 have h1 := hf.ev mo
 have h2 := hf.ev x
 have h3 := hf.ev v
 rw [hm] at h1; rw [hx] at h2; rw [hv] at h3
 obtain ⟨b, hb, hu⟩ := den_mp h1
 obtain ⟨b', hb', hmap, _⟩ := hR.own i _ hi
 rw [hb] at hb'; injection hb' with hb'; subst hb'
 obtain ⟨w', hrun, hmap', hg⟩ := hmap.put E ht hn hkw hy (t := t)
 have hex : (execOp a.eval o).run Tryz.prog w = .ok .skip w' := by
  simp [execOp, hop, hu, den_v h2, den_v h3, hrun]
 exact wp_of_skip hex (hK _ _ _ _ hk (good_value hR hf hN hd hdst (by simp [AV.den, Pc.den, CV.den]) (hR.setBlock hb hg (imap_holds hb hmap') (hR.lt_of_blk hb)) (Env.le.refl r)))
theorem fin_map {R' : Ending → World → Prop} (i : Nat) (hi : S[i]? = some (mapOw R cd n m)) (h : ∀ w b, IMap R cd w b n m → w0.heap.size ≤ b → Below w0.heap.size w0 w → R' (.returned (.map (some b))) w) : Fin w0 Gs.nil S (.p (.c (.mp i))) R' := by
 refine ⟨fun r w u hR hd => ?_⟩
 obtain ⟨b, hb, rfl⟩ := den_mp hd
 obtain ⟨b', hb', hmap, _⟩ := hR.own i _ hi
 rw [hb] at hb'; injection hb' with hb'; subst hb'
 exact h w b hmap (fresh_of hR hb) hR.toBelow
theorem call_newMap {fid : FuncId} {args : List AV} {xs : List Value} {K : AV → List Ow → Prop} (hx : avals args = some xs) (hok : fnOk Tryz.prog fid = true)
  (h : ∀ r w, Rel w0 G S r w → Calls Tryz.prog fid xs.toArray w fun e w' => ∃ b, e = .returned (.map (some b)) ∧ IMap R cd w' b n m ∧ w.heap.size ≤ b ∧ Below w.heap.size w w')
  (hK : K (.p (.c (.mp S.length))) (S ++ [mapOw R cd n m])) : CallS Tryz.prog w0 G fid args S K := by
 refine ⟨hok, fun r w us hR hd => ?_⟩
 obtain rfl := avals_den hx hd
 refine (h r w hR).mono fun e w' ⟨b, he, hmap, hb, hB⟩ => ?_
 refine ⟨_, _, _, r.set S.length (some b) none, he, ?_, hR.snoc hB (fun x hx => by injection hx with hx; subst hx; exact ⟨hb, hmap.lt⟩) (imap_holds (by simp [Env.set]) hmap), hR.le_new _ _, hK⟩
 simp only [AV.den, Pc.den, CV.den]
 exact ⟨b, by simp [Env.set], rfl⟩
end
def plainM (k : Int) : Option Int := if qCode k = 0 then none else some (qCode k)
set_option maxRecDepth 100000 in
set_option maxHeartbeats 2000000 in
theorem plain_walk (w : World) : Calls Tryz.prog 98 #[] w fun e w' => ∃ b, e = .returned (.map (some b)) ∧ IMap i64R i64D w' b 19 plainM ∧ w.heap.size ≤ b ∧ Below w.heap.size w w' := by
 refine calls_satq [] Tryz.func98 Tryz.ntmps98 rfl (by simp) ?_
 refine satq_seqN ?_
 conv => whnf
 refine satq_seqN ?_
 conv => whnf
 refine op_makeMap (R := i64R) (cd := i64D) rfl rfl ?_
 conv => whnf
 refine op_insert (n := 0) rfl Tryz.underlying176 i64Elems 0 1 3 rfl rfl rfl rfl (by decide) (wf_mid (by unfold mid; omega)) (by unfold mid; omega) rfl ?_
 conv => whnf
 refine op_insert (n := 1) rfl Tryz.underlying176 i64Elems 0 2 4 rfl rfl rfl rfl (by decide) (wf_mid (by unfold mid; omega)) (by unfold mid; omega) rfl ?_
 conv => whnf
 refine op_insert (n := 2) rfl Tryz.underlying176 i64Elems 0 3 5 rfl rfl rfl rfl (by decide) (wf_mid (by unfold mid; omega)) (by unfold mid; omega) rfl ?_
 conv => whnf
 refine op_insert (n := 3) rfl Tryz.underlying176 i64Elems 0 4 6 rfl rfl rfl rfl (by decide) (wf_mid (by unfold mid; omega)) (by unfold mid; omega) rfl ?_
 conv => whnf
 refine op_insert (n := 4) rfl Tryz.underlying176 i64Elems 0 5 7 rfl rfl rfl rfl (by decide) (wf_mid (by unfold mid; omega)) (by unfold mid; omega) rfl ?_
 conv => whnf
 refine op_insert (n := 5) rfl Tryz.underlying176 i64Elems 0 6 8 rfl rfl rfl rfl (by decide) (wf_mid (by unfold mid; omega)) (by unfold mid; omega) rfl ?_
 conv => whnf
 refine op_insert (n := 6) rfl Tryz.underlying176 i64Elems 0 7 9 rfl rfl rfl rfl (by decide) (wf_mid (by unfold mid; omega)) (by unfold mid; omega) rfl ?_
 conv => whnf
 refine op_insert (n := 7) rfl Tryz.underlying176 i64Elems 0 8 10 rfl rfl rfl rfl (by decide) (wf_mid (by unfold mid; omega)) (by unfold mid; omega) rfl ?_
 conv => whnf
 refine op_insert (n := 8) rfl Tryz.underlying176 i64Elems 0 9 11 rfl rfl rfl rfl (by decide) (wf_mid (by unfold mid; omega)) (by unfold mid; omega) rfl ?_
 conv => whnf
 refine op_insert (n := 9) rfl Tryz.underlying176 i64Elems 0 10 12 rfl rfl rfl rfl (by decide) (wf_mid (by unfold mid; omega)) (by unfold mid; omega) rfl ?_
 conv => whnf
 refine op_insert (n := 10) rfl Tryz.underlying176 i64Elems 0 11 14 rfl rfl rfl rfl (by decide) (wf_mid (by unfold mid; omega)) (by unfold mid; omega) rfl ?_
 conv => whnf
 refine op_insert (n := 11) rfl Tryz.underlying176 i64Elems 0 12 15 rfl rfl rfl rfl (by decide) (wf_mid (by unfold mid; omega)) (by unfold mid; omega) rfl ?_
 conv => whnf
 refine op_insert (n := 12) rfl Tryz.underlying176 i64Elems 0 16 3 rfl rfl rfl rfl (by decide) (wf_mid (by unfold mid; omega)) (by unfold mid; omega) rfl ?_
 conv => whnf
 refine op_insert (n := 13) rfl Tryz.underlying176 i64Elems 0 17 5 rfl rfl rfl rfl (by decide) (wf_mid (by unfold mid; omega)) (by unfold mid; omega) rfl ?_
 conv => whnf
 refine op_insert (n := 14) rfl Tryz.underlying176 i64Elems 0 18 6 rfl rfl rfl rfl (by decide) (wf_mid (by unfold mid; omega)) (by unfold mid; omega) rfl ?_
 conv => whnf
 refine op_insert (n := 15) rfl Tryz.underlying176 i64Elems 0 19 7 rfl rfl rfl rfl (by decide) (wf_mid (by unfold mid; omega)) (by unfold mid; omega) rfl ?_
 conv => whnf
 refine op_insert (n := 16) rfl Tryz.underlying176 i64Elems 0 20 8 rfl rfl rfl rfl (by decide) (wf_mid (by unfold mid; omega)) (by unfold mid; omega) rfl ?_
 conv => whnf
 refine op_insert (n := 17) rfl Tryz.underlying176 i64Elems 0 21 9 rfl rfl rfl rfl (by decide) (wf_mid (by unfold mid; omega)) (by unfold mid; omega) rfl ?_
 conv => whnf
 refine op_insert (n := 18) rfl Tryz.underlying176 i64Elems 0 22 10 rfl rfl rfl rfl (by decide) (wf_mid (by unfold mid; omega)) (by unfold mid; omega) rfl ?_
 conv => whnf
 refine satq_vcN ?_
 conv => whnf
 refine atq_ret ?_
 conv => whnf
 refine fin_map 0 rfl fun w' b hm hb hB => ⟨b, rfl, hm.is (fun k => ?_), hb, hB⟩
 by_cases hk : 1 ≤ k ∧ k ≤ 22
 ·have : k = 1 ∨ k = 2 ∨ k = 3 ∨ k = 4 ∨ k = 5 ∨ k = 6 ∨ k = 7 ∨ k = 8 ∨ k = 9 ∨ k = 10 ∨ k = 11 ∨ k = 12 ∨ k = 13 ∨ k = 14 ∨ k = 15 ∨ k = 16 ∨ k = 17 ∨ k = 18 ∨ k = 19 ∨ k = 20 ∨ k = 21 ∨ k = 22 := by omega
  rcases this with rfl | rfl | rfl | rfl | rfl | rfl | rfl | rfl | rfl | rfl | rfl | rfl | rfl | rfl | rfl | rfl | rfl | rfl | rfl | rfl | rfl | rfl <;> decide
 ·have hq : qCode k = 0 := by
   unfold qCode
   rw [if_neg (by omega), if_neg (by omega), if_neg (by omega), if_neg (by omega), if_neg (by omega)]
  unfold plainM mput
  rw [if_pos hq]
  simp only [show ¬ k = 1 by omega, show ¬ k = 2 by omega, show ¬ k = 3 by omega, show ¬ k = 4 by omega, show ¬ k = 5 by omega, show ¬ k = 6 by omega, show ¬ k = 7 by omega, show ¬ k = 8 by omega, show ¬ k = 9 by omega, show ¬ k = 10 by omega, show ¬ k = 11 by omega, show ¬ k = 12 by omega, show ¬ k = 16 by omega, show ¬ k = 17 by omega, show ¬ k = 18 by omega, show ¬ k = 19 by omega, show ¬ k = 20 by omega, show ¬ k = 21 by omega, show ¬ k = 22 by omega, if_false]
end Go.Proofs.YtnhdcclpjildjaaGreat
namespace Go.Proofs.YtnhdcclpjildjaaGreat
open Go.RowKit

section
variable {B m sb : Nat} {img : Nat → List Int}
set_option maxRecDepth 100000 in
theorem pokeM_walk {w : World} {l : List Slt} (h : MemAt2 w B m sb l img) (h2 : 2 ≤ l.length) {a : Int} (ha : word a) (xs : List Int) (hxs : ∀ x ∈ xs, 0 ≤ x ∧ x < 256) (hlen : xs.length ≤ 1000000) :
  Calls Tryz.prog 67 #[ptrV m, .int .u32 a, strV xs] w fun e w' => e = .returned (.tuple #[]) ∧ MemTo w w' B m sb l img := by
 have hsz : B ≤ w.heap.size := Nat.le_of_lt (Nat.lt_of_le_of_lt h.Bm (heap_lt h.hm))
 refine calls_satq [ptrV m, .int .u32 a, strV xs] Tryz.func67 Tryz.ntmps67 rfl (by simp) ?_
 refine satq_seqN ?_
 conv => whnf
 refine satq_restart fun r w1 hR => ?_
 obtain ⟨pm, us1, e1, f1, k1⟩ := hR.own 0 _ rfl
 obtain ⟨pa, us2, e2, f2, k2⟩ := hR.own 1 _ rfl
 obtain rfl := denL_vals_inv (us := [ptrV m]) k1
 obtain rfl := denL_vals_inv (us := [.int .u32 a]) k2
 refine ⟨slotFr [(2, strV xs), (3, ptrV pm), (4, ptrV pa)], fun a' hf => slots_den ⟨slot_val hf rfl, slot_ref hf 3 rfl e1, slot_ref hf 4 rfl e2, trivial⟩, ?_⟩
 have hB1 := hR.toBelow
 have h1 := h.later hB1
 have hx : Boxes w1 pm pa m a := ⟨f1, f2⟩
 clear hR
 refine satq_jump 2 rfl rfl rfl ?_
 conv => whnf
 refine q_makeFunc2 rfl rfl rfl ?_
 conv => whnf
 refine jmp_con (fun u w2 => u = .tuple #[] ∧ MemTo w w2 B m sb l img) rfl (by kernel_rfl) (fun r w2 hR => ?_) (fun u w2 hq => ?_)
 ·have hB2 := hR.toBelow
  exact (each_walk (h1.later hB2) h2 (hx.keep (FrameT.of hB2)) ha xs hxs hlen).mono fun e w3 ⟨he, hq⟩ => ⟨_, he, rfl, MemTo.trans (keepS.refl l) ((hB1.mono hsz).trans (hB2.mono (Nat.le_trans hsz hB1.size))) ((FrameT.of hB1).trans (FrameT.of hB2)) hq⟩
 ·obtain ⟨rfl, hq⟩ := hq
  conv => whnf
  refine atq_end ?_
  conv => whnf
  exact fin_val rfl fun w3 hB => ⟨rfl, hq.later hB⟩
def setR (l : List Slt) (q : Nat) (x : Int) : List Slt := l.modify q fun s => { s with r := x }
theorem slotsL_setR : ∀ {l : List Slt} {q : Nat} (x : Int), q < l.length → slotsL (setR l q x) = (slotsL l).set (7 * q + 6) (intV x)
 | [], q, x, h => by simp at h
 | s :: l, 0, x, h => rfl
 | s :: l, q + 1, x, h => by
  have ih := slotsL_setR (l := l) (q := q) x (by simpa using h)
  show slotL s ++ slotsL (setR l q x) = (slotL s ++ slotsL l).set (7 * (q + 1) + 6) _
  rw [ih, show 7 * (q + 1) + 6 = (slotL s).length + (7 * q + 6) by show _ = 7 + _; omega, List.set_append_right _ _ (by omega)]
  simp
theorem setR_get (l : List Slt) (q k : Nat) (x : Int) : (setR l q x)[k]? = if q = k then (l[k]?).map (fun s => { s with r := x }) else l[k]? := by
 unfold setR; rw [List.getElem?_modify]
 split
 ·rfl
 ·cases l[k]? <;> rfl
abbrev memU (n : Nat) (us : List Value) : List Ow := [.cells 163 [.sl 1 0 n n, .v (.bool false)], .cells 168 (us.map .v)]
theorem memU_ob (n : Nat) (us : List Value) : ObAll 2 (memU n us) := by
 intro o ho
 simp only [memU, List.mem_cons, List.not_mem_nil, or_false] at ho
 rcases ho with rfl | rfl
 ·intro c hc
  simp only [List.mem_cons, List.not_mem_nil, or_false] at hc
  rcases hc with rfl | rfl <;> rfl
 ·exact ob_vals 2 _
theorem mem_ne {w : World} {l : List Slt} (h : MemAt2 w B m sb l img) : m ≠ sb := fun e => by
 have h1 := h.hm; rw [e] at h1; cases cells_type (us := [.slice (some ⟨sb, 0, none⟩) l.length l.length, .bool false]) h1 h.hs
theorem mem_objs {w : World} {l : List Slt} (h : MemAt2 w B m sb l img) : ObjsAt w [m, sb] (memU l.length (slotsL l)) := by
 have hne := mem_ne h
 refine ⟨rfl, fun i j b hi hj => ?_, fun g hg => ?_, fun i o ho => ?_⟩
 ·match i, j with
  | 0, 0 => rfl
  | 1, 1 => rfl
  | 0, 1 => simp at hi hj; subst hi; exact absurd hj.symm hne
  | 1, 0 => simp at hi hj; subst hi; exact absurd hj hne
  | i + 2, _ => simp at hi
  | 0, j + 2 => simp at hj
  | 1, j + 2 => simp at hj
 ·simp at hg
  rcases hg with rfl | rfl
  ·exact heap_lt h.hm
  ·exact heap_lt h.hs
 ·match i with
  | 0 =>
   simp at ho; subst ho
   exact ⟨m, _, rfl, h.hm, ⟨_, _, rfl, ⟨sb, rfl, rfl⟩, _, _, rfl, rfl, rfl⟩⟩
  | 1 =>
   simp at ho; subst ho
   exact ⟨sb, _, rfl, h.hs, denL_vals _⟩
  | i + 2 => simp at ho
theorem objs_mem {w : World} {n : Nat} {us : List Value} (h : ObjsAt w [m, sb] (memU n us)) : w.heap[m]? = some (.cells #[.slice (some ⟨sb, 0, none⟩) n n, .bool false] 163 (0, 0)) ∧ w.heap[sb]? = some (.cells us.toArray 168 (0, 0)) := by
 constructor
 ·obtain ⟨b, vs, e1, e2, e3⟩ := h.own 0 _ rfl
  obtain rfl : m = b := by injection e1
  have : vs = [.slice (some ⟨sb, 0, none⟩) n n, .bool false] := denL_det (n := 2) (fun c hc => by
   simp only [List.mem_cons, List.not_mem_nil, or_false] at hc
   rcases hc with rfl | rfl <;> rfl) e3 ⟨_, _, rfl, ⟨sb, rfl, rfl⟩, _, _, rfl, rfl, rfl⟩
  rw [e2, this]
 ·obtain ⟨b, vs, e1, e2, e3⟩ := h.own 1 _ rfl
  obtain rfl : sb = b := by injection e1
  rw [e2, denL_vals_inv e3]
theorem keep_pages {w w' : World} {l : List Slt} (h : MemAt2 w B m sb l img) (hg : GrownBys w w' [m, sb]) {b : Nat} {us : List Int} (hp : PageAt w b us) : PageAt w' b us := hp.later (hg.block b (heap_lt hp.at_) (by
 simp only [List.mem_cons, List.not_mem_nil, or_false, not_or]
 exact ⟨fun e => (by have h1 := h.hm; rw [← e] at h1; cases cells_type (us := [.slice (some ⟨sb, 0, none⟩) l.length l.length, .bool false]) h1 hp.at_), fun e => (by have h1 := h.hs; rw [← e] at h1; cases cells_type h1 hp.at_)⟩))
theorem call_pagesU {w0 : World} {gs : Gs} {S : List Ow} {K : AV → List Ow → Prop} {n : Nat} {us : List Value} {T : List Ow} (l : List Slt) (hl : l.length = n) (hS : S = memU n us ++ T) (hK : K (AV.of (intV (n : Int))) S) : CallS Tryz.prog w0 gs 96 [.p (.c (.ref 0 0))] S K := by
 refine callS_val (intV (n : Int)) (by kernel_rfl) (fun r w1 vs hR hd => ?_) hK
 obtain ⟨u1, l1, rfl, d1, d2⟩ := hd
 obtain rfl : l1 = [] := d2
 obtain ⟨b, hb, rfl⟩ := den_ref d1
 obtain ⟨b', vs, e1, e2, e3⟩ := hR.own 0 (.cells 163 [.sl 1 0 n n, .v (.bool false)]) (by rw [hS]; rfl)
 rw [hb] at e1; injection e1 with e1; subst e1
 obtain ⟨v1, l2, rfl, d3, v2, l3, rfl, d4, d5⟩ := e3
 obtain rfl : l3 = [] := d5
 obtain ⟨sb, _, rfl⟩ := d3
 obtain rfl : v2 = .bool false := d4
 subst hl
 exact pages_mem (l := l) e2
set_option maxRecDepth 100000 in
theorem protectM_walk {w : World} {l : List Slt} (h : MemAt2 w B m sb l img) (q : Nat) (hq : q < l.length) (h2 : 2 ≤ l.length) (x : Int) (hx : 0 ≤ x ∧ x < 8) :
  Calls Tryz.prog 70 #[ptrV m, intV (q : Int), intV x] w fun e w' => e = .returned (.tuple #[]) ∧ MemAt2 w' B m sb (setR l q x) img ∧ Below B w w' := by
 have hsz : B ≤ w.heap.size := Nat.le_of_lt (Nat.lt_of_le_of_lt h.Bm (heap_lt h.hm))
 have hsl := slotsL_length l
 have hml : (List.map CV.v (slotsL l)).length = 7 * l.length := by rw [List.length_map, hsl]
 refine calls_objs_satq [.p (.c (.ref 0 0)), one (intV (q : Int)), one (intV x)] [ptrV m, intV (q : Int), intV x] Tryz.func70 Tryz.ntmps70 rfl (by simp) (mem_objs h) ⟨_, _, rfl, den_mk_ref rfl, avdenL_of [intV (q : Int), intV x]⟩ ?_
 refine satq_seqN ?_
 conv => whnf
 refine ⟨fun _ => ?_, fun hc => absurd hc (by simp)⟩
 conv => whnf
 (repeat ((first | apply k1 | apply k2 | apply k3 | apply k4 | refine k5 (by decide) ?_ | refine k6 (by decide) ?_); conv => whnf))
 refine call_pagesU l rfl rfl (T := []) ?_
 conv => whnf
 (repeat ((first | apply k1 | apply k2 | apply k3 | apply k4 | refine k5 (by decide) ?_ | refine k6 (by decide) ?_); conv => whnf))
 refine satq_vcN ?_
 conv => whnf
 refine ⟨fun _ => ?_, fun hc => absurd hc (by simp; omega)⟩
 conv => whnf
 refine ⟨x, bits_and7 hx, ?_⟩
 conv => whnf
 (refine ⟨⟨by omega, by omega⟩, ?_⟩; (conv=>whnf))
 erw [show Nat.ble (0 + (q : Int).toNat * 7 + 6 + 1) (List.map CV.v (slotsL l)).length = true from Nat.ble_eq_true_of_le (by rw [hml]; omega)]
 conv => whnf
 erw [show Nat.ble (List.map CV.v (slotsL l)).length 8 = false from by rw [hml]; exact ble_no (by omega)]
 conv => whnf
 refine atq_end ?_
 conv => whnf
 have hset : setAll (List.map CV.v (slotsL l)) (0 + (q : Int).toNat * 7 + 6) [CV.v (intV x)] = List.map CV.v (slotsL (setR l q x)) := by
  rw [set_vals, slotsL_setR x hq, show 0 + (q : Int).toNat * 7 + 6 = 7 * q + 6 by omega]
 have hlen : (setR l q x).length = l.length := by unfold setR; simp
 refine fin_objs (U := memU l.length (slotsL (setR l q x))) rfl rfl (fun i o ho => ?_) (memU_ob _ _) fun w' g1 g2 => ⟨rfl, ?_, ?_⟩
 ·exact (congrArg (fun z => ([.cells 163 [.sl 1 0 l.length l.length, .v (.bool false)], .cells 168 z] : List Ow)[i]?) hset).trans ho
 ·obtain ⟨k1, k2⟩ := objs_mem g1
  refine ⟨by rw [hlen]; exact k1, k2, h.Bm, h.Bs, fun s hs => ?_, fun j s hs => ?_, fun s hs s' hs' => ?_⟩
  ·obtain ⟨j, hj⟩ := List.getElem?_of_mem hs
   rw [setR_get] at hj
   have : ∃ y ∈ l, y.d = s.d := by
    split at hj
    ·cases hy : l[j]? with
     | none => rw [hy] at hj; cases hj
     | some y => rw [hy] at hj; simp at hj; subst hj; exact ⟨y, List.mem_of_getElem? hy, rfl⟩
    ·exact ⟨s, List.mem_of_getElem? hj, rfl⟩
   obtain ⟨y, hy, e⟩ := this
   obtain ⟨⟨us, hu⟩, hb⟩ := h.dp y hy
   rw [← e]
   exact ⟨⟨us, keep_pages h g2 hu⟩, hb⟩
  ·have : ∃ y, l[j]? = some y ∧ y.c = s.c := by
    rw [setR_get] at hs
    split at hs
    ·cases hy : l[j]? with
     | none => rw [hy] at hs; cases hs
     | some y => rw [hy] at hs; simp at hs; subst hs; exact ⟨y, rfl, rfl⟩
    ·exact ⟨s, hs, rfl⟩
   obtain ⟨y, hy, e⟩ := this
   obtain ⟨hu, hb⟩ := h.cp j y hy
   rw [← e]
   exact ⟨keep_pages h g2 hu, hb⟩
  ·have key : ∀ s ∈ setR l q x, ∃ y ∈ l, y.d = s.d ∧ y.c = s.c ∧ y.od = s.od := fun s hs => by
    obtain ⟨j, hj⟩ := List.getElem?_of_mem hs
    rw [setR_get] at hj
    split at hj
    ·cases hy : l[j]? with
     | none => rw [hy] at hj; cases hj
     | some y => rw [hy] at hj; simp at hj; subst hj; exact ⟨y, List.mem_of_getElem? hy, rfl, rfl, rfl⟩
    ·exact ⟨s, List.mem_of_getElem? hj, rfl, rfl, rfl⟩
   obtain ⟨y, hy, e1, _, e2⟩ := key s hs
   obtain ⟨y', hy', _, e3, _⟩ := key s' hs'
   rw [← e1, ← e3, ← e2]
   exact h.sep y hy y' hy'
 ·exact ⟨g2.os, g2.tape, g2.output, g2.size, fun b hb => g2.block b (Nat.lt_of_lt_of_le hb hsz) (by have h1 := h.Bm; have h2 := h.Bs; simp; omega)⟩
end
end Go.Proofs.YtnhdcclpjildjaaGreat
