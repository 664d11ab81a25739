/- The lifter's own frame: calls of its methods turn its block and its row of operations. -/
import Derived.Test.YtnhdcclpjildjaaGreatMRunsD
namespace Go.Proofs.YtnhdcclpjildjaaGreat
open Go.RowKit

abbrev liT : TypeId := 138
abbrev opT : TypeId := 45
section
variable {w0 : World} {G : Gs} {S : List Ow} {r : Env} {w : World}
theorem lift_at (h : Rel w0 G S r w) {c o : Nat} {x y : CV} {l : List BOp} (h0 : S[c]? = some (.cells liT [x, y, .row o])) (ho : S[o]? = some (.row opT 5 l.length (l.flatMap opC))) (hco : c ≠ o) : ∃ g vA vP vO, r.blk c = some g ∧ r.val o = some vO ∧ x.den r vA ∧ y.den r vP ∧ vO.ownBlock = r.blk o ∧ LiftAt w g vA vP vO l := by
 obtain ⟨g, us, e1, e2, e3⟩ := h.own c _ h0
 simp only [denL] at e3
 obtain ⟨u1, l1, rfl, d1, u2, l2, rfl, d2, u3, l3, rfl, d3, rfl⟩ := e3
 obtain ⟨vO, k1, k2, k3⟩ := h.own o _ ho
 have d3 : r.val o = some u3 := d3
 rw [d3] at k1; injection k1 with k1; subst k1
 refine ⟨g, u1, u2, u3, e1, d3, d1, d2, k2, e2, k3, fun e => ?_⟩
 rw [k2] at e
 exact hco (h.inj c o g e1 e)
theorem rel_lifted (h : Rel w0 G S r w) {c o g : Nat} {x y : CV} {n : Nat} {xs : List Value} {l' : List BOp} {w' : World} {vA vP vO : Value} (h0 : S[c]? = some (.cells liT [x, y, .row o])) (hS : S[o]? = some (.row opT 5 n xs)) (hco : c ≠ o) (hG : G.fix.length ≤ o) (hx : x.names o = false) (hy : y.names o = false)
  (hg : r.blk c = some g) (hvO : r.val o = some vO) (hdA : x.den r vA) (hdP : y.den r vP) (hob : vO.ownBlock = r.blk o) (hl : LiftTo w w' g vA vP vO l') :
  ∃ r2, Rel w0 G (((killS o S).set o (.row opT 5 l'.length (l'.flatMap opC))).set c (.cells liT [x, y, .row o])) r2 w' ∧ But o r r2 := by
 obtain ⟨vO', hat, hb⟩ := hl.out
 have hbut : But o r (r.set o vO'.ownBlock (some vO')) := fun j hj => by simp [Env.set, hj]
 have hil : o < S.length := by
  rcases Nat.lt_or_ge o S.length with h1 | h1
  ·exact h1
  ·rw [List.getElem?_eq_none h1] at hS; cases hS
 have hcl : c < S.length := by
  rcases Nat.lt_or_ge c S.length with h1 | h1
  ·exact h1
  ·rw [List.getElem?_eq_none h1] at h0; cases h0
 have hnewlt : ∀ x, vO'.ownBlock = some x → x < w'.heap.size := fun x hx => (own_new hat.row x hx).2
 have hblk : ∀ j b, r.blk j = some b → j ≠ o → j ≠ c → w'.heap[b]? = w.heap[b]? := fun j b hb hj hj0 => hl.block b (h.new j b hb).1 (fun e => hj0 (h.inj j c b hb (by rw [hg, e]))) (fun e => hj (h.inj j o b hb (by rw [← hob]; exact e)))
 refine ⟨_, ⟨hl.os.trans h.os, hl.tape.trans h.tape, hl.output.trans h.output, Nat.le_trans h.size hl.size, fun k hk hkG => ?_, fun j ow hj => ?_, fun a b x ha hb' => ?_, fun j x hj => ?_, fun j hj => ?_, fun j hj => ?_, fun j g hj => ?_⟩, hbut⟩
 ·rw [hl.block k (Nat.lt_of_lt_of_le hk h.size) (fun e => hkG ((h.new c k (by rw [hg, e])).2 hk)) (fun e => hkG ((h.new o k (by rw [← hob]; exact e)).2 hk))]
  exact h.old k hk hkG
 ·by_cases hj0 : j = c
  ·subst hj0
   rw [List.getElem?_set_self (by simp [killS_length]; exact hcl)] at hj
   injection hj with hj; subst hj
   refine ⟨g, [vA, vP, vO'], by rw [← (hbut _ hco).1]; exact hg, hat.blk, ?_⟩
   simp only [denL]
   exact ⟨_, _, rfl, CV.den_but hbut x vA hx hdA, _, _, rfl, CV.den_but hbut y vP hy hdP, _, _, rfl, by simp [CV.den, Env.set], rfl⟩
  ·rw [List.getElem?_set_ne (fun e => hj0 e.symm)] at hj
   by_cases hij : o = j
   ·subst hij
    rw [List.getElem?_set_self (by rw [killS_length]; exact hil)] at hj
    injection hj with hj; subst hj
    exact ⟨vO', by simp [Env.set], by simp [Env.set], hat.row⟩
   ·rw [List.getElem?_set_ne hij, killS_get] at hj
    cases hSj : S[j]? with
    | none => rw [hSj] at hj; cases hj
    | some o' =>
     rw [hSj] at hj
     simp at hj; subst hj
     have h1 := Ow.holds_block (h.own j o' hSj) (fun x hx => hblk j x hx (Ne.symm hij) hj0) hl.size (fun x hx hno => hl.block x hx (fun e => hno c (by rw [hg, e])) (fun e => hno o (by rw [← hob]; exact e)))
     cases o' with
     | view φ m ys =>
      obtain ⟨A, cp, h2, h3, h4, h5, h6⟩ := h.own j _ hSj
      refine ⟨A, cp, by rw [← (hbut j (Ne.symm hij)).2]; exact h2, h3, h4, by rw [← (hbut j (Ne.symm hij)).1]; exact h5, fun k u hk => ?_⟩
      obtain ⟨b, off, h7, h8, h9, h10⟩ := h6 k u hk
      refine ⟨b, off, h7, Nat.lt_of_lt_of_le h8 hl.size, fun q hq => ?_, (World.cell?_of_block (w := w) (a := ⟨b, off + k, none⟩) (hl.block b h8 (fun e => h9 c (by rw [hg, e])) (fun e => h9 o (by rw [← hob]; exact e)))).trans h10⟩
      by_cases hqi : q = o
      ·subst hqi
       simp [Env.set] at hq
       rcases hb b hq with hb | hb
       ·exact h9 q (by rw [← hob]; exact hb)
       ·omega
      ·exact h9 q (by rw [(hbut q hqi).1]; exact hq)
     | cells t l => obtain ⟨b, us, h2, h3, h4⟩ := h1; exact ⟨b, us, by rw [← (hbut j (Ne.symm hij)).1]; exact h2, h3, killL_den hbut h4⟩
     | row e s n xs => obtain ⟨v, h2, h3, h4⟩ := h1; exact ⟨v, by rw [← (hbut j (Ne.symm hij)).2]; exact h2, by rw [← (hbut j (Ne.symm hij)).1]; exact h3, h4⟩
     | ext φ => obtain ⟨b, h2, h3⟩ := h1; exact ⟨b, by rw [← (hbut j (Ne.symm hij)).1]; exact h2, h3⟩
     | gone => trivial
 ·have fresh : ∀ j x, j ≠ o → r.blk j = some x → vO'.ownBlock = some x → False := fun j x hj hx he => by
   rcases hb x he with hb | hb
   ·rw [hob] at hb; exact hj (h.inj j o x hx hb)
   ·have := (h.new j x hx).1; omega
  simp only [Env.set] at ha hb'
  split at ha <;> split at hb'
  ·omega
  ·exact (fresh b x (by assumption) hb' ha).elim
  ·exact (fresh a x (by assumption) ha hb').elim
  ·exact h.inj a b x ha hb'
 ·simp only [Env.set] at hj
  split at hj
  ·refine ⟨hnewlt x hj, fun hlt => ?_⟩
   rcases hb x hj with hb | hb
   ·rw [hob] at hb; exact (h.new o x hb).2 hlt
   ·have := h.size; omega
  ·exact ⟨Nat.lt_of_lt_of_le (h.new j x hj).1 hl.size, (h.new j x hj).2⟩
 ·have hj' : S.length ≤ j := by simpa [killS_length] using hj
  simp only [Env.set]; rw [if_neg (by omega)]; exact h.outB j hj'
 ·have hj' : S.length ≤ j := by simpa [killS_length] using hj
  simp only [Env.set]; rw [if_neg (by omega)]; exact h.outV j hj'
 ·have : j < G.fix.length := by
   rcases Nat.lt_or_ge j G.fix.length with h1 | h1
   ·exact h1
   ·rw [List.getElem?_eq_none h1] at hj; cases hj
  simp only [Env.set]; rw [if_neg (by omega)]; exact h.first j g hj
end
section
variable {w0 : World} {G : Gs} {f : Fr} {S : List Ow} {K : AV → Fr → List Ow → Prop}
theorem kill_add (c o j n : Nat) {x y : CV} {l : List BOp} (ops : List BOp) (h0 : S[c]? = some (.cells liT [x, y, .row o])) (ho : S[o]? = some (.row opT 5 l.length (l.flatMap opC))) (hj : S[j]? = some (.cells opT ((ops.flatMap opC).map .v))) (hn : ops.length = n) (hjo : j ≠ c ∧ j ≠ o ∧ c ≠ o) (hG : G.fix.length ≤ o) (hx : x.names o = false) (hy : y.names o = false) (hlen : l.length + n ≤ 1000000000)
  (hK : forceL (((killS o S).set o (.row opT 5 (l ++ ops).length ((l ++ ops).flatMap opC))).set c (.cells liT [x, y, .row o])) fun S2 => fillF o f fun f2 => K (.tup []) f2 S2) : KillS Tryz.prog w0 G 71 [.p (.c (.ref c 0)), .p (.c (.sl j 0 n n))] f S K := by
 rw [forceL_iff, fillF_iff] at hK
 refine ⟨by kernel_rfl, fun r w us hR hd => ?_⟩
 obtain ⟨u1, l1, rfl, d1, d2⟩ := hd
 obtain ⟨u2, l2, rfl, d3, d4⟩ := d2
 obtain rfl : l2 = [] := d4
 obtain ⟨g, vA, vP, vO, k1, k2, k3, k4, k5, k6⟩ := lift_at hR h0 ho hjo.2.2
 obtain ⟨b', hb', rfl⟩ := den_ref d1
 rw [k1] at hb'; injection hb' with hb'; subst hb'
 obtain ⟨q, hq, rfl⟩ := den_sl d3
 obtain ⟨q', vs, e1, e2, e3⟩ := hR.own j _ hj
 rw [hq] at e1; injection e1 with e1; subst e1
 obtain rfl := denL_vals_inv e3
 have hcells : CellsAt w (liftG g vO) q 0 (ops.flatMap opC) := by
  refine ⟨(hR.new j q hq).1, ?_, fun i u hi => by simp [World.cell?, e2, hi]⟩
  rintro (h3 | h3)
  ·simp at h3; subst h3; exact hjo.1 (hR.inj _ _ _ hq k1)
  ·simp at h3; exact hjo.2.1 (hR.inj j o q hq (by rw [← k5]; exact h3))
 refine (add_walk k6 ops q n n hcells hn hlen).mono fun e w2 ⟨he, hl⟩ => ?_
 obtain ⟨r2, hR2, hbut⟩ := rel_lifted hR h0 ho hjo.2.2 hG hx hy k1 k2 k3 k4 k5 hl
 exact ⟨_, .tup [], _, _, r2, he, hR2, fun a hf => hf.kill hbut, ⟨_, rfl, rfl⟩, hK⟩
theorem kill_lift (c o : Nat) {x y : CV} {l : List BOp} (l2 : List BOp) (v : Value) {fid : FuncId} {args : List AV} {us : List Value} (h0 : S[c]? = some (.cells liT [x, y, .row o])) (ho : S[o]? = some (.row opT 5 l.length (l.flatMap opC))) (hco : c ≠ o) (hG : G.fix.length ≤ o) (hx : x.names o = false) (hy : y.names o = false) (hu : avals args = some us) (hok : fnOk Tryz.prog fid = true)
  (h : ∀ w g vA vP vO, LiftAt w g vA vP vO l → Calls Tryz.prog fid (pV g :: us).toArray w fun e w' => e = .returned v ∧ LiftTo w w' g vA vP vO l2)
  (hK : forceL (((killS o S).set o (.row opT 5 l2.length (l2.flatMap opC))).set c (.cells liT [x, y, .row o])) fun S2 => fillF o f fun f2 => K (AV.of v) f2 S2) : KillS Tryz.prog w0 G fid (.p (.c (.ref c 0)) :: args) f S K := by
 rw [forceL_iff, fillF_iff] at hK
 refine ⟨hok, fun r w us hR hd => ?_⟩
 obtain ⟨u1, l1, rfl, d1, d2⟩ := hd
 obtain rfl := avals_den hu d2
 obtain ⟨g, vA, vP, vO, k1, k2, k3, k4, k5, k6⟩ := lift_at hR h0 ho hco
 obtain ⟨b', hb', rfl⟩ := den_ref d1
 rw [k1] at hb'; injection hb' with hb'; subst hb'
 refine (h w g vA vP vO k6).mono fun e w2 ⟨he, hl⟩ => ?_
 obtain ⟨r2, hR2, hbut⟩ := rel_lifted hR h0 ho hco hG hx hy k1 k2 k3 k4 k5 hl
 exact ⟨_, _, _, _, r2, he, hR2, fun a hf => hf.kill hbut, AV.of_den _ _, hK⟩
end
end Go.Proofs.YtnhdcclpjildjaaGreat
namespace Go.Proofs.YtnhdcclpjildjaaGreat
open Go.RowKit

theorem comp_inv {d : Array Int} (hs : ∀ i j, i ≤ j → j < d.size → d[i]! ≤ d[j]!) : ∀ m, m ≤ d.size → Inc (Lib.compactUpTo d m) ∧ ∀ x, x ∈ Lib.compactUpTo d m ↔ ∃ j, j < m ∧ d[j]! = x
 | 0, _ => ⟨List.Pairwise.nil, fun x => by simp [Lib.compactUpTo]⟩
 | m + 1, hm => by
  obtain ⟨h1, h2⟩ := comp_inv hs m (by omega)
  rw [Lib.compactUpTo_succ]
  cases hk : Lib.keeps d m with
  | true =>
   rw [if_pos rfl]
   refine ⟨?_, fun x => ?_⟩
   ·unfold Inc at h1 ⊢
    rw [List.pairwise_append]
    refine ⟨h1, by simp, fun x hx y hy => ?_⟩
    obtain rfl : y = d[m]! := by simpa using hy
    obtain ⟨j, hj, rfl⟩ := (h2 x).1 hx
    have h3 := hs j (m - 1) (by omega) (by omega)
    have h4 := hs (m - 1) m (by omega) (by omega)
    have h5 : d[m]! ≠ d[m - 1]! := by
     unfold Lib.keeps at hk
     have := of_decide_eq_true hk
     rcases this with h6 | h6
     ·omega
     ·exact h6
    omega
   ·rw [List.mem_append, h2]
    constructor
    ·rintro (⟨j, hj, rfl⟩ | hx)
     ·exact ⟨j, by omega, rfl⟩
     ·exact ⟨m, by omega, by simpa using (List.mem_singleton.1 hx).symm⟩
    ·rintro ⟨j, hj, rfl⟩
     rcases Nat.lt_or_ge j m with h3 | h3
     ·exact .inl ⟨j, h3, rfl⟩
     ·obtain rfl : j = m := by omega
      exact .inr (by simp)
  | false =>
   have h5 : m ≠ 0 ∧ d[m]! = d[m - 1]! := by
    unfold Lib.keeps at hk
    have := of_decide_eq_false hk
    refine ⟨fun h => this (.inl h), ?_⟩
    rcases Classical.em (d[m]! = d[m - 1]!) with h6 | h6
    ·exact h6
    ·exact absurd (.inr h6) this
   simp only [Bool.false_eq_true, if_false, List.append_nil]
   refine ⟨h1, fun x => ?_⟩
   rw [h2]
   constructor
   ·rintro ⟨j, hj, rfl⟩; exact ⟨j, by omega, rfl⟩
   ·rintro ⟨j, hj, rfl⟩
    rcases Nat.lt_or_ge j m with h3 | h3
    ·exact ⟨j, h3, rfl⟩
    ·obtain rfl : j = m := by omega
     exact ⟨j - 1, by omega, h5.2.symm⟩
def uniqL (zs : List Int) : List Int := Lib.compact (zs.mergeSort fun x y => decide (x ≤ y))
theorem uniqL_is (zs : List Int) : Inc (uniqL zs) ∧ ∀ x, x ∈ uniqL zs ↔ x ∈ zs := by
 have hp : (zs.mergeSort fun x y => decide (x ≤ y)).Pairwise (fun x y => decide (x ≤ y) = true) := List.pairwise_mergeSort (by intro a b c; simp; omega) (by intro a b; simp; omega) zs
 have hm : ∀ x, x ∈ (zs.mergeSort fun x y => decide (x ≤ y)) ↔ x ∈ zs := fun x => List.mem_mergeSort
 unfold uniqL Lib.compact
 generalize (zs.mergeSort fun x y => decide (x ≤ y)) = l at hp hm
 obtain ⟨h1, h2⟩ := comp_inv (d := l.toArray) (fun i j hij hj => by
  have hj : j < l.length := by simpa using hj
  rw [getElem!_pos _ i (by simp; omega), getElem!_pos _ j (by simpa using hj)]
  rcases Nat.lt_or_ge i j with h | h
  ·have := List.pairwise_iff_getElem.1 hp i j (by omega) hj h
   simpa using this
  ·obtain rfl : i = j := by omega
   exact Int.le_refl _) l.length (by simp)
 refine ⟨h1, fun x => ?_⟩
 rw [h2, ← hm]
 constructor
 ·rintro ⟨j, hj, rfl⟩
  rw [getElem!_pos _ j (by simpa using hj)]
  simp
 ·intro hx
  obtain ⟨j, hj, rfl⟩ := List.mem_iff_getElem.1 hx
  exact ⟨j, hj, by rw [getElem!_pos _ j (by simpa using hj)]; simp⟩
theorem uniqL_length (zs : List Int) : (uniqL zs).length ≤ zs.length := by
 have h : ∀ (d : Array Int) m, (Lib.compactUpTo d m).length ≤ m := fun d m => by
  unfold Lib.compactUpTo; rw [List.length_map]
  exact Nat.le_trans (List.length_filter_le _ _) (by simp)
 have := h (zs.mergeSort fun x y => decide (x ≤ y)).toArray (zs.mergeSort fun x y => decide (x ≤ y)).length
 rw [List.length_mergeSort] at this
 unfold uniqL Lib.compact
 rw [List.length_mergeSort]
 exact this
end Go.Proofs.YtnhdcclpjildjaaGreat
namespace Go.Proofs
open Go.Shelf Go.Lib
def Tryz.laysSort_ren : Go.Shelf.Ren := ⟨fun | 189 => 102 | 125 => 120 | 257 => 119 | 128 => 132 | 129 => 133 | 294 => 123 | 295 => 124 | 296 => 125 | 297 => 126 | 298 => 127 | 299 => 128 | 216 => 129 | 300 => 130 | 301 => 131 | 328 => 137 | 329 => 138 | 330 => 139 | 331 => 140 | 332 => 141 | 215 => 142 | 343 => 144 | n => n, fun | 28 => 29 | 3 => 3 | 46 => 116 | 0 => 0 | 51 => 35 | 53 => 155 | 4 => 4 | 183 => 199 | 182 => 198 | 131 => 175 | 5 => 5 | 9 => 9 | 218 => 207 | 222 => 211 | 228 => 213 | 229 => 214 | n => n, fun n => n⟩
theorem Tryz.laysSort : Lays.n189 Tryz.prog Tryz.laysSort_ren where
 mixed := by kernel_rfl
 f125 := Tryz.func120.trans (congrArg some (by kernel_rfl))
 f128 := Tryz.func132.trans (congrArg some (by kernel_rfl))
 f129 := Tryz.func133.trans (congrArg some (by kernel_rfl))
 f189 := Tryz.func102.trans (congrArg some (by kernel_rfl))
 f215 := Tryz.func142.trans (congrArg some (by kernel_rfl))
 f216 := Tryz.func129.trans (congrArg some (by kernel_rfl))
 f257 := Tryz.func119.trans (congrArg some (by kernel_rfl))
 f294 := Tryz.func123.trans (congrArg some (by kernel_rfl))
 f295 := Tryz.func124.trans (congrArg some (by kernel_rfl))
 f296 := Tryz.func125.trans (congrArg some (by kernel_rfl))
 f297 := Tryz.func126.trans (congrArg some (by kernel_rfl))
 f298 := Tryz.func127.trans (congrArg some (by kernel_rfl))
 f299 := Tryz.func128.trans (congrArg some (by kernel_rfl))
 f300 := Tryz.func130.trans (congrArg some (by kernel_rfl))
 f301 := Tryz.func131.trans (congrArg some (by kernel_rfl))
 f328 := Tryz.func137.trans (congrArg some (by kernel_rfl))
 f329 := Tryz.func138.trans (congrArg some (by kernel_rfl))
 f330 := Tryz.func139.trans (congrArg some (by kernel_rfl))
 f331 := Tryz.func140.trans (congrArg some (by kernel_rfl))
 f332 := Tryz.func141.trans (congrArg some (by kernel_rfl))
 f343 := Tryz.func144.trans (congrArg some (by kernel_rfl))
 t0 := Tryz.underlying0
 a0 := Tryz.isAgg0
 z0 := Tryz.sizeOf0
 v0 := Tryz.zeroValue0
 t3 := Tryz.underlying3
 a3 := Tryz.isAgg3
 z3 := Tryz.sizeOf3
 v3 := Tryz.zeroValue3
 t4 := Tryz.underlying4
 a4 := Tryz.isAgg4
 z4 := Tryz.sizeOf4
 v4 := Tryz.zeroValue4
 t5 := Tryz.underlying5
 a5 := Tryz.isAgg5
 z5 := Tryz.sizeOf5
 v5 := Tryz.zeroValue5
 t9 := Tryz.underlying9
 a9 := Tryz.isAgg9
 z9 := Tryz.sizeOf9
 v9 := Tryz.zeroValue9
 t28 := Tryz.underlying29
 a28 := Tryz.isAgg29
 z28 := Tryz.sizeOf29
 v28 := Tryz.zeroValue29
 t46 := Tryz.underlying116
 a46 := Tryz.isAgg116
 z46 := Tryz.sizeOf116
 v46 := Tryz.zeroValue116
 t51 := Tryz.underlying35
 a51 := Tryz.isAgg35
 z51 := Tryz.sizeOf35
 v51 := Tryz.zeroValue35
 t53 := Tryz.underlying155
 a53 := Tryz.isAgg155
 z53 := Tryz.sizeOf155
 v53 := Tryz.zeroValue155
 t131 := Tryz.underlying175
 a131 := Tryz.isAgg175
 z131 := Tryz.sizeOf175
 v131 := Tryz.zeroValue175
 t182 := Tryz.underlying198
 a182 := Tryz.isAgg198
 z182 := Tryz.sizeOf198
 v182 := Tryz.zeroValue198
 t183 := Tryz.underlying199
 a183 := Tryz.isAgg199
 z183 := Tryz.sizeOf199
 v183 := Tryz.zeroValue199
 t218 := Tryz.underlying207
 a218 := Tryz.isAgg207
 z218 := Tryz.sizeOf207
 v218 := Tryz.zeroValue207
 t222 := Tryz.underlying211
 a222 := Tryz.isAgg211
 z222 := Tryz.sizeOf211
 v222 := Tryz.zeroValue211
 t228 := Tryz.underlying213
 a228 := Tryz.isAgg213
 z228 := Tryz.sizeOf213
 v228 := Tryz.zeroValue213
 t229 := Tryz.underlying214
 a229 := Tryz.isAgg214
 z229 := Tryz.sizeOf214
 v229 := Tryz.zeroValue214
def Tryz.laysCompact_ren : Go.Shelf.Ren := ⟨fun | 20 => 103 | n => n, fun | 22 => 29 | 3 => 3 | 4 => 4 | 0 => 0 | n => n, fun n => n⟩
theorem Tryz.laysCompact : Lays2.n20 Tryz.prog Tryz.laysCompact_ren where
 mixed := by kernel_rfl
 f20 := Tryz.func103.trans (congrArg some (by kernel_rfl))
 t0 := Tryz.underlying0
 a0 := Tryz.isAgg0
 z0 := Tryz.sizeOf0
 v0 := Tryz.zeroValue0
 t3 := Tryz.underlying3
 a3 := Tryz.isAgg3
 z3 := Tryz.sizeOf3
 v3 := Tryz.zeroValue3
 t4 := Tryz.underlying4
 a4 := Tryz.isAgg4
 z4 := Tryz.sizeOf4
 v4 := Tryz.zeroValue4
 t22 := Tryz.underlying29
 a22 := Tryz.isAgg29
 z22 := Tryz.sizeOf29
 v22 := Tryz.zeroValue29
 i3 := by kernel_rfl
end Go.Proofs
namespace Go.Proofs.YtnhdcclpjildjaaGreat
open Go.RowKit

theorem sort_row (w : World) (v : Value) (zs : List Int) (hn : zs.length ≤ 1000000) (h : w.ownsRow 0 3 1 v zs.length (zs.map intV)) :
  Calls Tryz.prog 102 #[v] w fun e w' => e = .returned (.tuple #[]) ∧ w'.ownsRow 0 3 1 v zs.length ((zs.mergeSort fun x y => decide (x ≤ y)).map intV) ∧ w.grownBy w' v.ownBlock := by
 rcases h.2 with ⟨rfl, h0⟩ | ⟨g, cap, cur, rfl, hg, hh, hnc, hcap, hsz, htake⟩
 ·have : zs = [] := List.eq_nil_of_length_eq_zero h0
  subst this
  refine (Any.slices_Sort_int_none Tryz.laysSort none 0 w).mono fun e w' ⟨h3, h4⟩ => ⟨h3, ⟨by simp, .inl ⟨rfl, rfl⟩⟩, ?_⟩
  rw [h4]; exact World.grownBy.refl _ _
 ·obtain ⟨g', cap', e1, _, hlt, _, _, _, hH⟩ := Lib.holds_of_ownsRow (enc := Value.int .i64) h (by simp)
  injection e1 with e1 _ e2
  injection e1 with e1; injection e1 with e1
  subst e1; subst e2
  refine (Any.slices_Sort_int Tryz.laysSort g 0 cap zs w hH hlt (by omega)).mono fun e w' ⟨h3, n, os, h4⟩ => ⟨h3, ?_, ?_⟩
  ·rw [h4]; exact Go.ownsRow_sortedI (by simp) hg hh hnc hcap hsz
  ·rw [h4]; exact Go.grownBy_sortedI _
theorem compact_row (w : World) (v : Value) (zs : List Int) (hn : zs.length ≤ 1000000) (h : w.ownsRow 0 3 1 v zs.length (zs.map intV)) :
  Calls Tryz.prog 103 #[v] w fun e w' => ∃ v', e = .returned v' ∧ w'.ownsRow 0 3 1 v' (Lib.compact zs).length ((Lib.compact zs).map intV) ∧ w.grownBy w' v.ownBlock ∧ v'.ownBlock = v.ownBlock := by
 rcases h.2 with ⟨rfl, h0⟩ | ⟨g, cap, cur, rfl, hg, hh, hnc, hcap, hsz, htake⟩
 ·have : zs = [] := List.eq_nil_of_length_eq_zero h0
  subst this
  refine (Any.slices_Compact_int_empty Tryz.laysCompact none 0 w).mono fun e w' ⟨h3, h4⟩ => ⟨_, h3, ⟨rfl, .inl ⟨rfl, rfl⟩⟩, ?_, rfl⟩
  rw [h4]; exact World.grownBy.refl _ _
 ·obtain ⟨g', cap', e1, _, hlt, _, _, _, hH⟩ := Lib.holds_of_ownsRow (enc := Value.int .i64) h (by simp)
  injection e1 with e1 _ e2
  injection e1 with e1; injection e1 with e1
  subst e1; subst e2
  have hle := Lib.compact_length_le zs
  refine (Any.slices_Compact_int Tryz.laysCompact g 0 cap zs w hH (by omega) hnc).mono fun e w' ⟨h3, q, h4⟩ => ⟨_, h3, ?_, ?_, rfl⟩
  ·rw [h4]
   have := Lib.ownsRow_putRow (q := q) (k := (Lib.compact zs).length) (ys := Lib.compact zs ++ List.replicate (zs.length - (Lib.compact zs).length) 0) h (by simp; omega) hle
   rw [List.take_left] at this
   exact this
  ·rw [h4]
   refine ⟨rfl, rfl, rfl, by simp [Sort.putRow, Sort.mapBlock, Sort.ahead], fun k hk hne => ?_⟩
   have hne : g ≠ k := fun e => hne (by rw [e]; rfl)
   simp [Sort.putRow, Sort.mapBlock, Array.getElem?_modify, hne, Sort.ahead]
theorem unique_of (w : World) (A : Option Addr) (n n' c : Nat) (xs ss us : List Value) (h : w.ownsRow 0 3 1 (.slice A n c) n xs)
  (hs : ∀ w, w.ownsRow 0 3 1 (.slice A n c) n xs → Calls Tryz.prog 102 #[.slice A n c] w fun e w' => e = .returned (.tuple #[]) ∧ w'.ownsRow 0 3 1 (.slice A n c) n ss ∧ w.grownBy w' (Value.slice A n c).ownBlock)
  (hc : ∀ w, w.ownsRow 0 3 1 (.slice A n c) n ss → Calls Tryz.prog 103 #[.slice A n c] w fun e w' => ∃ v', e = .returned v' ∧ w'.ownsRow 0 3 1 v' n' us ∧ w.grownBy w' (Value.slice A n c).ownBlock ∧ v'.ownBlock = (Value.slice A n c).ownBlock) :
  Calls Tryz.prog 74 #[.slice A n c] w fun e w' => ∃ v', e = .returned v' ∧ w'.ownsRow 0 3 1 v' n' us ∧ w.grownBy w' (Value.slice A n c).ownBlock ∧ v'.ownBlock = (Value.slice A n c).ownBlock := by
 generalize (Value.slice A n c).ownBlock = B at hs hc ⊢
 refine calls_satq [.slice A n c] Tryz.func74 Tryz.ntmps74 rfl (by simp) ?_
 refine satq_seqN ?_
 conv => whnf
 refine satq_in (satq_jump 1 rfl rfl rfl ?_)
 conv => whnf
 refine jmp_con (fun u w1 => u = .tuple #[] ∧ w1.ownsRow 0 3 1 (.slice A n c) n ss ∧ w.grownBy w1 B) rfl (by kernel_rfl) (fun r w1 hR => ?_) fun u w1 hj => ?_
 ·have hB := hR.toBelow
  refine (hs w1 (owns_below h hB)).mono fun e w2 ⟨he, k1, k2⟩ => ⟨_, he, rfl, k1, ?_⟩
  exact ⟨k2.os.trans hB.os, k2.tape.trans hB.tape, k2.output.trans hB.output, Nat.le_trans hB.size k2.size, fun k hk hne => (k2.block k (Nat.lt_of_lt_of_le hk hB.size) hne).trans (hB.block k hk)⟩
 ·obtain ⟨hu, h1, h2⟩ := hj
  subst hu
  conv => whnf
  refine atq_on ?_
  refine satq_in (satq_jump 1 rfl rfl rfl ?_)
  conv => whnf
  refine jmp_con (fun u w2 => w2.ownsRow 0 3 1 u n' us ∧ w.grownBy w2 B ∧ u.ownBlock = B) rfl (by kernel_rfl) (fun r w2 hR => ?_) fun u w2 hj => ?_
  ·have hB := hR.toBelow
   refine (hc w2 (owns_below h1 hB)).mono fun e w3 ⟨v', he, k1, k2, k3⟩ => ⟨v', he, k1, ?_, k3⟩
   exact ⟨k2.os.trans (hB.os.trans h2.os), k2.tape.trans (hB.tape.trans h2.tape), k2.output.trans (hB.output.trans h2.output), Nat.le_trans h2.size (Nat.le_trans hB.size k2.size), fun k hk hne => (k2.block k (Nat.lt_of_lt_of_le hk (Nat.le_trans h2.size hB.size)) hne).trans ((hB.block k (Nat.lt_of_lt_of_le hk h2.size)).trans (h2.block k hk hne))⟩
  ·obtain ⟨k1, k2, k3⟩ := hj
   obtain ⟨A2, c2, rfl, _⟩ := own_slice k1
   conv => whnf
   refine atq_on ?_
   refine satq_vcN ?_
   conv => whnf
   refine atq_ret ?_
   conv => whnf
   exact fin_val rfl fun w3 hB => ⟨_, rfl, owns_below k1 hB, ⟨hB.os.trans k2.os, hB.tape.trans k2.tape, hB.output.trans k2.output, Nat.le_trans k2.size hB.size, fun k hk hne => (hB.block k (Nat.lt_of_lt_of_le hk k2.size)).trans (k2.block k hk hne)⟩, k3⟩
theorem unique_walk (w : World) (v : Value) (zs : List Int) (hn : zs.length ≤ 1000000) (h : w.ownsRow 0 3 1 v zs.length (zs.map intV)) :
  Calls Tryz.prog 74 #[v] w fun e w' => ∃ v', e = .returned v' ∧ w'.ownsRow 0 3 1 v' (uniqL zs).length ((uniqL zs).map intV) ∧ w.grownBy w' v.ownBlock ∧ v'.ownBlock = v.ownBlock := by
 obtain ⟨A, c, rfl, _⟩ := own_slice h
 have hl : (zs.mergeSort fun x y => decide (x ≤ y)).length = zs.length := List.length_mergeSort zs
 have h2 := fun w => compact_row w (.slice A (zs.mergeSort fun x y => decide (x ≤ y)).length c) _ (by rw [hl]; exact hn)
 rw [hl] at h2
 exact unique_of w A zs.length _ c _ _ _ h (fun w => sort_row w _ zs hn) h2
end Go.Proofs.YtnhdcclpjildjaaGreat
namespace Go.Proofs.YtnhdcclpjildjaaGreat
open Go.RowKit

def WrOk (w w' : World) (sb off d : Nat) (od : Bool) (us : List Value) (pg : List Int) (d' : Nat) : Prop :=
 (od = true ∧ d' = d ∧ Below w.heap.size w w') ∨
 (od = false ∧ w.heap.size ≤ d' ∧ w'.heap[d']? = some (.cells (pg.map byteV).toArray 166 (0, 0)) ∧ w'.heap[sb]? = some (.cells ((us.set off (ptrV d')).set (off + 2) (.bool true)).toArray 168 (0, 0)) ∧ w.grownBy w' (some sb))
theorem byteV_flat (S : List Ow) : ∀ us : List Int, onesL S (List.map CV.v (us.map byteV)) = true
 | [] => rfl
 | u :: us => by
  show (match oneS S (.v (.int .u8 u)) with | true => onesL S (List.map CV.v (us.map byteV)) | false => false) = true
  exact byteV_flat S us
set_option maxRecDepth 100000 in
set_option maxHeartbeats 1000000 in
theorem writable_walk (w : World) (sb off d : Nat) (od : Bool) (us : List Value) (pg : List Int) (hs : w.heap[sb]? = some (.cells us.toArray 168 (0, 0))) (hd : us[off]? = some (ptrV d)) (ho : us[off + 2]? = some (.bool od)) (hp : PageAt w d pg) (h8 : 8 < us.length) :
  Calls Tryz.prog 113 #[.pointer (some ⟨sb, off, none⟩)] w fun e w' => ∃ d', e = .returned (ptrV d') ∧ WrOk w w' sb off d od us pg d' := by
 cases od with
 | true =>
  refine (calls_valN [.pointer (some ⟨sb, off, none⟩)] (R := fun e w' => e = .returned (ptrV d) ∧ Below w.heap.size w w') Tryz.func113 Tryz.ntmps113 rfl (by simp) ?_).mono fun e w' h => ⟨d, h.1, .inl ⟨rfl, rfl, h.2⟩⟩
  conv => whnf
  refine ⟨_, block_cells hs ho, ?_⟩
  conv => whnf
  (repeat ((first | apply k1 | apply k2 | apply k3 | apply k4 | refine k5 (by decide) ?_ | refine k6 (by decide) ?_); conv => whnf))
  conv => whnf
  refine ⟨_, block_cells hs (off := off + 0) hd, ?_⟩
  conv => whnf
  exact fin_val rfl fun w' hB => ⟨rfl, hB⟩
 | false =>
  have hne : d ≠ sb := fun e => by
   have := hp.at_
   rw [e, hs] at this
   injection this with this
   injection this with h1 h2
   cases h2
  have hlen : (List.map CV.v (pg.map byteV)).length = 256 := by rw [List.length_map, List.length_map, hp.len]
  have hlo : off + 2 < us.length := by
   rcases Nat.lt_or_ge (off + 2) us.length with h1 | h1
   ·exact h1
   ·rw [List.getElem?_eq_none h1] at ho; cases ho
  have hpc : CellsAt w ⟨[sb], []⟩ d 0 (pg.map byteV) := by
   refine ⟨heap_lt hp.at_, ?_, fun j u hj => by simp [World.cell?, hp.at_, hj]⟩
   rintro (h1 | h1)
   ·simp at h1; exact hne h1
   ·cases h1
  have g0 : (List.map CV.v us)[off + 0]? = some (.v (ptrV d)) := by rw [Nat.add_zero, List.getElem?_map, hd]; rfl
  have g2 : (List.map CV.v us)[off + 2]? = some (.v (.bool false)) := by rw [List.getElem?_map, ho]; rfl
  refine calls_satq_rel [.p (.c (.ref 0 off))] [.pointer (some ⟨sb, off, none⟩)] Tryz.func113 Tryz.ntmps113 rfl (by simp) (rel_own1 w hs) ⟨_, _, rfl, den_mk_ref rfl, rfl⟩ ?_
  refine satq_seqN ?_
  conv => whnf
  refine satq_cut (α := Unit) (fun _ => [(0, .p (.c (.ref 0 off))), (3, .p (.c (.ref 1 0)))]) (fun _ => [.cells 168 (((us.map CV.v).set off (.ref 1 0)).set (off + 2) (.v (.bool true))), .cells 166 ((pg.map byteV).map .v)]) ?_ fun _ => ?_
  ·conv => whnf
   erw [g2]
   conv => whnf
   (repeat ((first | apply k1 | apply k2 | apply k3 | apply k4 | refine k5 (by decide) ?_ | refine k6 (by decide) ?_); conv => whnf))
   conv => whnf
   erw [g0]
   conv => whnf
   refine ⟨_, hpc, by rw [List.length_map, hp.len]; rfl, ?_⟩
   conv => whnf
   rw [show Nat.beq (List.map CV.v (List.map byteV pg)).length (Tryz.prog.types[166].size) = true from by rw [hlen]; rfl, byteV_flat]
   conv => whnf
   rw [hlen]
   conv => whnf
   have hul : (List.map CV.v us).length = us.length := List.length_map _
   erw [show Nat.ble (off + 0 + 1) (List.map CV.v us).length = true from Nat.ble_eq_true_of_le (by rw [hul]; omega)]
   conv => whnf
   erw [show Nat.ble (List.map CV.v us).length 8 = false from by rw [hul]; exact ble_no h8]
   conv => whnf
   have hul2 : (setAll (List.map CV.v us) (off + 0) [CV.ref 1 0]).length = us.length := by rw [setAll_length, hul]
   erw [show Nat.ble (off + 2 + 1) (setAll (List.map CV.v us) (off + 0) [CV.ref 1 0]).length = true from Nat.ble_eq_true_of_le (by rw [hul2]; omega)]
   conv => whnf
   erw [show Nat.ble (setAll (List.map CV.v us) (off + 0) [CV.ref 1 0]).length 8 = false from by rw [hul2]; exact ble_no h8]
   conv => whnf
   exact ⟨(), ent_same rfl (aI rfl (aI rfl trivial)) (aI sM (aI ((aI rfl (Or.inl (setAll_same (by rw [hlen]; kernel_rfl))))) trivial))⟩
  ·have hL : (((List.map CV.v us).set off (.ref 1 0)).set (off + 2) (.v (.bool true)))[off + 0]? = some (CV.ref 1 0) := by
    rw [List.getElem?_set_ne (by omega), Nat.add_zero, List.getElem?_set_self (by rw [List.length_map]; omega)]
   refine satq_vcN ?_
   conv => whnf
   erw [hL]
   conv => whnf
   refine atq_ret ?_
   conv => whnf
   refine ⟨fun r w' u hR hd => ?_⟩
   obtain ⟨d', hb, rfl⟩ := den_ref hd
   refine ⟨d', rfl, .inr ⟨rfl, ?_, ?_, ?_, hR.grown⟩⟩
   ·have h1 := (hR.new 1 d' hb)
    rcases Nat.lt_or_ge d' w.heap.size with h2 | h2
    ·have h3 := h1.2 h2
     rcases h3 with h3 | h3
     ·simp at h3
      subst h3
      have h4 := hR.first 0 d' rfl
      have := hR.inj 0 1 d' h4 hb
      omega
     ·cases h3
    ·exact h2
   ·obtain ⟨b', vs, e1, e2, e3⟩ := hR.own 1 _ rfl
    rw [hb] at e1; injection e1 with e1; subst e1
    rw [e2, denL_vals_inv e3]
   ·obtain ⟨b', vs, e1, e2, e3⟩ := hR.own 0 _ rfl
    have h4 := hR.first 0 sb rfl
    rw [h4] at e1; injection e1 with e1; subst e1
    have e4 : denL r (((List.map CV.v us).set off (.ref 1 0)).set (off + 2) (.v (.bool true))) ((us.set off (ptrV d')).set (off + 2) (.bool true)) :=
     denL_set (off + 2) (denL_set off (denL_vals us) (by simp only [CV.den]; exact ⟨d', hb, rfl⟩)) (by simp only [CV.den])
    have e5 : vs = (us.set off (ptrV d')).set (off + 2) (.bool true) := by
     refine denL_det (n := 2) (fun c hc => ?_) e3 e4
     rcases List.mem_or_eq_of_mem_set hc with h5 | h5
     ·rcases List.mem_or_eq_of_mem_set h5 with h6 | h6
      ·obtain ⟨v, _, rfl⟩ := List.mem_map.1 h6; rfl
      ·rw [h6]; rfl
     ·rw [h5]; rfl
    rw [e2, e5]
end Go.Proofs.YtnhdcclpjildjaaGreat
namespace Go.Proofs.YtnhdcclpjildjaaGreat
open Go.RowKit

theorem slotsL_set : ∀ {l : List Slt} {k : Nat} {s : Slt} (d' : Nat), l[k]? = some s → slotsL (l.set k { s with d := d', od := true }) = ((slotsL l).set (7 * k) (ptrV d')).set (7 * k + 2) (.bool true)
 | [], k, s, d', h => by simp at h
 | x :: l, 0, s, d', h => by
  simp at h; subst h
  rfl
 | x :: l, k + 1, s, d', h => by
  have ih := slotsL_set (l := l) (k := k) d' (by simpa using h)
  show slotL x ++ slotsL (l.set k _) = ((slotL x ++ slotsL l).set (7 * (k + 1)) _).set (7 * (k + 1) + 2) _
  rw [ih, show 7 * (k + 1) = (slotL x).length + 7 * k by show _ = 7 + 7 * k; omega, List.set_append_right _ _ (by omega), show (slotL x).length + 7 * k + 2 = (slotL x).length + (7 * k + 2) by omega, List.set_append_right _ _ (by omega)]
  simp
theorem cells_type {w : World} {b : Nat} {us vs : List Value} {t t' : TypeId} (h : w.heap[b]? = some (.cells us.toArray t (0, 0))) (k : w.heap[b]? = some (.cells vs.toArray t' (0, 0))) : t = t' := by
 rw [h] at k; injection k with k; injection k
section
variable {w w' : World} {B m sb : Nat} {l : List Slt} {img : Nat → List Int}
theorem wr_mem (h : MemAt2 w B m sb l img) {k : Nat} {s : Slt} (hk : l[k]? = some s) {pg : List Int} (hp : PageAt w s.d pg) {d' : Nat} (hw : WrOk w w' sb (7 * k) s.d s.od (slotsL l) pg d') :
  ∃ l' s', MemAt2 w' B m sb l' img ∧ keepS l l' ∧ l'[k]? = some s' ∧ s'.d = d' ∧ s'.od = true ∧ PageAt w' d' pg ∧ Below B w w' ∧ FrameT w w' := by
 have hsz : B ≤ w.heap.size := Nat.le_of_lt (Nat.lt_of_le_of_lt h.Bm (heap_lt h.hm))
 rcases hw with ⟨ho, rfl, hB⟩ | ⟨ho, hd1, hd2, hs, hg⟩
 ·exact ⟨l, s, h.later hB, keepS.refl l, hk, rfl, ho, hp.later (hB.block _ (heap_lt hp.at_)), hB.mono hsz, FrameT.of hB⟩
 have hkl : k < l.length := by
  rcases Nat.lt_or_ge k l.length with h1 | h1
  ·exact h1
  ·rw [List.getElem?_eq_none h1] at hk; cases hk
 have keep : ∀ {b : Nat} {o : Obj}, w.heap[b]? = some o → b ≠ sb → w'.heap[b]? = w.heap[b]? := fun hb hn => hg.block _ (heap_lt hb) (by simpa using hn)
 have keepP : ∀ {b : Nat} {us : List Int}, PageAt w b us → PageAt w' b us := fun hu => hu.later (keep hu.at_ fun e => by subst e; have := cells_type hu.at_ h.hs; cases this)
 have hpn : PageAt w' d' pg := ⟨hd2, hp.len, hp.byte⟩
 refine ⟨l.set k { s with d := d', od := true }, { s with d := d', od := true }, ⟨?_, ?_, h.Bm, h.Bs, ?_, ?_, ?_⟩, ⟨by simp, fun j => ?_⟩, by rw [List.getElem?_set_self hkl], rfl, rfl, hpn, ?_, FrameT.grown hg h.hs (.inl rfl)⟩
 ·rw [List.length_set, keep h.hm fun e => by subst e; have := cells_type h.hm h.hs; cases this]; exact h.hm
 ·rw [slotsL_set d' hk]; exact hs
 ·intro x hx
  rcases List.mem_or_eq_of_mem_set hx with hx | rfl
  ·obtain ⟨⟨us, hu⟩, hb⟩ := h.dp x hx; exact ⟨⟨us, keepP hu⟩, hb⟩
  ·exact ⟨⟨pg, hpn⟩, Nat.le_trans hsz hd1⟩
 ·intro j x hx
  by_cases hj : j = k
  ·subst hj
   rw [List.getElem?_set_self hkl] at hx
   injection hx with hx; subst hx
   obtain ⟨hu, hb⟩ := h.cp j s hk
   exact ⟨keepP hu, hb⟩
  ·rw [List.getElem?_set_ne (fun e => hj e.symm)] at hx
   obtain ⟨hu, hb⟩ := h.cp j x hx
   exact ⟨keepP hu, hb⟩
 ·have hc : ∀ x ∈ l.set k { s with d := d', od := true }, ∃ y ∈ l, x.c = y.c ∧ (x.od = true → x = y ∨ x.d = d') ∧ x.c < w.heap.size := by
   intro x hx
   rcases List.mem_or_eq_of_mem_set hx with hx | rfl
   ·obtain ⟨j, hj⟩ := List.getElem?_of_mem hx
    exact ⟨x, hx, rfl, fun _ => .inl rfl, heap_lt (h.cp j x hj).1.at_⟩
   ·exact ⟨s, List.mem_of_getElem? hk, rfl, fun _ => .inr rfl, heap_lt (h.cp k s hk).1.at_⟩
  intro x hx y hy hxo
  obtain ⟨x', hx', _, hx2, _⟩ := hc x hx
  obtain ⟨y', hy', hy1, _, hy2⟩ := hc y hy
  rcases hx2 hxo with rfl | hd
  ·rw [hy1]; exact h.sep x hx' y' hy' hxo
  ·omega
 ·rw [List.getElem?_set]
  split
  ·rename_i e; subst e
   rw [hk]; rfl
  ·rfl
 ·exact ⟨hg.os, hg.tape, hg.output, hg.size, fun b hb => hg.block b (Nat.lt_of_lt_of_le hb hsz) (by simp; have := h.Bs; omega)⟩
theorem put_mem (h : MemAt2 w B m sb l img) {k : Nat} {s : Slt} (hk : l[k]? = some s) (ho : s.od = true) {pg : List Int} (hp : PageAt w' s.d pg) (hg : w.grownBy w' (some s.d)) : MemAt2 w' B m sb l img ∧ Below B w w' ∧ FrameT w w' := by
 have hsz : B ≤ w.heap.size := Nat.le_of_lt (Nat.lt_of_le_of_lt h.Bm (heap_lt h.hm))
 obtain ⟨⟨us, hu⟩, hb⟩ := h.dp s (List.mem_of_getElem? hk)
 have keep : ∀ {b : Nat} {o : Obj}, w.heap[b]? = some o → b ≠ s.d → w'.heap[b]? = w.heap[b]? := fun hb hn => hg.block _ (heap_lt hb) (by simpa using hn)
 refine ⟨⟨?_, ?_, h.Bm, h.Bs, fun x hx => ?_, fun j x hx => ?_, h.sep⟩, ⟨hg.os, hg.tape, hg.output, hg.size, fun b hb' => hg.block b (Nat.lt_of_lt_of_le hb' hsz) (by simp; omega)⟩, FrameT.grown hg hu.at_ (.inr rfl)⟩
 ·rw [keep h.hm fun e => by have h1 := h.hm; rw [e] at h1; cases cells_type h1 hu.at_]; exact h.hm
 ·rw [keep h.hs fun e => by have h1 := h.hs; rw [e] at h1; cases cells_type h1 hu.at_]; exact h.hs
 ·obtain ⟨⟨us', hu'⟩, hb'⟩ := h.dp x hx
  by_cases e : x.d = s.d
  ·exact ⟨⟨pg, by rw [e]; exact hp⟩, hb'⟩
  ·exact ⟨⟨us', hu'.later (keep hu'.at_ e)⟩, hb'⟩
 ·obtain ⟨hu', hb'⟩ := h.cp j x hx
  exact ⟨hu'.later (keep hu'.at_ fun e => h.sep s (List.mem_of_getElem? hk) x (List.mem_of_getElem? hx) ho e.symm), hb'⟩
set_option maxRecDepth 100000 in
set_option maxHeartbeats 1000000 in
theorem set_mem {w : World} {B m sb : Nat} {l : List Slt} {img : Nat → List Int} (h : MemAt2 w B m sb l img) (a b : Int) (ha : word a) (hb : 0 ≤ b ∧ b < 256) (h2 : 2 ≤ l.length) :
  Calls Tryz.prog 95 #[ptrV m, .int .u32 a, .int .u8 b] w fun e w' => e = .returned (.tuple #[]) ∧ ∃ l', MemAt2 w' B m sb l' img ∧ keepS l l' ∧ Below B w w' ∧ FrameT w w' := by
 have hw : 0 ≤ a ∧ a < 4294967296 := ha
 have hsz : B ≤ w.heap.size := Nat.le_of_lt (Nat.lt_of_le_of_lt h.Bm (heap_lt h.hm))
 refine calls_satq [ptrV m, .int .u32 a, .int .u8 b] Tryz.func95 Tryz.ntmps95 rfl (by simp) ?_
 refine satq_seqN ?_
 conv => whnf
 refine call_con rfl (by kernel_rfl) (fun r w' hR => at_mem a (by rw [hR.toBelow.block _ (heap_lt h.hm)]; exact h.hm) ha) ?_
 by_cases hlt : a / 256 < (l.length : Int)
 ·obtain ⟨k, hk⟩ : ∃ k : Nat, (a / 256).toNat = k := ⟨_, rfl⟩
  have hkl : k < l.length := by omega
  obtain ⟨s, hs⟩ : ∃ s, l[k]? = some s := ⟨_, List.getElem?_eq_getElem hkl⟩
  obtain ⟨⟨pg, hp⟩, hBd⟩ := h.dp s (List.mem_of_getElem? hs)
  have hat : atV sb l.length a = .pointer (some ⟨sb, 7 * k, none⟩) := by unfold atV; rw [if_pos hlt, hk]; congr 3; omega
  have hoff : 0 ≤ a % 256 ∧ a % 256 < 256 := by omega
  obtain ⟨x, hx⟩ : ∃ x, pg[(a % 256).toNat]? = some x := ⟨_, List.getElem?_eq_getElem (by rw [hp.len]; omega)⟩
  rw [hat]
  conv => whnf
  refine satq_seqN ?_
  conv => whnf
  refine q_nil_v _ rfl rfl rfl rfl ?_
  conv => whnf
  (repeat ((first | apply k1 | apply k2 | apply k3 | apply k4 | refine k5 (by decide) ?_ | refine k6 (by decide) ?_); conv => whnf))
  refine ⟨_, block_cells h.hs (off := 7 * k + 0) (slotsL_get hs rfl), ?_⟩
  conv => whnf
  (repeat ((first | apply k1 | apply k2 | apply k3 | apply k4 | refine k5 (by decide) ?_ | refine k6 (by decide) ?_); conv => whnf))
  refine ⟨by decide, a % 256, Int.tmod_eq_emod_of_nonneg hw.1, ?_⟩
  conv => whnf
  (repeat ((first | apply k1 | apply k2 | apply k3 | apply k4 | refine k5 (by decide) ?_ | refine k6 (by decide) ?_); conv => whnf))
  refine q_index_ptr (size := 1) s.d 0 256 (a % 256) rfl rfl rfl rfl rfl rfl hoff.1 hoff.2 ?_
  conv => whnf
  (repeat ((first | apply k1 | apply k2 | apply k3 | apply k4 | refine k5 (by decide) ?_ | refine k6 (by decide) ?_); conv => whnf))
  refine ⟨_, block_cells hp.at_ (off := 0 + (a % 256).toNat * 1) (x := byteV x) (by rw [Nat.zero_add, Nat.mul_one, List.getElem?_map, hx]; rfl), ?_⟩
  conv => whnf
  (repeat ((first | apply k1 | apply k2 | apply k3 | apply k4 | refine k5 (by decide) ?_ | refine k6 (by decide) ?_); conv => whnf))
  refine ⟨fun hc => ?_, fun hc => ?_⟩
  ·conv => whnf
   refine atq_ret ?_
   conv => whnf
   exact fin_val rfl fun w' hB => ⟨rfl, l, h.later hB, keepS.refl l, hB.mono hsz, FrameT.of hB⟩
  conv => whnf
  refine satq_jump_own 1 rfl rfl rfl ?_
  conv => whnf
  refine jmp_con (fun u w' => ∃ d' l' s', u = ptrV d' ∧ MemAt2 w' B m sb l' img ∧ keepS l l' ∧ l'[k]? = some s' ∧ s'.d = d' ∧ s'.od = true ∧ PageAt w' d' pg ∧ Below B w w' ∧ FrameT w w') rfl (by kernel_rfl) (fun r w1 hR => ?_) (fun u w' hj => ?_)
  ·have hB1 := hR.toBelow
   have h1 := h.later hB1
   have hp1 := hp.later (hB1.block _ (heap_lt hp.at_))
   refine (writable_walk w1 sb (7 * k) s.d s.od (slotsL l) pg h1.hs (by have := slotsL_get (j := 0) hs rfl; exact this) (slotsL_get (j := 2) hs rfl) hp1 (by rw [slotsL_length]; omega)).mono fun e w' ⟨d', he, hwr⟩ => ?_
   obtain ⟨l', s', q1, q2, q3, q4, q5, q6, q7, q8⟩ := wr_mem h1 hs hp1 hwr
   exact ⟨ptrV d', he, d', l', s', rfl, q1, q2, q3, q4, q5, q6, (hB1.mono hsz).trans q7, (FrameT.of hB1).trans q8⟩
  ·obtain ⟨d', l', s', rfl, q1, q2, q3, q4, q5, q6, q7, q8⟩ := hj
   have hlen : (List.map CV.v (pg.map byteV)).length = 256 := by rw [List.length_map, List.length_map, hp.len]
   refine ⟨d', _, pg.map byteV, rfl, q6.at_, ?_⟩
   conv => whnf
   refine ⟨by decide, a % 256, Int.tmod_eq_emod_of_nonneg hw.1, ?_⟩
   conv => whnf
   (refine ⟨⟨by omega, by omega⟩, ?_⟩; (conv=>whnf))
   rw [show Nat.ble (0 + (a % 256).toNat * tsz Tryz.prog 5 + [CV.v (Value.int IntKind.u8 b)].length) (List.map CV.v (pg.map byteV)).length = true from Nat.ble_eq_true_of_le (by rw [hlen]; show 0 + _ * 1 + 1 ≤ 256; omega)]
   conv => whnf
   rw [show Nat.ble (List.map CV.v (pg.map byteV)).length 8 = false from by rw [hlen]; rfl]
   conv => whnf
   refine atq_end ?_
   conv => whnf
   have hset : setAll (List.map CV.v (pg.map byteV)) (0 + (a % 256).toNat * tsz Tryz.prog 5) [CV.v (Value.int IntKind.u8 b)] = List.map CV.v ((pg.set (a % 256).toNat b).map byteV) := by
    rw [set_vals]
    show List.map CV.v ((pg.map byteV).set (0 + (a % 256).toNat * 1) (byteV b)) = _
    rw [Nat.zero_add, Nat.mul_one]; simp only [List.map_set]
   refine fin_own (us := (pg.set (a % 256).toNat b).map byteV) rfl (by rw [hset]; rfl) fun w2 g1 g2 => by
    subst q4
    obtain ⟨z1, z2, z3⟩ := put_mem q1 q3 q5 (pg := pg.set (a % 256).toNat b) ⟨g1, by rw [List.length_set]; exact q6.len, fun y hy => (List.mem_or_eq_of_mem_set hy).elim (q6.byte y) fun e => e ▸ hb⟩ g2
    exact ⟨rfl, l', z1, q2, q7.trans z2, q8.trans z3⟩
 ·have hat : atV sb l.length a = .pointer none := by unfold atV; rw [if_neg hlt]
  rw [hat]
  conv => whnf
  refine satq_seqN ?_
  conv => whnf
  refine q_nil_v _ rfl rfl rfl rfl ?_
  conv => whnf
  (repeat ((first | apply k1 | apply k2 | apply k3 | apply k4 | refine k5 (by decide) ?_ | refine k6 (by decide) ?_); conv => whnf))
  refine atq_ret ?_
  conv => whnf
  exact fin_val rfl fun w' hB => ⟨rfl, l, h.later hB, keepS.refl l, hB.mono hsz, FrameT.of hB⟩
end
end Go.Proofs.YtnhdcclpjildjaaGreat
namespace Go.Proofs.YtnhdcclpjildjaaGreat
open Go.RowKit

section
variable {B m sb : Nat} {img : Nat → List Int}
set_option maxRecDepth 100000 in
theorem poke1_walk {w : World} {l : List Slt} (h : MemAt2 w B m sb l img) (h2 : 2 ≤ l.length) {pm pa : Nat} {a : Int} (hx : Boxes w pm pa m a) (_ha : word a) (i : Nat) (b : Int) (hi : i < 4294967296) (hb : 0 ≤ b ∧ b < 256) :
  Calls Tryz.prog 94 #[intV (i : Int), .int .u8 b, ptrV pm, ptrV pa] w fun e w' => e = .returned (.tuple #[]) ∧ MemTo w w' B m sb l img := by
 refine calls_satq [intV (i : Int), .int .u8 b, ptrV pm, ptrV pa] Tryz.func94 Tryz.ntmps94 rfl (by simp) ?_
 refine satq_jump 6 rfl rfl rfl ?_
 conv => whnf
 refine ⟨_, block_cells (us := [ptrV m]) hx.bm rfl, ?_⟩
 conv => whnf
 refine ⟨_, block_cells (us := [.int .u32 a]) hx.ba rfl, ?_⟩
 conv => whnf
 refine ⟨(i : Int), by rw [wr32]; omega, ?_⟩
 conv => whnf
 refine ⟨(a + i) % 4294967296, wr32 _, ?_⟩
 conv => whnf
 refine jmp_con (fun u w' => u = .tuple #[] ∧ MemTo w w' B m sb l img) rfl (by kernel_rfl) (fun r w1 hR => ?_) (fun u w' hj => ?_)
 ·have h1 := h.later hR.toBelow
  have hsz : B ≤ w.heap.size := Nat.le_of_lt (Nat.lt_of_le_of_lt h.Bm (heap_lt h.hm))
  exact (set_mem h1 ((a + i) % 4294967296) b (by unfold word; omega) hb h2).mono fun e w' ⟨he, hq⟩ => ⟨_, he, rfl, MemTo.trans (keepS.refl l) (hR.toBelow.mono hsz) (FrameT.of hR.toBelow) hq⟩
 ·obtain ⟨rfl, hq⟩ := hj
  conv => whnf
  refine atq_end ?_
  conv => whnf
  exact fin_val rfl fun w2 hB => ⟨rfl, hq.later hB⟩
set_option maxRecDepth 100000 in
theorem each_walk {w : World} {l : List Slt} (h : MemAt2 w B m sb l img) (h2 : 2 ≤ l.length) {pm pa : Nat} {a : Int} (hx : Boxes w pm pa m a) (ha : word a) (xs : List Int) (hxs : ∀ x ∈ xs, 0 ≤ x ∧ x < 256) (hlen : xs.length ≤ 1000000) :
  Calls Tryz.prog 93 #[strV xs, .func (.func 94) #[] #[ptrV pm, ptrV pa]] w fun e w' => e = .returned (.tuple #[]) ∧ MemTo w w' B m sb l img := by
 refine calls_satq [strV xs, .func (.func 94) #[] #[ptrV pm, ptrV pa]] Tryz.func93 Tryz.ntmps93 rfl (by simp) ?_
 refine satq_seqN ?_
 conv => whnf
 refine q_len_str xs rfl rfl rfl ?_
 conv => whnf
 refine satq_block ?_
 refine satq_loopX (fun j : { j : Nat // j ≤ xs.length } => [(0, one (strV xs)), (1, one (.func (.func 94) #[] #[ptrV pm, ptrV pa])), (6, one (intV (xs.length : Int))), (7, one (intV (j.1 : Int)))]) (fun _ w' => MemTo w w' B m sb l img) (fun j => xs.length - j.1) ⟨0, by omega⟩ (aI rfl (aI rfl (aI rfl (aI rfl trivial)))) (fun r w' hR => MemTo.start h hR.toBelow) (fun j w' hJ => ?_)
 obtain ⟨j, hj⟩ := j
 obtain ⟨l', k1, k2, k3, k4⟩ := hJ
 dsimp only
 refine satq_seqN ?_
 conv => whnf
 refine satq_seqN ?_
 conv => whnf
 refine ⟨fun hc => ?_, fun hc => ?_⟩
 ·have hlt : j < xs.length := by simpa using hc
  obtain ⟨b, hb⟩ : ∃ b, xs[j]? = some b := ⟨_, List.getElem?_eq_getElem hlt⟩
  have hbb := hxs b (List.mem_of_getElem? hb)
  conv => whnf
  refine satq_in (satq_block ?_)
  refine satq_seqN ?_
  conv => whnf
  refine satq_jump 5 rfl rfl rfl ?_
  conv => whnf
  refine q_index_str xs .i64 j b rfl rfl rfl rfl hb hbb ?_
  conv => whnf
  refine jmp_con (fun u w2 => u = .tuple #[] ∧ MemTo w w2 B m sb l img) rfl (by kernel_rfl) (fun r w1 hR => ?_) (fun u w2 hq => ?_)
  ·have hB1 := hR.toBelow
   have hsz : B ≤ w'.heap.size := Nat.le_of_lt (Nat.lt_of_le_of_lt k1.Bm (heap_lt k1.hm))
   exact (poke1_walk (k1.later hB1) (by rw [k2.1]; exact h2) ((hx.keep k4).keep (FrameT.of hB1)) ha j b (by omega) hbb).mono fun e w3 ⟨he, hq⟩ => ⟨_, he, rfl, MemTo.trans k2 (k3.trans (hB1.mono hsz)) (k4.trans (FrameT.of hB1)) hq⟩
  ·obtain ⟨rfl, hq⟩ := hq
   conv => whnf
   refine atq_then ?_
   refine satq_vcN ?_
   conv => whnf
   refine ⟨((j + 1 : Nat) : Int), by rw [show (j : Int) + 1 = ((j + 1 : Nat) : Int) by omega]; exact wr64 (by omega), ?_⟩
   conv => whnf
   exact atq_nextW ⟨j + 1, by omega⟩ (aI rfl (aI rfl (aI rfl (aI rfl trivial)))) (fun r w3 hR => hq.later hR.toBelow) (by show xs.length - (j + 1) < xs.length - j; omega)
 ·conv => whnf
  refine atq_outW (atq_exit (atq_end ?_))
  conv => whnf
  exact fin_val rfl fun w2 hB => ⟨rfl, MemTo.later ⟨l', k1, k2, k3, k4⟩ hB⟩
end
end Go.Proofs.YtnhdcclpjildjaaGreat
namespace Go.Proofs.YtnhdcclpjildjaaGreat
open Go.RowKit

section
variable {B m sb : Nat} {img : Nat → List Int}
set_option maxRecDepth 100000 in
theorem pokeM_walk {w : World} {l : List Slt} (h : MemAt2 w B m sb l img) (h2 : 2 ≤ l.length) {a : Int} (ha : word a) (xs : List Int) (hxs : ∀ x ∈ xs, 0 ≤ x ∧ x < 256) (hlen : xs.length ≤ 1000000) :
  Calls Tryz.prog 67 #[ptrV m, .int .u32 a, strV xs] w fun e w' => e = .returned (.tuple #[]) ∧ MemTo w w' B m sb l img := by
 have hsz : B ≤ w.heap.size := Nat.le_of_lt (Nat.lt_of_le_of_lt h.Bm (heap_lt h.hm))
 refine calls_satq [ptrV m, .int .u32 a, strV xs] Tryz.func67 Tryz.ntmps67 rfl (by simp) ?_
 refine satq_seqN ?_
 conv => whnf
 refine satq_restart fun r w1 hR => ?_
 obtain ⟨pm, us1, e1, f1, k1⟩ := hR.own 0 _ rfl
 obtain ⟨pa, us2, e2, f2, k2⟩ := hR.own 1 _ rfl
 obtain rfl := denL_vals_inv (us := [ptrV m]) k1
 obtain rfl := denL_vals_inv (us := [.int .u32 a]) k2
 refine ⟨slotFr [(2, strV xs), (3, ptrV pm), (4, ptrV pa)], fun a' hf => slots_den ⟨slot_val hf rfl, slot_ref hf 3 rfl e1, slot_ref hf 4 rfl e2, trivial⟩, ?_⟩
 have hB1 := hR.toBelow
 have h1 := h.later hB1
 have hx : Boxes w1 pm pa m a := ⟨f1, f2⟩
 clear hR
 refine satq_jump 2 rfl rfl rfl ?_
 conv => whnf
 refine q_makeFunc2 rfl rfl rfl ?_
 conv => whnf
 refine jmp_con (fun u w2 => u = .tuple #[] ∧ MemTo w w2 B m sb l img) rfl (by kernel_rfl) (fun r w2 hR => ?_) (fun u w2 hq => ?_)
 ·have hB2 := hR.toBelow
  exact (each_walk (h1.later hB2) h2 (hx.keep (FrameT.of hB2)) ha xs hxs hlen).mono fun e w3 ⟨he, hq⟩ => ⟨_, he, rfl, MemTo.trans (keepS.refl l) ((hB1.mono hsz).trans (hB2.mono (Nat.le_trans hsz hB1.size))) ((FrameT.of hB1).trans (FrameT.of hB2)) hq⟩
 ·obtain ⟨rfl, hq⟩ := hq
  conv => whnf
  refine atq_end ?_
  conv => whnf
  exact fin_val rfl fun w3 hB => ⟨rfl, hq.later hB⟩
def setR (l : List Slt) (q : Nat) (x : Int) : List Slt := l.modify q fun s => { s with r := x }
theorem slotsL_setR : ∀ {l : List Slt} {q : Nat} (x : Int), q < l.length → slotsL (setR l q x) = (slotsL l).set (7 * q + 6) (intV x)
 | [], q, x, h => by simp at h
 | s :: l, 0, x, h => rfl
 | s :: l, q + 1, x, h => by
  have ih := slotsL_setR (l := l) (q := q) x (by simpa using h)
  show slotL s ++ slotsL (setR l q x) = (slotL s ++ slotsL l).set (7 * (q + 1) + 6) _
  rw [ih, show 7 * (q + 1) + 6 = (slotL s).length + (7 * q + 6) by show _ = 7 + _; omega, List.set_append_right _ _ (by omega)]
  simp
theorem setR_get (l : List Slt) (q k : Nat) (x : Int) : (setR l q x)[k]? = if q = k then (l[k]?).map (fun s => { s with r := x }) else l[k]? := by
 unfold setR; rw [List.getElem?_modify]
 split
 ·rfl
 ·cases l[k]? <;> rfl
abbrev memU (n : Nat) (us : List Value) : List Ow := [.cells 163 [.sl 1 0 n n, .v (.bool false)], .cells 168 (us.map .v)]
theorem memU_ob (n : Nat) (us : List Value) : ObAll 2 (memU n us) := by
 intro o ho
 simp only [memU, List.mem_cons, List.not_mem_nil, or_false] at ho
 rcases ho with rfl | rfl
 ·intro c hc
  simp only [List.mem_cons, List.not_mem_nil, or_false] at hc
  rcases hc with rfl | rfl <;> rfl
 ·exact ob_vals 2 _
theorem mem_ne {w : World} {l : List Slt} (h : MemAt2 w B m sb l img) : m ≠ sb := fun e => by
 have h1 := h.hm; rw [e] at h1; cases cells_type (us := [.slice (some ⟨sb, 0, none⟩) l.length l.length, .bool false]) h1 h.hs
theorem mem_objs {w : World} {l : List Slt} (h : MemAt2 w B m sb l img) : ObjsAt w [m, sb] (memU l.length (slotsL l)) := by
 have hne := mem_ne h
 refine ⟨rfl, fun i j b hi hj => ?_, fun g hg => ?_, fun i o ho => ?_⟩
 ·match i, j with
  | 0, 0 => rfl
  | 1, 1 => rfl
  | 0, 1 => simp at hi hj; subst hi; exact absurd hj.symm hne
  | 1, 0 => simp at hi hj; subst hi; exact absurd hj hne
  | i + 2, _ => simp at hi
  | 0, j + 2 => simp at hj
  | 1, j + 2 => simp at hj
 ·simp at hg
  rcases hg with rfl | rfl
  ·exact heap_lt h.hm
  ·exact heap_lt h.hs
 ·match i with
  | 0 =>
   simp at ho; subst ho
   exact ⟨m, _, rfl, h.hm, ⟨_, _, rfl, ⟨sb, rfl, rfl⟩, _, _, rfl, rfl, rfl⟩⟩
  | 1 =>
   simp at ho; subst ho
   exact ⟨sb, _, rfl, h.hs, denL_vals _⟩
  | i + 2 => simp at ho
theorem objs_mem {w : World} {n : Nat} {us : List Value} (h : ObjsAt w [m, sb] (memU n us)) : w.heap[m]? = some (.cells #[.slice (some ⟨sb, 0, none⟩) n n, .bool false] 163 (0, 0)) ∧ w.heap[sb]? = some (.cells us.toArray 168 (0, 0)) := by
 constructor
 ·obtain ⟨b, vs, e1, e2, e3⟩ := h.own 0 _ rfl
  obtain rfl : m = b := by injection e1
  have : vs = [.slice (some ⟨sb, 0, none⟩) n n, .bool false] := denL_det (n := 2) (fun c hc => by
   simp only [List.mem_cons, List.not_mem_nil, or_false] at hc
   rcases hc with rfl | rfl <;> rfl) e3 ⟨_, _, rfl, ⟨sb, rfl, rfl⟩, _, _, rfl, rfl, rfl⟩
  rw [e2, this]
 ·obtain ⟨b, vs, e1, e2, e3⟩ := h.own 1 _ rfl
  obtain rfl : sb = b := by injection e1
  rw [e2, denL_vals_inv e3]
theorem keep_pages {w w' : World} {l : List Slt} (h : MemAt2 w B m sb l img) (hg : GrownBys w w' [m, sb]) {b : Nat} {us : List Int} (hp : PageAt w b us) : PageAt w' b us := hp.later (hg.block b (heap_lt hp.at_) (by
 simp only [List.mem_cons, List.not_mem_nil, or_false, not_or]
 exact ⟨fun e => (by have h1 := h.hm; rw [← e] at h1; cases cells_type (us := [.slice (some ⟨sb, 0, none⟩) l.length l.length, .bool false]) h1 hp.at_), fun e => (by have h1 := h.hs; rw [← e] at h1; cases cells_type h1 hp.at_)⟩))
theorem call_pagesU {w0 : World} {gs : Gs} {S : List Ow} {K : AV → List Ow → Prop} {n : Nat} {us : List Value} {T : List Ow} (l : List Slt) (hl : l.length = n) (hS : S = memU n us ++ T) (hK : K (AV.of (intV (n : Int))) S) : CallS Tryz.prog w0 gs 96 [.p (.c (.ref 0 0))] S K := by
 refine callS_val (intV (n : Int)) (by kernel_rfl) (fun r w1 vs hR hd => ?_) hK
 obtain ⟨u1, l1, rfl, d1, d2⟩ := hd
 obtain rfl : l1 = [] := d2
 obtain ⟨b, hb, rfl⟩ := den_ref d1
 obtain ⟨b', vs, e1, e2, e3⟩ := hR.own 0 (.cells 163 [.sl 1 0 n n, .v (.bool false)]) (by rw [hS]; rfl)
 rw [hb] at e1; injection e1 with e1; subst e1
 obtain ⟨v1, l2, rfl, d3, v2, l3, rfl, d4, d5⟩ := e3
 obtain rfl : l3 = [] := d5
 obtain ⟨sb, _, rfl⟩ := d3
 obtain rfl : v2 = .bool false := d4
 subst hl
 exact pages_mem (l := l) e2
set_option maxRecDepth 100000 in
theorem protectM_walk {w : World} {l : List Slt} (h : MemAt2 w B m sb l img) (q : Nat) (hq : q < l.length) (h2 : 2 ≤ l.length) (x : Int) (hx : 0 ≤ x ∧ x < 8) :
  Calls Tryz.prog 70 #[ptrV m, intV (q : Int), intV x] w fun e w' => e = .returned (.tuple #[]) ∧ MemAt2 w' B m sb (setR l q x) img ∧ Below B w w' := by
 have hsz : B ≤ w.heap.size := Nat.le_of_lt (Nat.lt_of_le_of_lt h.Bm (heap_lt h.hm))
 have hsl := slotsL_length l
 have hml : (List.map CV.v (slotsL l)).length = 7 * l.length := by rw [List.length_map, hsl]
 refine calls_objs_satq [.p (.c (.ref 0 0)), one (intV (q : Int)), one (intV x)] [ptrV m, intV (q : Int), intV x] Tryz.func70 Tryz.ntmps70 rfl (by simp) (mem_objs h) ⟨_, _, rfl, den_mk_ref rfl, avdenL_of [intV (q : Int), intV x]⟩ ?_
 refine satq_seqN ?_
 conv => whnf
 refine ⟨fun _ => ?_, fun hc => absurd hc (by simp)⟩
 conv => whnf
 (repeat ((first | apply k1 | apply k2 | apply k3 | apply k4 | refine k5 (by decide) ?_ | refine k6 (by decide) ?_); conv => whnf))
 refine call_pagesU l rfl rfl (T := []) ?_
 conv => whnf
 (repeat ((first | apply k1 | apply k2 | apply k3 | apply k4 | refine k5 (by decide) ?_ | refine k6 (by decide) ?_); conv => whnf))
 refine satq_vcN ?_
 conv => whnf
 refine ⟨fun _ => ?_, fun hc => absurd hc (by simp; omega)⟩
 conv => whnf
 refine ⟨x, bits_and7 hx, ?_⟩
 conv => whnf
 (refine ⟨⟨by omega, by omega⟩, ?_⟩; (conv=>whnf))
 erw [show Nat.ble (0 + (q : Int).toNat * 7 + 6 + 1) (List.map CV.v (slotsL l)).length = true from Nat.ble_eq_true_of_le (by rw [hml]; omega)]
 conv => whnf
 erw [show Nat.ble (List.map CV.v (slotsL l)).length 8 = false from by rw [hml]; exact ble_no (by omega)]
 conv => whnf
 refine atq_end ?_
 conv => whnf
 have hset : setAll (List.map CV.v (slotsL l)) (0 + (q : Int).toNat * 7 + 6) [CV.v (intV x)] = List.map CV.v (slotsL (setR l q x)) := by
  rw [set_vals, slotsL_setR x hq, show 0 + (q : Int).toNat * 7 + 6 = 7 * q + 6 by omega]
 have hlen : (setR l q x).length = l.length := by unfold setR; simp
 refine fin_objs (U := memU l.length (slotsL (setR l q x))) rfl rfl (fun i o ho => ?_) (memU_ob _ _) fun w' g1 g2 => ⟨rfl, ?_, ?_⟩
 ·exact (congrArg (fun z => ([.cells 163 [.sl 1 0 l.length l.length, .v (.bool false)], .cells 168 z] : List Ow)[i]?) hset).trans ho
 ·obtain ⟨k1, k2⟩ := objs_mem g1
  refine ⟨by rw [hlen]; exact k1, k2, h.Bm, h.Bs, fun s hs => ?_, fun j s hs => ?_, fun s hs s' hs' => ?_⟩
  ·obtain ⟨j, hj⟩ := List.getElem?_of_mem hs
   rw [setR_get] at hj
   have : ∃ y ∈ l, y.d = s.d := by
    split at hj
    ·cases hy : l[j]? with
     | none => rw [hy] at hj; cases hj
     | some y => rw [hy] at hj; simp at hj; subst hj; exact ⟨y, List.mem_of_getElem? hy, rfl⟩
    ·exact ⟨s, List.mem_of_getElem? hj, rfl⟩
   obtain ⟨y, hy, e⟩ := this
   obtain ⟨⟨us, hu⟩, hb⟩ := h.dp y hy
   rw [← e]
   exact ⟨⟨us, keep_pages h g2 hu⟩, hb⟩
  ·have : ∃ y, l[j]? = some y ∧ y.c = s.c := by
    rw [setR_get] at hs
    split at hs
    ·cases hy : l[j]? with
     | none => rw [hy] at hs; cases hs
     | some y => rw [hy] at hs; simp at hs; subst hs; exact ⟨y, rfl, rfl⟩
    ·exact ⟨s, hs, rfl⟩
   obtain ⟨y, hy, e⟩ := this
   obtain ⟨hu, hb⟩ := h.cp j y hy
   rw [← e]
   exact ⟨keep_pages h g2 hu, hb⟩
  ·have key : ∀ s ∈ setR l q x, ∃ y ∈ l, y.d = s.d ∧ y.c = s.c ∧ y.od = s.od := fun s hs => by
    obtain ⟨j, hj⟩ := List.getElem?_of_mem hs
    rw [setR_get] at hj
    split at hj
    ·cases hy : l[j]? with
     | none => rw [hy] at hj; cases hj
     | some y => rw [hy] at hj; simp at hj; subst hj; exact ⟨y, List.mem_of_getElem? hy, rfl, rfl, rfl⟩
    ·exact ⟨s, List.mem_of_getElem? hj, rfl, rfl, rfl⟩
   obtain ⟨y, hy, e1, _, e2⟩ := key s hs
   obtain ⟨y', hy', _, e3, _⟩ := key s' hs'
   rw [← e1, ← e3, ← e2]
   exact h.sep y hy y' hy'
 ·exact ⟨g2.os, g2.tape, g2.output, g2.size, fun b hb => g2.block b (Nat.lt_of_lt_of_le hb hsz) (by have h1 := h.Bm; have h2 := h.Bs; simp; omega)⟩
end
end Go.Proofs.YtnhdcclpjildjaaGreat
