/- Strings: one behind another, of a part of a block; slices of own blocks; an own entry with other kno. -/
import Derived.Test.YtnhdcclpjildjaaGreatMStopsB
namespace Go.Proofs.YtnhdcclpjildjaaGreat
open Go.RowKit

theorem bytesA_append (l m : List Int) : bytesA (l ++ m) = bytesA l ++ bytesA m := by
 have h : (bytesA (l ++ m)).data = (bytesA l ++ bytesA m).data := by
  apply Array.ext'
  rw [bytesA_list, List.map_append, ByteArray.data_append, Array.toList_append, bytesA_list, bytesA_list]
 exact ByteArray.ext h
section
variable {P : Program} {w0 : World} {G : Gs} {N : Nd} {S : List Ow} {f : Fr} {o : Oper}
theorem opS_q {K : Fr → List Ow → Prop} (h : QRun P w0 G S f o fun v => K (f.put o.dst v) S) (hdst : dstOk N.n o.dst = true) : OpS P w0 G N o f S K :=
 ⟨fun r a w hR hf hN hd next Q hK => by
  obtain ⟨v, u, hk, hv, hrun⟩ := h.use hR hf
  exact wp_of_value (hrun w (Below.refl _ _)) (hK _ _ _ _ hk ⟨r, hR, hf.put hv (by rw [hN]; exact hdst), (put_size a _ _).trans hN, (put_defers a _ _).trans hd⟩)⟩
theorem q_cat_str {K : AV → Prop} {t t' : TypeId} {x y : Operand} (l m : List Int) (hop : o.op = .binOp .add t x y t') (hx : f.ev x = one (strV l)) (hy : f.ev y = one (strV m)) (hlen : l.length + m.length ≤ 9223372036854775807) (hk : K (one (strV (l ++ m)))) : QRun P w0 G S f o K := by
 refine ⟨_, hk, fun r a hf => ?_⟩
 have h1 := hf.ev x
 have h2 := hf.ev y
 rw [hx] at h1; rw [hy] at h2
 refine ⟨_, rfl, fun w hR => ?_⟩
 have hb : ¬ ((((bytesA l).size + (bytesA m).size : Nat) : Int) > IntKind.i64.max) := by
  rw [bytesA_size, bytesA_size]
  show ¬ (_ > (9223372036854775807 : Int))
  omega
 have hb' : ¬ (IntKind.i64.max < ((bytesA l).size : Int) + ((bytesA m).size : Int)) := by omega
 simp [execOp, hop, den_v h1, den_v h2, strV, binOp, Op.stringOp, eqGuard, bytesA_append]
 rw [bytesA_size, bytesA_size]; omega
theorem q_conv_plain {K : AV → Prop} {x : Operand} {src dst e : TypeId} (b off n c : Nat) (m : List Int) (hop : o.op = .convert src dst x) (hs : P.underlying src = some (.slice e)) (he : P.underlying e = some (.int .u8)) (hd : P.underlying dst = some .string) (hx : f.ev x = one (.slice (some ⟨b, off, none⟩) n c)) (hi : CellsAt w0 G b off (m.map (Value.int .u8))) (hn : m.length = n) (hk : K (one (strV m))) : QRun P w0 G S f o K := by
 refine ⟨_, hk, fun r a hf => ?_⟩
 have h1 := hf.ev x
 rw [hx] at h1
 refine ⟨_, rfl, fun w hR => ?_⟩
 have hl : (loadCells ⟨b, off, none⟩ n).run P w = .ok (m.map (Value.int .u8)).toArray w := by
  unfold loadCells
  have := run_loadCells (P := P) (w := w) (b := b) (off := off) n 0 #[] (m.map (Value.int .u8)) (by simp [hn]) (fun j u hj => by
   rw [Nat.add_zero, hR.oldCell hi.1 hi.2.1]; exact hi.2.2 j u hj)
  simpa using this
 simp [execOp, hop, den_v h1, run_convert_bytes_string w src dst e _ n c hs he hd, run_bytesToString w _ n c m hl, strV, bytesA]
theorem q_slice_own {K : AV → Prop} {t e : TypeId} {x : Operand} {lo hi : Option Operand} {inf : TypeInfo} (i off n c l h size : Nat) (hop : o.op = .slice t x lo hi none) (ht : P.underlying t = some (.slice e)) (hif : P.info? e = some inf) (hsz : inf.size = size) (hx : f.ev x = .p (.c (.sl i off n c)))
  (hl : (lo = none ∧ l = 0) ∨ ∃ y q, lo = some y ∧ f.ev y = one (.int q (l : Int))) (hh : (hi = none ∧ h = n) ∨ ∃ y q, hi = some y ∧ f.ev y = one (.int q (h : Int))) (hlh : l ≤ h) (hhc : h ≤ c) (hlc : l < c) (hk : K (.p (.c (.sl i (off + l * size) (h - l) (c - l))))) : QRun P w0 G S f o K := by
 refine ⟨_, hk, fun r a hf => ?_⟩
 have h1 := hf.ev x
 rw [hx] at h1
 obtain ⟨b, hb, hu⟩ := den_sl h1
 refine ⟨.slice (some ⟨b, off + l * size, none⟩) (h - l) (c - l), ?_, fun w hR => ?_⟩
 ·simp only [AV.den, Pc.den, CV.den]; exact ⟨b, hb, rfl⟩
 ·have hrun := run_slice ht hif (some ⟨b, off, none⟩) n c l h (lo.map a.eval) (hi.map a.eval) (by
   rcases hl with ⟨rfl, rfl⟩ | ⟨y, q, rfl, hy⟩
   ·exact .inl ⟨rfl, rfl⟩
   ·have h2 := hf.ev y; rw [hy] at h2; exact .inr ⟨q, by simp [den_v h2]⟩) (by
   rcases hh with ⟨rfl, rfl⟩ | ⟨y, q, rfl, hy⟩
   ·exact .inl ⟨rfl, rfl⟩
   ·have h2 := hf.ev y; rw [hy] at h2; exact .inr ⟨q, by simp [den_v h2]⟩) hlh hhc w
  rw [if_neg (by omega)] at hrun
  simp [execOp, hop, hu, hrun, addr_add, hsz]
end
end Go.Proofs.YtnhdcclpjildjaaGreat
namespace Go.Proofs.YtnhdcclpjildjaaGreat
open Go.RowKit

def byteAt (n : Int) (j : Nat) : Int := n / 2 ^ (8 * j) % 256
def putTo (n : Int) (j : Nat) : List Int := (List.range j).map (byteAt n)
def putL (n : Int) : List Int := putTo n 4
theorem putTo_succ (n : Int) (j : Nat) : putTo n (j + 1) = putTo n j ++ [byteAt n j] := by
 unfold putTo; rw [List.range_succ, List.map_append]; rfl
theorem putTo_length (n : Int) (j : Nat) : (putTo n j).length = j := by unfold putTo; simp
theorem byteAt_range (n : Int) (j : Nat) : 0 ≤ byteAt n j ∧ byteAt n j < 256 := by unfold byteAt; omega
theorem putTo_bytes (n : Int) (j : Nat) : ∀ x ∈ putTo n j, 0 ≤ x ∧ x < 256 := fun x hx => by
 unfold putTo at hx
 obtain ⟨k, _, rfl⟩ := List.mem_map.1 hx
 exact byteAt_range n k
theorem byte_shr {n : Int} (h : word n) {j : Nat} (hj : j < 4) : IntKind.u8.wrap (n.fdiv (2 ^ (min ((8 : Int) * j).toNat IntKind.u32.bits))) = byteAt n j := by
 have h0 := h.1
 have e : (min ((8 : Int) * j).toNat IntKind.u32.bits) = 8 * j := by
  show min ((8 : Int) * j).toNat 32 = 8 * j
  omega
 rw [e, Int.fdiv_eq_ediv_of_nonneg _ (Int.le_of_lt (Int.pow_pos (by omega)))]
 rfl
set_option maxRecDepth 100000 in
theorem put_walk (n : Int) (w : World) (hn : word n) : Calls Tryz.prog 27 #[.int .u32 n, intV 4] w fun e w' => e = .returned (strV (putL n)) ∧ Below w.heap.size w w' := by
 refine calls_val [.int .u32 n, intV 4] Tryz.func27 Tryz.ntmps27 rfl (by simp) ?_
 conv => whnf
 refine ⟨{ j : Nat // j ≤ 4 }, fun x => [(0, one (.int .u32 n)), (1, one (intV 4)), (5, one (strV (putTo n x.1))), (6, one (intV (x.1 : Int)))], fun x => [], fun x => 4 - x.1, ⟨⟨0, by omega⟩, ent_same rfl (aI rfl (aI rfl (aI rfl (aI rfl trivial)))) trivial⟩, fun x => ?_⟩
 obtain ⟨j, hj⟩ := x
 dsimp only
 have hlen := putTo_length n j
 have hs := putTo_succ n j
 generalize hl : putTo n j = l at hlen hs ⊢
 conv => whnf
 refine ⟨decide ((j : Int) < 4), fun _ => ?_, ?_⟩
 ·conv => whnf
  exact ⟨rfl, rfl, rfl, rfl, rfl⟩
 conv => whnf
 refine ⟨fun hc => ?_, fun hc => ?_⟩
 ·have hlt : j < 4 := by simp [cmb] at hc; omega
  conv => whnf
  refine ⟨(8 : Int) * j, wr64 (by omega), ?_⟩
  conv => whnf
  refine ⟨by omega, _, rfl, ?_⟩
  conv => whnf
  refine ⟨byteAt n j, byte_shr hn hlt, ?_⟩
  conv => whnf
  refine q_conv_str 0 1 1 [byteAt n j] rfl rfl rfl rfl rfl rfl rfl ?_
  conv => whnf
  refine q_cat_str l [byteAt n j] rfl rfl rfl (by simp; omega) ?_
  conv => whnf
  refine ⟨_, wr64 (by omega), ?_⟩
  conv => whnf
  exact ⟨⟨j + 1, by omega⟩, ent_drop (aI rfl (aI rfl (aI ((by rw [hs]; rfl)) (aI rfl trivial)))) trivial rfl rfl, by show 4 - (j + 1) < 4 - j; omega⟩
 ·have hje : j = 4 := by simp [cmb] at hc; omega
  subst hje
  conv => whnf
  refine ⟨_, _, ent_refl, ?_⟩
  conv => whnf
  exact fin_val rfl fun w' hB => ⟨by rw [← hl]; rfl, hB⟩
end Go.Proofs.YtnhdcclpjildjaaGreat
namespace Go.Proofs.YtnhdcclpjildjaaGreat
open Go.RowKit

theorem calls_satq_rel {P : Program} {N : Nat} {c : Code} {fn : Func} {R : Ending → World → Prop} {fid : FuncId} {w : World} {G : Gs} {S0 : List Ow} {r0 : Env} (avs : List AV) (args : List Value) (hf : P.funcs[fid]? = some fn) (hN : fn.ntmps = N) (hb : fn.body = some c) (hle : args.length ≤ N) (hR : Rel w G S0 r0 w) (hargs : avdenL r0 avs args)
  (h : SatQ P w G ⟨N, []⟩ c (argFr avs 0) S0 (bodyPostM Fence.wide 10 P fn R)) : Calls P fid args.toArray w R := by
 refine callsIn_wide.1 (callsIn_of_wp_marks (n := 10) hf hb trivial (h.out _ w ⟨r0, hR, fun i => ?_, by simp; omega, rfl⟩))
 refine argFr_get (r := r0) avs args 0 hargs (fun j u hj => ?_) i
 rw [Nat.zero_add, Array.getD_eq_getD_getElem?, Array.getElem?_append_left (by simp; rcases Nat.lt_or_ge j args.length with h1 | h1; exact h1; rw [List.getElem?_eq_none h1] at hj; cases hj)]
 have : args.toArray[j]? = some u := by simpa using hj
 rw [this]; rfl
theorem satq_loopX {P : Program} {w0 : World} {G : Gs} {N : Nd} {c : Code} {f : Fr} {S : List Ow} {Q : Exit → Act → World → Prop} {α : Type} (T : α → Fr) (J : α → World → Prop) (m : α → Nat) (x0 : α) (hf : FLe (plF f) (T x0)) (hJ : ∀ r w, Rel w0 G S r w → J x0 w) (hround : ∀ x w, J x w → SatQ P w Gs.nil N c (T x) [] (RoundW N T J m (m x) Q)) : SatQ P w0 G N (.loop c) f S Q :=
 satq_loopW T J m x0 (fun r w hR => ⟨fun _a hf' => hf.den (plF_den hf'), hJ r w hR⟩) hround
section
variable {P : Program} {w0 : World} {G : Gs} {N : Nd} {S : List Ow} {f : Fr} {o : Oper}
theorem equal_nils_at {t e : TypeId} (ht : P.underlying t = some (.pointer e)) (d : Nat) (w : World) : (Op.equalIn (d + 1) t (.pointer none) (.pointer none)).run P w = .ok true w := by
 simp [Op.equalIn, run_underlying ht]
theorem equal_nils {t e : TypeId} (ht : P.underlying t = some (.pointer e)) (_ : Unit) (w : World) : (Op.equal t (.pointer none) (.pointer none)).run P w = .ok true w := equal_nils_at ht 9999 w
theorem q_nil_v {K : AV → Prop} {t t' e : TypeId} {x y : Operand} (p : Option Addr) (hop : o.op = .binOp .eql t x y t') (ht : P.underlying t = some (.pointer e)) (hx : f.ev x = one (.pointer p)) (hy : f.ev y = one (.pointer none)) (hk : K (one (.bool p.isNone))) : QRun P w0 G S f o K := by
 refine ⟨_, hk, fun r a hf => ?_⟩
 have h1 := hf.ev x
 have h2 := hf.ev y
 rw [hx] at h1; rw [hy] at h2
 refine ⟨_, den_one _ _, fun w hR => ?_⟩
 cases p with
 | none =>
  have he := equal_nils (P := P) ht () w
  simp [execOp, hop, den_v h1, den_v h2, eqGuard, binOp, he]
 | some p =>
  have he := equal_nil (P := P) ht p () w
  simp [execOp, hop, den_v h1, den_v h2, eqGuard, binOp, he]
theorem q_index_ptr {K : AV → Prop} {t e : TypeId} {x ix : Operand} {q : IntKind} {i : TypeInfo} (b off n size : Nat) (k : Int) (hop : o.op = .indexAddr t x ix) (ht : P.underlying t = some (.array n e)) (hi : P.info? e = some i) (hsz : i.size = size) (hx : f.ev x = one (.pointer (some ⟨b, off, none⟩))) (hix : f.ev ix = one (.int q k)) (h0 : 0 ≤ k) (h1 : k < (n : Int)) (hk : K (one (.pointer (some ⟨b, off + k.toNat * size, none⟩)))) : QRun P w0 G S f o K := by
 refine ⟨_, hk, fun r a hf => ?_⟩
 have h2 := hf.ev x
 have h3 := hf.ev ix
 rw [hx] at h2; rw [hix] at h3
 refine ⟨_, den_one _ _, fun w hR => ?_⟩
 have := run_indexAt_array ht hi (b := b) (off := off) (q := q) h0 h1 w
 simp [execOp, hop, den_v h2, den_v h3, this, hsz]
theorem satq_jump_own {Q : Exit → Act → World → Prop} {id : Nat} {ops : Array Oper} (k : Nat) {o : Oper} (hk : ops.toList.drop k = o :: ops.toList.drop (k + 1)) (hg : o.guard = none) (hdst : dstOk N.n o.dst = true)
  (h : guardedN P w0 G N ops (ops.toList.take k) f S fun f1 S1 => jmpK P w0 G o f1 S1 fun u w' => ∃ (g : Nat) (t : TypeId) (us : List Value), u = .pointer (some ⟨g, 0, none⟩) ∧ w'.heap[g]? = some (.cells us.toArray t (0, 0)) ∧ guardedN P w' ⟨[g], []⟩ N ops (ops.toList.drop (k + 1)) ((plF f1).put o.dst (.p (.c (.ref 0 0)))) [.cells t (us.map .v)] fun f2 S2 => AtQ w' ⟨[g], []⟩ N .normal f2 S2 Q) : SatQ P w0 G N (.region id ops false) f S Q :=
 ⟨fun a w hgd => wpIn_region_list (wpListIn_split none 10 k (guardedN_sound (Q := fun a w => ∃ f1 S1, (jmpK P w0 G o f1 S1 fun u w' => ∃ (g : Nat) (t : TypeId) (us : List Value), u = .pointer (some ⟨g, 0, none⟩) ∧ w'.heap[g]? = some (.cells us.toArray t (0, 0)) ∧ guardedN P w' ⟨[g], []⟩ N ops (ops.toList.drop (k + 1)) ((plF f1).put o.dst (.p (.c (.ref 0 0)))) [.cells t (us.map .v)] fun f2 S2 => AtQ w' ⟨[g], []⟩ N .normal f2 S2 Q) ∧ Good w0 G N f1 S1 a w) _ f S _ h (fun f' S' a' w' hk' hg' => ⟨f', S', hk', hg'⟩) a w hgd) (by
  rintro a w ⟨f1, S1, hj, r, hR, hf, hN, hd⟩
  rw [hk]
  unfold wpListIn
  rw [if_pos (wanted_none hg _)]
  refine se_wpIn none 10 (next := fun a w => wpListIn (fenceR none) 10 P ops Q (ops.toList.drop (k + 1)) a w) (jmpK_sound hj hR hf fun u w' hq => ?_) (fun a w h => h)
  obtain ⟨g, t, us, hu, hh, hq⟩ := hq
  exact seL_wpIn none 10 (guardedN_sound _ _ _ _ hq (fun f' S' a' w' hk' hg' => hk'.out a' w' hg') _ _ ⟨envOne g, rel_own1 w' hh, (plF_den hf).put (by rw [hu]; exact den_mk_ref rfl) (by rw [hN]; exact hdst), (put_size a _ _).trans hN, (put_defers a _ _).trans hd⟩)))⟩
end
end Go.Proofs.YtnhdcclpjildjaaGreat
namespace Go.Proofs.YtnhdcclpjildjaaGreat
open Go.RowKit

def liftE (g : Nat) (vO : Value) : Env := ⟨fun i => if i = 0 then some g else if i = 1 then vO.ownBlock else none, fun i => if i = 1 then some vO else none⟩
abbrev liftG (g : Nat) (vO : Value) : Gs := ⟨[g], vO.ownBlock.toList⟩
abbrev liftU (vA vP : Value) (l : List BOp) : List Ow := [.cells 138 [.v vA, .v vP, .row 1], .row 45 5 l.length (l.flatMap opC)]
section
variable {w : World} {g : Nat} {vA vP vO : Value} {l : List BOp}
theorem rel_lift (h : LiftAt w g vA vP vO l) : Rel w (liftG g vO) (liftU vA vP l) (liftE g vO) w := by
 have hn := own_new h.row
 refine ⟨rfl, rfl, rfl, Nat.le_refl _, fun _ _ _ => rfl, fun i o ho => ?_, fun i j b hi hj => ?_, fun i b hb => ?_, fun i hi => ?_, fun i hi => ?_, fun i x hx => ?_⟩
 ·match i with
  | 0 => simp at ho; subst ho; exact ⟨g, _, rfl, h.blk, ⟨_, _, rfl, rfl, _, _, rfl, rfl, _, _, rfl, rfl, rfl⟩⟩
  | 1 => simp at ho; subst ho; exact ⟨vO, rfl, rfl, h.row⟩
  | i + 2 => simp at ho
 ·match i, j with
  | 0, 0 => rfl
  | 1, 1 => rfl
  | 0, 1 => simp [liftE] at hi hj; subst hi; exact absurd hj h.far
  | 1, 0 => simp [liftE] at hi hj; subst hj; exact absurd hi h.far
  | i + 2, _ => simp [liftE] at hi
  | 0, j + 2 => simp [liftE] at hj
  | 1, j + 2 => simp [liftE] at hj
 ·match i with
  | 0 =>
   simp [liftE] at hb; subst hb
   refine ⟨?_, fun _ => .inl (by simp)⟩
   rcases Nat.lt_or_ge g w.heap.size with h1 | h1
   ·exact h1
   ·have := h.blk; rw [Array.getElem?_eq_none h1] at this; cases this
  | 1 =>
   simp [liftE] at hb
   exact ⟨(hn b hb).2, fun _ => .inr (by simp [hb])⟩
  | i + 2 => simp [liftE] at hb
 ·match i with
  | 0 => simp at hi
  | 1 => simp at hi
  | i + 2 => simp [liftE]
 ·match i with
  | 0 => simp at hi
  | 1 => simp at hi
  | i + 2 => simp [liftE]
 ·match i with
  | 0 => simp at hx; subst hx; rfl
  | i + 1 => simp at hx
theorem fin_lift {S : List Ow} {v : AV} {x : Value} {l' : List BOp} {R : Ending → World → Prop} (hv : v.val = some x) (h0 : S[0]? = some (.cells 138 [.v vA, .v vP, .row 1])) (h1 : S[1]? = some (.row 45 5 l'.length (l'.flatMap opC))) (h : ∀ w', LiftTo w w' g vA vP vO l' → R (.returned x) w') : Fin w (liftG g vO) S v R := by
 refine ⟨fun r w' u hR hd => ?_⟩
 rw [AV.val_den hv hd]
 refine h w' ⟨?_, hR.os, hR.tape, hR.output, hR.size, fun b hb hne hno => hR.old b hb ?_⟩
 ·obtain ⟨b, us, e1, e2, e3⟩ := hR.own 0 _ h0
  have f0 := hR.first 0 g rfl
  rw [f0] at e1; injection e1 with e1; subst e1
  obtain ⟨u1, l1, rfl, d1, u2, l2, rfl, d2, u3, l3, rfl, d3, d4⟩ := e3
  obtain rfl : l3 = [] := d4
  obtain rfl : u1 = vA := d1
  obtain rfl : u2 = vP := d2
  obtain ⟨vO', k1, k2, k3⟩ := hR.own 1 _ h1
  have d3 : r.val 1 = some u3 := d3
  rw [d3] at k1; injection k1 with k1; subst k1
  refine ⟨u3, ⟨e2, k3, fun e => ?_⟩, fun b hb => ?_⟩
  ·rw [k2] at e
   have := hR.inj 0 1 g f0 e
   omega
  ·rw [k2] at hb
   rcases Nat.lt_or_ge b w.heap.size with h2 | h2
   ·rcases (hR.new 1 b hb).2 h2 with h3 | h3
    ·simp at h3; subst h3
     have := hR.inj 0 1 b f0 hb
     omega
    ·simp at h3; exact .inl h3
   ·exact .inr h2
 ·rintro (h2 | h2)
  ·simp at h2; exact hne h2
  ·simp at h2; exact hno h2
set_option maxRecDepth 100000 in
theorem add_walk (h : LiftAt w g vA vP vO l) (ops : List BOp) (q n c : Nat) (hq : CellsAt w (liftG g vO) q 0 (ops.flatMap opC)) (hn : ops.length = n) (hlen : l.length + n ≤ 1000000000) :
  Calls Tryz.prog 71 #[.pointer (some ⟨g, 0, none⟩), .slice (some ⟨q, 0, none⟩) n c] w fun e w' => e = .returned (.tuple #[]) ∧ LiftTo w w' g vA vP vO (l ++ ops) := by
 refine calls_satq_rel [.p (.c (.ref 0 0)), one (.slice (some ⟨q, 0, none⟩) n c)] [.pointer (some ⟨g, 0, none⟩), .slice (some ⟨q, 0, none⟩) n c] Tryz.func71 Tryz.ntmps71 rfl (by simp) (rel_lift h) ⟨_, _, rfl, den_mk_ref rfl, avdenL_of [.slice (some ⟨q, 0, none⟩) n c]⟩ ?_
 refine satq_vcN ?_
 conv => whnf
 refine appK_sound rfl ?_ rfl
 conv => whnf
 refine ⟨ops.flatMap opC, fun j u hj => ⟨q, 0, rfl, hq.1, hq.2.1, hq.2.2 j u hj⟩, ?_, ?_, ?_⟩
 ·show _ = n * 5
  rw [← hn]
  clear hq hn hlen
  induction ops with
  | nil => rfl
  | cons o ops ih => rw [List.flatMap_cons, List.length_append, ih, List.length_cons]; show 5 + ops.length * 5 = _; omega
 ·intro u hu
  obtain ⟨o, _, ho⟩ := List.mem_flatMap.1 hu
  simp only [opC, List.mem_cons, List.not_mem_nil, or_false] at ho
  rcases ho with rfl | rfl | rfl | rfl | rfl <;> rfl
 ·conv => whnf
  refine ⟨by omega, ?_⟩
  conv => whnf
  refine atq_end ?_
  conv => whnf
  refine fin_lift rfl rfl ?_ fun w' h' => ⟨rfl, h'⟩
  show some (Ow.row _ _ (l.length + n) (l.flatMap opC ++ ops.flatMap opC)) = _
  rw [List.flatMap_append, List.length_append, hn]
  rfl
end
end Go.Proofs.YtnhdcclpjildjaaGreat
namespace Go.Proofs.YtnhdcclpjildjaaGreat
open Go.RowKit

abbrev pV (b : Nat) : Value := .pointer (some ⟨b, 0, none⟩)
section
variable {w : World} {g : Nat} {vA vP vO : Value} {l : List BOp}
theorem LiftTo.early {w1 w2 : World} {l1 : List BOp} (hB : Below w.heap.size w w1) (h : LiftTo w1 w2 g vA vP vO l1) : LiftTo w w2 g vA vP vO l1 := by
 obtain ⟨vO1, k1, k2⟩ := h.out
 exact ⟨⟨vO1, k1, fun b hb => (k2 b hb).imp id fun h2 => Nat.le_trans hB.size h2⟩, h.os.trans hB.os, h.tape.trans hB.tape, h.output.trans hB.output, Nat.le_trans hB.size h.size, fun b hb h1 h2 => (h.block b (Nat.lt_of_lt_of_le hb hB.size) h1 h2).trans (hB.block b hb)⟩
theorem jmp_add {S : List Ow} {K : Value → World → Prop} (h : LiftAt w g vA vP vO l) (ops : List BOp) (j n : Nat) (hj : S[j]? = some (.cells 45 ((ops.flatMap opC).map .v))) (hn : ops.length = n) (hlen : l.length + n ≤ 1000000000) (hK : ∀ w', LiftTo w w' g vA vP vO (l ++ ops) → K (.tuple #[]) w') :
  Jmp Tryz.prog w Gs.nil 71 [one (pV g), .p (.c (.sl j 0 n n))] S K := by
 refine ⟨by kernel_rfl, fun r w1 us hR hd => ?_⟩
 obtain ⟨u1, l1, rfl, d1, d2⟩ := hd
 obtain rfl := den_v d1
 obtain ⟨u2, l2, rfl, d3, d4⟩ := d2
 obtain rfl : l2 = [] := d4
 obtain ⟨q, hq, rfl⟩ := den_sl d3
 obtain ⟨q', vs, e1, e2, e3⟩ := hR.own j _ hj
 rw [hq] at e1; injection e1 with e1; subst e1
 obtain rfl := denL_vals_inv e3
 have hB := hR.toBelow
 have h1 := h.later hB
 have hqn : w.heap.size ≤ q := by
  rcases Nat.lt_or_ge q w.heap.size with h2 | h2
  ·rcases (hR.new j q hq).2 h2 with h3 | h3 <;> cases h3
  ·exact h2
 have hvlt : ∀ b, vO.ownBlock = some b → b < w.heap.size := fun b hb => (own_new h.row b hb).2
 have hcells : CellsAt w1 (liftG g vO) q 0 (ops.flatMap opC) := by
  refine ⟨(hR.new j q hq).1, ?_, fun i u hi => by simp [World.cell?, e2, hi]⟩
  rintro (h3 | h3)
  ·simp at h3; have := h.lt; omega
  ·simp at h3; have := hvlt q h3; omega
 exact (add_walk h1 ops q n n hcells hn hlen).mono fun e w2 ⟨he, hl⟩ => ⟨_, he, hK w2 (hl.early hB)⟩
set_option maxRecDepth 100000 in
theorem set_walkL (h : LiftAt w g vA vP vO l) (d n : Int) (hlen : l.length ≤ 100000000) :
  Calls Tryz.prog 100 #[pV g, intV d, .int .u32 n] w fun e w' => e = .returned (.tuple #[]) ∧ LiftTo w w' g vA vP vO (l ++ qSet d n) := by
 refine calls_satq [pV g, intV d, .int .u32 n] Tryz.func100 Tryz.ntmps100 rfl (by simp) ?_
 refine satq_seqN ?_
 conv => whnf
 refine satq_cond rfl (fun hc => ?_) (fun hc => ?_)
 ·have hd : ¬ d = 0 := by simpa using hc
  unfold qSet
  rw [if_neg hd]
  refine satq_jump 5 rfl rfl rfl ?_
  conv => whnf
  refine jmp_add h [⟨1, d, 0, 0, n⟩] 0 1 rfl rfl (by omega) fun w1 hl => ?_
  conv => whnf
  refine atq_end ?_
  conv => whnf
  exact fin_val rfl fun w2 hB => ⟨rfl, hl.later hB⟩
 ·have hd : d = 0 := by simpa using hc
  unfold qSet
  rw [if_pos hd, List.append_nil]
  refine satq_skip (atq_end ?_)
  conv => whnf
  exact fin_val rfl fun w2 hB => ⟨rfl, LiftTo.refl h hB⟩
end
end Go.Proofs.YtnhdcclpjildjaaGreat
namespace Go.Proofs.YtnhdcclpjildjaaGreat
open Go.RowKit

def MemP.pokeAt (M : MemP) (a : Int) (l : List Int) (j : Nat) : MemP := (l.take j).zipIdx.foldl (fun Q bi => if (a + bi.2) % 4294967296 < Q.data.length then Q.put ((a + bi.2) % 4294967296) bi.1 else Q) M
theorem pokeAt_zero (M : MemP) (a : Int) (l : List Int) : M.pokeAt a l 0 = M := rfl
theorem pokeAt_succ (M : MemP) (a : Int) (l : List Int) {j : Nat} {b : Int} (h : l[j]? = some b) : M.pokeAt a l (j + 1) = if (a + j) % 4294967296 < (M.pokeAt a l j).data.length then (M.pokeAt a l j).put ((a + j) % 4294967296) b else M.pokeAt a l j := by
 have hj : j < l.length := by
  rcases Nat.lt_or_ge j l.length with h1 | h1
  ·exact h1
  ·rw [List.getElem?_eq_none h1] at h; cases h
 have hl : (l.take j).length = j := by rw [List.length_take]; omega
 unfold MemP.pokeAt
 rw [take_snoc h, List.zipIdx_append, List.foldl_append, hl]
 simp only [List.zipIdx_cons, List.zipIdx_nil, List.foldl_cons, List.foldl_nil, Nat.zero_add]
theorem pokeAt_ok {M : MemP} {n p : Nat} (hM : M.ok n p) (a : Int) {l : List Int} (hb : ∀ x ∈ l, 0 ≤ x ∧ x < 256) : ∀ j, j ≤ l.length → (M.pokeAt a l j).ok n p
 | 0, _ => hM
 | j + 1, h => by
  have e : l[j]? = some l[j] := List.getElem?_eq_getElem h
  rw [pokeAt_succ M a l e]
  have ih := pokeAt_ok hM a hb j (by omega)
  split
  ·exact put_ok ih _ (hb _ (List.getElem_mem h))
  ·exact ih
set_option maxRecDepth 100000 in
theorem mem_pokeAt (M : MemP) (n p : Nat) (a : Int) (l : List Int) (w : World) (g : Nat) (gs : List Nat) (hU : ObjsAt w (g :: gs) (memS 0 n p M)) (hM : M.ok n p) (_ha : word a) (hbl : ∀ x ∈ l, 0 ≤ x ∧ x < 256) (hlen : l.length ≤ 1000000) (hn8 : 8 < n) :
  Calls Tryz.prog 31 #[.pointer (some ⟨g, 0, none⟩), .int .u32 a, strV l] w fun e w' => e = .returned (.tuple #[]) ∧ ObjsAt w' (g :: gs) (memS 0 n p (M.pokeAt a l l.length)) ∧ GrownBys w w' (g :: gs) := by
 obtain ⟨g0, g1, g2, g3, g4, g5, hg⟩ := six_blocks hU
 injection hg with hg0 hgs
 subst hgs; subst hg0
 have hnp := hM.np
 have hpm := hM.pmax
 refine calls_objs [.p (.c (.ref 0 0)), one (.int .u32 a), one (strV l)] [.pointer (some ⟨g, 0, none⟩), .int .u32 a, strV l] Tryz.func31 Tryz.ntmps31 rfl (by simp) hU ⟨_, _, rfl, den_mk_ref rfl, avdenL_of [.int .u32 a, strV l]⟩ ?_
 conv => whnf
 refine ⟨{ j : Nat // j ≤ l.length }, fun x => [(0, .p (.c (.ref 0 0))), (1, one (.int .u32 a)), (2, one (strV l)), (6, one (.int .i64 (x.1 : Int)))], fun x => memS 0 n p (M.pokeAt a l x.1), fun x => l.length - x.1,
  ⟨⟨0, by omega⟩, ent_same rfl (aI rfl (aI rfl (aI rfl (aI rfl trivial)))) (aI sM (aI sM (aI sM (aI sM (aI sM (aI sM trivial))))))⟩, fun x => ?_⟩
 obtain ⟨j, hj⟩ := x
 dsimp only
 conv => whnf
 refine q_len_str l rfl rfl rfl ?_
 conv => whnf
 refine ⟨fun hc => ?_, fun hc => ?_⟩
 ·have hlt : j < l.length := by simpa using hc
  have hQ := pokeAt_ok hM a hbl j hj
  obtain ⟨b, hb⟩ : ∃ b, l[j]? = some b := ⟨_, List.getElem?_eq_getElem (by omega)⟩
  have hbb := hbl b (List.mem_of_getElem? hb)
  have hnext := pokeAt_succ M a l hb
  generalize M.pokeAt a l j = Q at hQ hnext ⊢
  rw [hQ.ld] at hnext
  have hlenQ : n ≤ (List.map CV.v Q.dV).length := tail_le hQ.ld
  have hadr : IntKind.u32.wrap (a + (j : Int)) = (a + j) % 4294967296 := wr32 _
  have hax : 0 ≤ (a + j) % 4294967296 ∧ (a + j) % 4294967296 < 4294967296 := by omega
  conv => whnf
  refine ⟨(j : Int), by rw [wr32]; omega, ?_⟩
  conv => whnf
  refine ⟨_, hadr, ?_⟩
  generalize (a + (j : Int)) % 4294967296 = z at hax hnext hadr ⊢
  conv => whnf
  refine call_memR (pre := []) (suf := [one (.int .u32 z)]) 0 n p Q (.bool (decide (z < (n : Int)))) (fun i hi => by rw [Nat.zero_add]) rfl rfl (by kernel_rfl) (fun w' g gs hk hU => mem_in Q n p z w' g gs hU hQ hax) ?_
  conv => whnf
  refine ⟨fun hc => ?_, fun hc => ?_⟩
  ·have hz : z < (n : Int) := by simpa using hc
   rw [if_pos hz] at hnext
   conv => whnf
   refine sat_tail 12 mixed (by kernel_rfl) ?_
   conv => whnf
   refine ⟨(j : Int), by rw [wr32]; omega, ?_⟩
   conv => whnf
   refine ⟨_, hadr, ?_⟩
   conv => whnf
   refine q_index_str l .i64 j b rfl rfl rfl rfl hb hbb ?_
   conv => whnf
   refine ⟨⟨by omega, by omega⟩, ?_⟩
   conv => whnf
   rw [show Nat.ble (0 + z.toNat * tsz Tryz.prog 5 + [CV.v (Value.int IntKind.u8 b)].length) (List.map CV.v Q.dV).length = true from Nat.ble_eq_true_of_le (by refine Nat.le_trans ?_ hlenQ; show 0 + _ * 1 + 1 ≤ n; omega)]
   conv => whnf
   rw [show Nat.ble (List.map CV.v Q.dV).length 8 = false from ble_no (by omega)]
   conv => whnf
   refine ⟨_, wr64 (by omega), ?_⟩
   conv => whnf
   have hset : setAll (List.map CV.v Q.dV) (0 + z.toNat * tsz Tryz.prog 5) [CV.v (Value.int IntKind.u8 b)] = List.map CV.v (M.pokeAt a l (j + 1)).dV := by
    rw [set_vals, hnext]
    show List.map CV.v (Q.dV.set (0 + z.toNat * 1) _) = List.map CV.v ((Q.put z b).dV)
    rw [Nat.zero_add, Nat.mul_one, ← put_dV Q b (by rw [hQ.ld]; omega)]
   have hrest : Q.iV = (M.pokeAt a l (j + 1)).iV ∧ Q.odV = (M.pokeAt a l (j + 1)).odV ∧ Q.oiV = (M.pokeAt a l (j + 1)).oiV ∧ Q.rV = (M.pokeAt a l (j + 1)).rV := by rw [hnext]; exact ⟨rfl, rfl, rfl, rfl⟩
   exact ⟨⟨j + 1, by omega⟩, ent_same rfl (aI rfl (aI rfl (aI rfl (aI rfl trivial)))) (aI ((aI rfl (Or.inl (by rw [hnext]; rfl)))) (aI ((aI rfl (Or.inl hset))) (aI ((aI rfl (Or.inl (by rw [hrest.1])))) (aI ((aI rfl (Or.inl (by rw [hrest.2.1])))) (aI ((aI rfl (Or.inl (by rw [hrest.2.2.1])))) (aI ((aI rfl (Or.inl (by rw [hrest.2.2.2])))) trivial)))))), by show l.length - (j + 1) < l.length - j; omega⟩
  ·have hz : ¬ z < (n : Int) := by simpa using hc
   rw [if_neg hz] at hnext
   conv => whnf
   refine ⟨_, wr64 (by omega), ?_⟩
   conv => whnf
   exact ⟨⟨j + 1, by omega⟩, ent_same rfl (aI rfl (aI rfl (aI rfl (aI rfl trivial)))) (aI ((aI rfl (Or.inl (by rw [hnext])))) (aI ((aI rfl (Or.inl (by rw [hnext])))) (aI ((aI rfl (Or.inl (by rw [hnext])))) (aI ((aI rfl (Or.inl (by rw [hnext])))) (aI ((aI rfl (Or.inl (by rw [hnext])))) (aI ((aI rfl (Or.inl (by rw [hnext])))) trivial)))))), by show l.length - (j + 1) < l.length - j; omega⟩
 ·have hje : j = l.length := by simp at hc; omega
  rw [hje]
  conv => whnf
  refine ⟨_, _, ent_refl, ?_⟩
  conv => whnf
  exact fin_objs rfl rfl (fun i o h => h) (memS_ob n p (M.pokeAt a l l.length)) fun w' h1 h2 => ⟨rfl, h1, h2⟩
end Go.Proofs.YtnhdcclpjildjaaGreat
namespace Go.Proofs.YtnhdcclpjildjaaGreat
open Go.RowKit

def MemP.codeTo (M : MemP) (q : Nat) (l : List Int) : Nat → MemP
 | 0 => M
 | j + 1 => (M.codeTo q l j).setI (256 * q + j) ((l[j]?).getD 0)
theorem codeTo_ok {M : MemP} {n p : Nat} (hM : M.ok n p) (q : Nat) {l : List Int} (hb : ∀ x ∈ l, 0 ≤ x ∧ x < 256) : ∀ j, (M.codeTo q l j).ok n p
 | 0 => hM
 | j + 1 => setI_ok (codeTo_ok hM q hb j) _ (by
   cases h : l[j]? with
   | none => simp
   | some x => exact hb x (List.mem_of_getElem? h))
theorem codeTo_data (M : MemP) (q : Nat) (l : List Int) : ∀ j, (M.codeTo q l j).data = M.data ∧ (M.codeTo q l j).rights = M.rights ∧ (M.codeTo q l j).oldData = M.oldData ∧ (M.codeTo q l j).oldImage = M.oldImage
 | 0 => ⟨rfl, rfl, rfl, rfl⟩
 | j + 1 => codeTo_data M q l j
set_option maxRecDepth 100000 in
set_option maxHeartbeats 1000000 in
theorem mem_setCode (M : MemP) (n p : Nat) (q : Nat) (l : List Int) (w : World) (g : Nat) (gs : List Nat) (hU : ObjsAt w (g :: gs) (memS 0 n p M)) (hM : M.ok n p) (hq : q < p) (hbl : ∀ x ∈ l, 0 ≤ x ∧ x < 256) (hlen : l.length ≤ 1000000) :
  Calls Tryz.prog 26 #[.pointer (some ⟨g, 0, none⟩), intV (q : Int), strV l] w fun e w' => e = .returned (.tuple #[]) ∧ ObjsAt w' (g :: gs) (memS 0 n p (M.codeTo q l (min l.length 256))) ∧ GrownBys w w' (g :: gs) := by
 obtain ⟨g0, g1, g2, g3, g4, g5, hg⟩ := six_blocks hU
 injection hg with hg0 hgs
 subst hgs; subst hg0
 have hnp := hM.np
 have hpm := hM.pmax
 refine calls_objs [.p (.c (.ref 0 0)), one (intV (q : Int)), one (strV l)] [.pointer (some ⟨g, 0, none⟩), intV (q : Int), strV l] Tryz.func26 Tryz.ntmps26 rfl (by simp) hU ⟨_, _, rfl, den_mk_ref rfl, avdenL_of [intV (q : Int), strV l]⟩ ?_
 conv => whnf
 refine ⟨decide ((q : Int) ≥ (p : Int)), fun _ => ?_, ?_⟩
 ·conv => whnf
  exact ⟨rfl, rfl, rfl, rfl, grp_mem _ _ _ _ _ _ _ _ _⟩
 have e1 : cmb false (decide ((q : Int) < 0)) (decide ((q : Int) ≥ (p : Int))) = false := by simp [cmb]; omega
 rw [e1]
 conv => whnf
 refine ⟨false, fun _ => ?_, ?_⟩
 ·conv => whnf
  exact ⟨rfl, rfl, rfl, rfl, grp_mem _ _ _ _ _ _ _ _ _⟩
 conv => whnf
 (repeat ((first | apply k1 | apply k2 | apply k3 | apply k4 | refine k5 (by decide) ?_ | refine k6 (by decide) ?_); conv => whnf))
 conv => whnf
 refine ⟨{ j : Nat // j ≤ min l.length 256 }, fun x => [(0, .p (.c (.ref 0 0))), (1, one (intV (q : Int))), (2, one (strV l)), (6, one (.int .i64 (x.1 : Int)))], fun x => memS 0 n p (M.codeTo q l x.1), fun x => 256 - x.1,
  ⟨⟨0, by omega⟩, ent_same rfl (aI rfl (aI rfl (aI rfl (aI rfl trivial)))) (aI sM (aI sM (aI sM (aI sM (aI sM (aI sM trivial))))))⟩, fun x => ?_⟩
 obtain ⟨j, hj⟩ := x
 dsimp only
 conv => whnf
 refine q_len_str l rfl rfl rfl ?_
 conv => whnf
 refine ⟨decide ((j : Int) < 256), fun _ => ?_, ?_⟩
 ·conv => whnf
  exact ⟨rfl, rfl, rfl, rfl, grp_mem _ _ _ _ _ _ _ _ _⟩
 conv => whnf
 refine ⟨fun hc => ?_, fun hc => ?_⟩
 ·have hlt : j < l.length ∧ j < 256 := by simp [cmb] at hc; omega
  have hQ := codeTo_ok hM q hbl j
  obtain ⟨b, hb⟩ : ∃ b, l[j]? = some b := ⟨_, List.getElem?_eq_getElem (by omega)⟩
  have hbb := hbl b (List.mem_of_getElem? hb)
  have hnext : M.codeTo q l (j + 1) = (M.codeTo q l j).setI (256 * q + j) b := by show (M.codeTo q l j).setI (256 * q + j) ((l[j]?).getD 0) = _; rw [hb]; rfl
  generalize M.codeTo q l j = Q at hQ hnext ⊢
  have hlenQ : n ≤ (List.map CV.v Q.iV).length := tail_le hQ.li
  conv => whnf
  refine sat_tail 12 mixed (by kernel_rfl) ?_
  conv => whnf
  refine ⟨(256 * q : Nat), by rw [show (256 : Int) * (q : Int) = ((256 * q : Nat) : Int) by omega]; exact wr64 (by omega), ?_⟩
  conv => whnf
  refine ⟨(256 * q + j : Nat), by rw [show ((256 * q : Nat) : Int) + (j : Int) = ((256 * q + j : Nat) : Int) by omega]; exact wr64 (by omega), ?_⟩
  conv => whnf
  refine q_index_str l .i64 j b rfl rfl rfl rfl hb hbb ?_
  conv => whnf
  refine ⟨⟨by omega, by omega⟩, ?_⟩
  conv => whnf
  rw [show Nat.ble (0 + ((256 * q + j : Nat) : Int).toNat * tsz Tryz.prog 5 + [CV.v (Value.int IntKind.u8 b)].length) (List.map CV.v Q.iV).length = true from Nat.ble_eq_true_of_le (by refine Nat.le_trans ?_ hlenQ; show 0 + _ * 1 + 1 ≤ n; omega)]
  conv => whnf
  rw [show Nat.ble (List.map CV.v Q.iV).length 8 = false from ble_no (by omega)]
  conv => whnf
  refine ⟨_, wr64 (by omega), ?_⟩
  conv => whnf
  have hset : setAll (List.map CV.v Q.iV) (0 + ((256 * q + j : Nat) : Int).toNat * tsz Tryz.prog 5) [CV.v (Value.int IntKind.u8 b)] = List.map CV.v (M.codeTo q l (j + 1)).iV := by
   rw [set_vals, hnext]
   show List.map CV.v (Q.iV.set (0 + ((256 * q + j : Nat) : Int).toNat * 1) _) = List.map CV.v ((Q.setI (256 * q + j) b).iV)
   rw [Nat.zero_add, Nat.mul_one, Int.toNat_natCast, ← setI_iV Q _ (by rw [hQ.li]; omega)]
  exact ⟨⟨j + 1, by omega⟩, ent_same rfl (aI rfl (aI rfl (aI rfl (aI rfl trivial)))) (aI ((aI rfl (Or.inl (by rw [hnext]; rfl)))) (aI ((aI rfl (Or.inl (by rw [hnext]; rfl)))) (aI ((aI rfl (Or.inl hset))) (aI ((aI rfl (Or.inl (by rw [hnext]; rfl)))) (aI ((aI rfl (Or.inl (by rw [hnext]; rfl)))) (aI ((aI rfl (Or.inl (by rw [hnext]; rfl)))) trivial)))))), by show 256 - (j + 1) < 256 - j; omega⟩
 ·have hje : j = min l.length 256 := by
   have h1 : ¬ (j < l.length ∧ j < 256) := fun h => by
    have : cmb true (decide ((j : Int) < (l.length : Int))) (decide ((j : Int) < 256)) = true := by simp [cmb]; omega
    rw [this] at hc; cases hc
   omega
  rw [hje]
  conv => whnf
  refine ⟨_, _, ent_refl, ?_⟩
  conv => whnf
  exact fin_objs rfl rfl (fun i o h => h) (memS_ob n p _) fun w' h1 h2 => ⟨rfl, h1, h2⟩
end Go.Proofs.YtnhdcclpjildjaaGreat
namespace Go.Proofs.YtnhdcclpjildjaaGreat
open Go.RowKit

set_option maxRecDepth 100000 in
theorem mem_pages (M : MemP) (n p : Nat) (w : World) (g : Nat) (gs : List Nat) (hU : ObjsAt w (g :: gs) (memS 0 n p M)) :
  Calls Tryz.prog 30 #[.pointer (some ⟨g, 0, none⟩)] w fun e w' => e = .returned (intV (p : Int)) ∧ ObjsAt w' (g :: gs) (memS 0 n p M) ∧ GrownBys w w' (g :: gs) := by
 obtain ⟨g0, g1, g2, g3, g4, g5, hg⟩ := six_blocks hU
 injection hg with hg0 hgs
 subst hgs; subst hg0
 refine calls_objs [.p (.c (.ref 0 0))] [.pointer (some ⟨g, 0, none⟩)] Tryz.func30 Tryz.ntmps30 rfl (by simp) hU ⟨_, _, rfl, den_mk_ref rfl, rfl⟩ ?_
 conv => whnf
 exact fin_objs rfl rfl (fun i o h => h) (memS_ob n p M) fun w' h1 h2 => ⟨rfl, h1, h2⟩
set_option maxRecDepth 100000 in
theorem mem_rightsOf (M : MemP) (n p : Nat) (q : Nat) (w : World) (g : Nat) (gs : List Nat) (hU : ObjsAt w (g :: gs) (memS 0 n p M)) (hM : M.ok n p) (hq : q < p) :
  Calls Tryz.prog 32 #[.pointer (some ⟨g, 0, none⟩), intV (q : Int)] w fun e w' => e = .returned (intV (M.rightsAt q)) ∧ ObjsAt w' (g :: gs) (memS 0 n p M) ∧ GrownBys w w' (g :: gs) := by
 obtain ⟨g0, g1, g2, g3, g4, g5, hg⟩ := six_blocks hU
 injection hg with hg0 hgs
 subst hgs; subst hg0
 refine calls_objs [.p (.c (.ref 0 0)), one (intV (q : Int))] [.pointer (some ⟨g, 0, none⟩), intV (q : Int)] Tryz.func32 Tryz.ntmps32 rfl (by simp) hU ⟨_, _, rfl, den_mk_ref rfl, avdenL_of [intV (q : Int)]⟩ ?_
 conv => whnf
 refine ⟨decide ((q : Int) ≥ (p : Int)), fun _ => ?_, ?_⟩
 ·conv => whnf
  exact ⟨rfl, rfl, rfl, rfl, grp_mem _ _ _ _ _ _ _ _ _⟩
 conv => whnf
 refine ⟨fun hc => absurd hc (by simp [cmb]; omega), fun _ => ?_⟩
 conv => whnf
 (refine ⟨⟨by omega, by omega⟩, ?_⟩; (conv=>whnf))
 have hget : (List.map CV.v M.rV)[0 + (q : Int).toNat * tsz Tryz.prog 3]? = some (.v (intV (M.rightsAt q))) := by
  show (List.map CV.v M.rV)[0 + (q : Int).toNat * 1]? = _
  obtain ⟨y, hy⟩ : ∃ y, M.rights[q]? = some y := ⟨_, List.getElem?_eq_getElem (by rw [hM.lr]; omega)⟩
  rw [Nat.zero_add, Nat.mul_one, Int.toNat_natCast]
  unfold MemP.rightsAt; rw [hy]; exact tail_at hy
 rw [hget]
 conv => whnf
 exact fin_objs rfl rfl (fun i o h => h) (memS_ob n p M) fun w' h1 h2 => ⟨rfl, h1, h2⟩
theorem page_length {M : MemP} {n p q : Nat} (hM : M.ok n p) (hq : q < p) : (M.page q).length = 256 := by
 have := hM.np
 unfold MemP.page
 rw [List.length_take, List.length_drop, hM.ld]; omega
theorem q_conv_cells {P : Program} {w0 : World} {G : Gs} {S : List Ow} {f : Fr} {o : Oper} {K : AV → Prop} {x : Operand} {src dst e : TypeId} {te : TypeId} {L : List CV} (i off n c : Nat) (m : List Int) (hop : o.op = .convert src dst x) (hs : P.underlying src = some (.slice e)) (he : P.underlying e = some (.int .u8)) (hd : P.underlying dst = some .string) (hx : f.ev x = .p (.c (.sl i off n c))) (hi : S[i]? = some (.cells te L)) (hm : (L.drop off).take n = (m.map (Value.int .u8)).map .v) (hn : m.length = n) (hk : K (one (strV m))) : QRun P w0 G S f o K := by
 refine ⟨_, hk, fun r a hf => ?_⟩
 have h1 := hf.ev x
 rw [hx] at h1
 obtain ⟨b, hb, hu⟩ := den_sl h1
 refine ⟨_, rfl, fun w hR => ?_⟩
 obtain ⟨b', us, e1, e2, e3⟩ := hR.own i _ hi
 rw [hb] at e1; injection e1 with e1; subst e1
 have e4 := denL_take n (denL_drop off e3)
 rw [hm] at e4
 have e5 := denL_vals_inv e4
 have hl : (loadCells ⟨b, off, none⟩ n).run P w = .ok (m.map (Value.int .u8)).toArray w := by
  unfold loadCells
  have := run_loadCells (P := P) (w := w) (b := b) (off := off) n 0 #[] (m.map (Value.int .u8)) (by simp [hn]) (fun j u hj => by
   rw [← e5, List.getElem?_take] at hj
   split at hj
   ·rw [List.getElem?_drop] at hj
    simpa [World.cell?, e2] using hj
   ·simp at hj)
  simpa using this
 simp [execOp, hop, hu, run_convert_bytes_string w src dst e _ n c hs he hd, run_bytesToString w _ n c m hl, strV, bytesA]
theorem page_cells {M : MemP} {n p q : Nat} (hM : M.ok n p) (hq : q < p) : ((M.dV.map CV.v).drop (256 * q)).take 256 = ((M.page q).map (Value.int .u8)).map .v := by
 have hnp := hM.np
 unfold MemP.dV MemP.page
 rw [← List.map_drop, ← List.map_take, List.drop_append_of_le_length (by simp [hM.ld]; omega), List.take_append_of_le_length (by simp [hM.ld]; omega), ← List.map_drop, ← List.map_take]
set_option maxRecDepth 100000 in
theorem mem_page (M : MemP) (n p : Nat) (q : Nat) (w : World) (g : Nat) (gs : List Nat) (hU : ObjsAt w (g :: gs) (memS 0 n p M)) (hM : M.ok n p) (hq : q < p) :
  Calls Tryz.prog 68 #[.pointer (some ⟨g, 0, none⟩), intV (q : Int)] w fun e w' => e = .returned (strV (M.page q)) ∧ ObjsAt w' (g :: gs) (memS 0 n p M) ∧ GrownBys w w' (g :: gs) := by
 obtain ⟨g0, g1, g2, g3, g4, g5, hg⟩ := six_blocks hU
 injection hg with hg0 hgs
 subst hgs; subst hg0
 have hnp := hM.np
 have hpm := hM.pmax
 refine calls_objs [.p (.c (.ref 0 0)), one (intV (q : Int))] [.pointer (some ⟨g, 0, none⟩), intV (q : Int)] Tryz.func68 Tryz.ntmps68 rfl (by simp) hU ⟨_, _, rfl, den_mk_ref rfl, avdenL_of [intV (q : Int)]⟩ ?_
 conv => whnf
 refine ⟨decide ((q : Int) ≥ (p : Int)), fun _ => ?_, ?_⟩
 ·conv => whnf
  exact ⟨rfl, rfl, rfl, rfl, grp_mem _ _ _ _ _ _ _ _ _⟩
 conv => whnf
 refine ⟨fun hc => absurd hc (by simp [cmb]; omega), fun _ => ?_⟩
 conv => whnf
 refine ⟨(256 * q : Nat), by rw [show (256 : Int) * (q : Int) = ((256 * q : Nat) : Int) by omega]; exact wr64 (by omega), ?_⟩
 conv => whnf
 refine ⟨(256 * q : Nat), by rw [show (256 : Int) * (q : Int) = ((256 * q : Nat) : Int) by omega]; exact wr64 (by omega), ?_⟩
 conv => whnf
 refine ⟨(256 * q + 256 : Nat), by rw [show ((256 * q : Nat) : Int) + (256 : Int) = ((256 * q + 256 : Nat) : Int) by omega]; exact wr64 (by omega), ?_⟩
 conv => whnf
 refine opS_q (q_slice_own (size := 1) 1 0 n (n + M.td.length) (256 * q) (256 * q + 256) rfl rfl rfl rfl rfl (.inr ⟨_, _, rfl, rfl⟩) (.inr ⟨_, _, rfl, rfl⟩) (by omega) (by omega) (by omega) ?_) rfl
 conv => whnf
 refine q_conv_cells (m := M.page q) 1 (0 + 256 * q * 1) (256 * q + 256 - 256 * q) (n + M.td.length - 256 * q) rfl rfl rfl rfl rfl rfl (by rw [show 0 + 256 * q * 1 = 256 * q by omega, show 256 * q + 256 - 256 * q = 256 by omega]; exact page_cells hM hq) (by rw [page_length hM hq]; omega) ?_
 conv => whnf
 exact fin_objs rfl rfl (fun i o h => h) (memS_ob n p M) fun w' h1 h2 => ⟨rfl, h1, h2⟩
end Go.Proofs.YtnhdcclpjildjaaGreat
namespace Go.Proofs.YtnhdcclpjildjaaGreat
open Go.RowKit

theorem slotsL_length (l : List Slt) : (slotsL l).length = 7 * l.length := by
 unfold slotsL
 induction l with
 | nil => rfl
 | cons s l ih =>
  rw [List.flatMap_cons, List.length_append, ih, List.length_cons]
  show 7 + 7 * l.length = 7 * (l.length + 1)
  omega
theorem slotsL_get : ∀ {l : List Slt} {k : Nat} {s : Slt} {j : Nat} {v : Value}, l[k]? = some s → (slotL s)[j]? = some v → (slotsL l)[7 * k + j]? = some v
 | [], k, s, j, v, h, _ => by simp at h
 | x :: l, 0, s, j, v, h, hj => by
  simp at h; subst h
  have hj7 : j < 7 := by
   rcases Nat.lt_or_ge j 7 with h1 | h1
   ·exact h1
   ·rw [List.getElem?_eq_none (by simpa using h1)] at hj; cases hj
  show (slotL x ++ slotsL l)[7 * 0 + j]? = some v
  rw [List.getElem?_append_left (by show 7 * 0 + j < 7; omega), Nat.mul_zero, Nat.zero_add]; exact hj
 | x :: l, k + 1, s, j, v, h, hj => by
  show (slotL x ++ slotsL l)[7 * (k + 1) + j]? = some v
  rw [List.getElem?_append_right (by show 7 ≤ _; omega)]
  rw [show 7 * (k + 1) + j - (slotL x).length = 7 * k + j by show 7 * (k + 1) + j - 7 = _; omega]
  exact slotsL_get (by simpa using h) hj
theorem block_cells {w : World} {b : Nat} {us : List Value} {t : TypeId} (h : w.heap[b]? = some (.cells us.toArray t (0, 0))) {off : Nat} {x : Value} (hx : us[off]? = some x) : CellsAt w Gs.nil b off [x] :=
 cells_one (heap_lt h) (by simp) (by simp [World.cell?, h, hx])
section
variable {w : World} {B m sb : Nat} {l : List Slt} {img : Nat → List Int}
set_option maxRecDepth 100000 in
theorem pages_mem (h : w.heap[m]? = some (.cells #[.slice (some ⟨sb, 0, none⟩) l.length l.length, .bool false] 163 (0, 0))) : Calls Tryz.prog 96 #[ptrV m] w fun e w' => e = .returned (intV (l.length : Int)) ∧ Below w.heap.size w w' := by
 refine calls_valN [ptrV m] Tryz.func96 Tryz.ntmps96 rfl (by simp) ?_
 conv => whnf
 refine q_nil_v _ rfl rfl rfl rfl ?_
 conv => whnf
 (repeat ((first | apply k1 | apply k2 | apply k3 | apply k4 | refine k5 (by decide) ?_ | refine k6 (by decide) ?_); conv => whnf))
 conv => whnf
 refine ⟨_, block_cells (us := [.slice (some ⟨sb, 0, none⟩) l.length l.length, .bool false]) h rfl, ?_⟩
 conv => whnf
 exact fin_val rfl fun w' hB => ⟨rfl, hB⟩
abbrev atV (sb n : Nat) (a : Int) : Value := .pointer (if a / 256 < (n : Int) then some ⟨sb, 0 + (a / 256).toNat * 7, none⟩ else none)
set_option maxRecDepth 100000 in
theorem at_mem (a : Int) (h : w.heap[m]? = some (.cells #[.slice (some ⟨sb, 0, none⟩) l.length l.length, .bool false] 163 (0, 0))) (ha : word a) : Calls Tryz.prog 112 #[ptrV m, .int .u32 a] w fun e w' => e = .returned (atV sb l.length a) ∧ Below w.heap.size w w' := by
 have hw : 0 ≤ a ∧ a < 4294967296 := ha
 refine calls_valN [ptrV m, .int .u32 a] Tryz.func112 Tryz.ntmps112 rfl (by simp) ?_
 conv => whnf
 refine ⟨by decide, a / 256, by rw [Int.tdiv_eq_ediv_of_nonneg hw.1, wr32]; omega, ?_⟩
 conv => whnf
 refine ⟨a / 256, wr64 (by omega), ?_⟩
 conv => whnf
 refine call_con rfl (by kernel_rfl) (fun r w' hR => pages_mem (by rw [hR.toBelow.block _ (heap_lt h)]; exact h)) ?_
 conv => whnf
 refine ⟨fun hc => ?_, fun hc => ?_⟩
 ·have : ¬ a / 256 < (l.length : Int) := by simp at hc; omega
  conv => whnf
  exact fin_val rfl fun w' hB => ⟨by unfold atV; rw [if_neg this], hB⟩
 ·have hlt : a / 256 < (l.length : Int) := by simp at hc; omega
  conv => whnf
  refine ⟨_, block_cells (us := [.slice (some ⟨sb, 0, none⟩) l.length l.length, .bool false]) h rfl, ?_⟩
  conv => whnf
  (refine ⟨⟨by omega, by omega⟩, ?_⟩; (conv=>whnf))
  exact fin_val rfl fun w' hB => ⟨by unfold atV; rw [if_pos hlt]; rfl, hB⟩
end
end Go.Proofs.YtnhdcclpjildjaaGreat
namespace Go.Proofs.YtnhdcclpjildjaaGreat
open Go.RowKit

section
variable {P : Program} {w0 : World} {G : Gs} {N : Nd} {c d : Code} {f : Fr} {S : List Ow} {Q : Exit → Act → World → Prop} {α : Type}
def MidW (N : Nd) (T : α → Fr) (J : α → World → Prop) (Q : Exit → Act → World → Prop) : Exit → Act → World → Prop := fun e a w => match e with
 | .normal => ∃ y, FDen Env.none (T y) a ∧ a.tmps.size = N.n ∧ a.defers = N.ds ∧ J y w
 | e => Q e a w
theorem satq_midW (T : α → Fr) (J : α → World → Prop) (hc : SatQ P w0 G N c f S (MidW N T J Q)) (hd : ∀ y w, J y w → SatQ P w Gs.nil N d (T y) [] Q) : SatQ P w0 G N (.seq c d) f S Q :=
 ⟨fun a w hg => wpIn_seq (wpIn_mono (hc.out a w hg) fun e a' w' hq => by
  cases e with
  | normal =>
   obtain ⟨y, hf, hN, hds, hJ⟩ := hq
   exact (hd y w' hJ).out a' w' ⟨Env.none, rel_none w', hf, hN, hds⟩
  | exit id => exact hq
  | goto l => exact hq
  | ret => exact hq
  | panic ch => exact hq
  | outgrown => exact hq)⟩
theorem atq_midW {T : α → Fr} {J : α → World → Prop} (y : α) (hf : FLe (plF f) (T y)) (hJ : ∀ r w, Rel w0 G S r w → J y w) : AtQ w0 G N .normal f S (MidW N T J Q) :=
 ⟨fun _a w ⟨r, hR, hfd, hN, hds⟩ => ⟨y, hf.den (plF_den hfd), hN, hds, hJ r w hR⟩⟩
theorem atq_ret_midW {T : α → Fr} {J : α → World → Prop} (h : AtQ w0 G N .ret f S Q) : AtQ w0 G N .ret f S (MidW N T J Q) := ⟨fun a w hg => h.out a w hg⟩
end
end Go.Proofs.YtnhdcclpjildjaaGreat
namespace Go.Proofs.YtnhdcclpjildjaaGreat
open Go.RowKit

section
variable {w : World} {g : Nat} {vA vP vO : Value} {l : List BOp} {pb : Nat} {us : List Value} {t : TypeId}
theorem box_ok {w1 : World} (h : LiftAt w g vA vP vO l) (hB : Below w.heap.size w w1) (hb : w1.heap[pb]? = some (.cells us.toArray t (0, 0))) (hn : w.heap.size ≤ pb) : LSt w1 w1 g vA vP vO l pb us t :=
 ⟨LiftTo.refl (h.later hB) (Below.refl _ _), hb, heap_lt hb, fun e => by have := h.lt; omega, fun e => by have := (own_new h.row pb e).2; omega⟩
theorem fresh_of {w1 : World} {S : List Ow} {r : Env} (hR : Rel w Gs.nil S r w1) {i b : Nat} (hb : r.blk i = some b) : w.heap.size ≤ b := by
 rcases Nat.lt_or_ge b w.heap.size with h1 | h1
 ·rcases (hR.new i b hb).2 h1 with h2 | h2 <;> cases h2
 ·exact h1
set_option maxRecDepth 100000 in
set_option maxHeartbeats 1000000 in
theorem arith_walk (h : LiftAt w g vA vP vO l) (i : QI) (hlen : l.length ≤ 100000000) :
  Calls Tryz.prog 99 #[pV g, intV (qCode i.op), qiV i] w fun e w' => e = .returned (.tuple #[]) ∧ LiftTo w w' g vA vP vO (l ++ qArith i) := by
 refine calls_satq [pV g, intV (qCode i.op), qiV i] Tryz.func99 Tryz.ntmps99 rfl (by simp) ?_
 refine satq_seqN ?_
 conv => whnf
 refine satq_restart fun r w1 hR => ?_
 obtain ⟨pb, us, e1, e2, e3⟩ := hR.own 0 _ rfl
 obtain rfl := denL_vals_inv (us := qiL i) e3
 have hB1 := hR.toBelow
 have hs := box_ok h hB1 e2 (fresh_of hR e1)
 refine ⟨slotFr [(0, pV g), (1, intV (qCode i.op)), (5, pV pb)], fun a' hf => slots_den ⟨slot_val hf rfl, slot_val hf rfl, slot_ref hf 5 rfl e1, trivial⟩, ?_⟩
 clear hR e3
 refine satq_seqN ?_
 conv => whnf
 refine ⟨_, block_cells hs.box (off := 0 + 3) (x := intV i.b) rfl, ?_⟩
 conv => whnf
 refine satq_midW (α := Unit) (fun _ => [(0, one (pV g)), (1, one (intV (qCode i.op))), (5, one (pV pb)), (6, one (intV i.b))]) (fun _ w2 => LSt w1 w2 g vA vP vO (l ++ if i.op = 10 then [⟨21, 0, i.b, 0, 0⟩] else []) pb (qiL i) qiT) ?_ fun _ w2 hs2 => ?_
 ·refine satq_seqN ?_
  conv => whnf
  refine ⟨_, block_cells hs.box (off := 0 + 0) (x := intV i.op) rfl, ?_⟩
  conv => whnf
  refine satq_cond rfl (fun hc => ?_) (fun hc => ?_)
  ·have ho : i.op = 10 := by simpa using hc
   rw [if_pos ho]
   refine satq_jump 4 rfl rfl rfl ?_
   conv => whnf
   obtain ⟨vO1, k1, k2⟩ := hs.step
   refine jmp_add (h.later hB1) [⟨21, 0, i.b, 0, 0⟩] 0 1 rfl rfl (by omega) fun w2 hl => ?_
   conv => whnf
   refine atq_midW () (aI rfl (aI rfl (aI rfl (aI rfl trivial)))) fun r w3 hR => ?_
   exact (LSt.mk hl ((hl.block pb hs.lt hs.ne hs.no).trans hs.box) hs.lt hs.ne hs.no).later hR.toBelow
  ·have ho : ¬ i.op = 10 := by simpa using hc
   rw [if_neg ho, List.append_nil]
   refine satq_skip (atq_midW () (aI rfl (aI rfl (aI rfl (aI rfl trivial)))) fun r w3 hR => ?_)
   exact hs.later hR.toBelow
 have hgl : (l ++ if i.op = 10 then [(⟨21, 0, i.b, 0, 0⟩ : BOp)] else []).length ≤ 100000001 := by
  rw [List.length_append]; split
  ·simp; omega
  ·simp; omega
 have hq : qArith i = (if i.op = 10 then [⟨21, 0, i.b, 0, 0⟩] else []) ++ (if i.d = 0 then [] else if 16 ≤ i.op then [⟨1, 20, 0, 0, i.imm⟩, ⟨qCode i.op, i.d, i.a, 20, 0⟩] else [⟨qCode i.op, i.d, i.a, i.b, 0⟩]) := rfl
 rw [hq, ← List.append_assoc]
 generalize (l ++ if i.op = 10 then [(⟨21, 0, i.b, 0, 0⟩ : BOp)] else []) = l1 at hgl hs2 ⊢
 refine satq_seqN ?_
 conv => whnf
 refine ⟨_, block_cells hs2.box (off := 0 + 1) (x := intV i.d) rfl, ?_⟩
 conv => whnf
 refine ⟨fun hc => ?_, fun hc => ?_⟩
 ·have hd : i.d = 0 := by simpa using hc
  rw [if_pos hd, List.append_nil]
  conv => whnf
  refine atq_ret ?_
  conv => whnf
  exact fin_val rfl fun w3 hB => ⟨rfl, (hs2.lift.early hB1).later hB⟩
 have hd : ¬ i.d = 0 := by simpa using hc
 rw [if_neg hd]
 conv => whnf
 refine satq_midW (α := Unit) (fun _ => [(0, one (pV g)), (1, one (intV (qCode i.op))), (5, one (pV pb)), (6, one (intV (if 16 ≤ i.op then 20 else i.b)))]) (fun _ w3 => LSt w1 w3 g vA vP vO (l1 ++ if 16 ≤ i.op then [⟨1, 20, 0, 0, i.imm⟩] else []) pb (qiL i) qiT) ?_ fun _ w3 hs3 => ?_
 ·refine satq_seqN ?_
  conv => whnf
  refine ⟨_, block_cells hs2.box (off := 0 + 0) (x := intV i.op) rfl, ?_⟩
  conv => whnf
  refine satq_cond rfl (fun hc => ?_) (fun hc => ?_)
  ·have ho : 16 ≤ i.op := by simpa using hc
   rw [if_pos ho, if_pos ho]
   refine satq_seqN ?_
   conv => whnf
   refine satq_jump 6 rfl rfl rfl ?_
   conv => whnf
   refine ⟨_, block_cells hs2.box (off := 0 + 4) (x := .int .u32 i.imm) rfl, ?_⟩
   conv => whnf
   obtain ⟨vO1, k1, k2⟩ := hs2.step
   refine jmp_add k1 [⟨1, 20, 0, 0, i.imm⟩] 0 1 rfl rfl (by omega) fun w3 hl => ?_
   conv => whnf
   refine atq_midW () (aI rfl (aI rfl (aI rfl (aI rfl trivial)))) fun r w4 hR => ?_
   exact (k2 _ _ hl).later hR.toBelow
  ·have ho : ¬ 16 ≤ i.op := by simpa using hc
   rw [if_neg ho, if_neg ho, List.append_nil]
   refine satq_skip (atq_midW () (aI rfl (aI rfl (aI rfl (aI rfl trivial)))) fun r w4 hR => ?_)
   exact hs2.later hR.toBelow
 refine satq_jump 9 rfl rfl rfl ?_
 conv => whnf
 refine ⟨_, block_cells hs3.box (off := 0 + 1) (x := intV i.d) rfl, ?_⟩
 conv => whnf
 refine ⟨_, block_cells hs3.box (off := 0 + 2) (x := intV i.a) rfl, ?_⟩
 conv => whnf
 obtain ⟨vO1, k1, k2⟩ := hs3.step
 refine jmp_add k1 [⟨qCode i.op, i.d, i.a, if 16 ≤ i.op then 20 else i.b, 0⟩] 0 1 rfl rfl (by rw [List.length_append]; split <;> simp <;> omega) fun w4 hl => ?_
 have hfin := k2 _ _ hl
 have e : l1 ++ (if 16 ≤ i.op then [⟨1, 20, 0, 0, i.imm⟩] else []) ++ [(⟨qCode i.op, i.d, i.a, if 16 ≤ i.op then 20 else i.b, 0⟩ : BOp)] = l1 ++ (if 16 ≤ i.op then [⟨1, 20, 0, 0, i.imm⟩, ⟨qCode i.op, i.d, i.a, 20, 0⟩] else [⟨qCode i.op, i.d, i.a, i.b, 0⟩]) := by
  split <;> simp
 rw [e] at hfin
 conv => whnf
 refine atq_end ?_
 conv => whnf
 exact fin_val rfl fun w5 hB => ⟨rfl, (hfin.lift.early hB1).later hB⟩
end
end Go.Proofs.YtnhdcclpjildjaaGreat
namespace Go.Proofs.YtnhdcclpjildjaaGreat
open Go.RowKit

section
variable {P : Program} {w0 : World} {G : Gs} {N : Nd} {S : List Ow} {f : Fr} {o : Oper}
theorem q_makeFunc2 {K : AV → Prop} {fid : FuncId} {x y : Operand} {vx vy : Value} (hop : o.op = .makeFunc (.func fid) #[] #[x, y]) (hx : f.ev x = one vx) (hy : f.ev y = one vy) (hk : K (one (.func (.func fid) #[] #[vx, vy]))) : QRun P w0 G S f o K := by
 refine ⟨_, hk, fun r a hf => ?_⟩
 have h1 := hf.ev x
 have h2 := hf.ev y
 rw [hx] at h1; rw [hy] at h2
 refine ⟨_, den_one _ _, fun w hR => ?_⟩
 simp [execOp, hop, den_v h1, den_v h2, Instr.makeFunc]
theorem extract_bytes (l : List Int) : ((bytesA l).extract 0 l.length).data.toList = l.map fun n => UInt8.ofNat n.toNat := by
 have h : (bytesA l).extract 0 l.length = bytesA l := by
  have := bytesA_size l
  rw [← this]
  exact ByteArray.extract_zero_size
 rw [h, bytesA_list]
theorem run_firstBytes (P : Program) (w : World) (l : List Int) (hl : ∀ x ∈ l, 0 ≤ x ∧ x < 256) : (Builtin.firstCells 1 l.length (strV l)).run P w = .ok (l.map (Value.int .u8)).toArray w := by
 have h : ((bytesA l).extract 0 l.length).data.map (fun b => Value.int .u8 b.toNat) = (l.map (Value.int .u8)).toArray := by
  apply Array.ext'
  rw [Array.toList_map, extract_bytes, List.map_map]
  refine List.map_congr_left fun x hx => ?_
  have := hl x hx
  have h2 : (UInt8.ofNat x.toNat).toNat = x.toNat := by simp; omega
  show Value.int .u8 (((UInt8.ofNat x.toNat).toNat : Nat) : Int) = Value.int .u8 x
  rw [h2]
  congr 1
  omega
 show (pure (((bytesA l).extract 0 l.length).data.map fun b => Value.int .u8 b.toNat) : Sem (Array Value)).run P w = _
 rw [h]
 exact Sem.run_pure _ _ _
theorem op_copy_str {K : Fr → List Ow → Prop} {t t2 e ti : TypeId} {inf : TypeInfo} {d s : Operand} {li : List CV} (l : List Int) (i n c : Nat) (hop : o.op = .call ⟨.builtin .copy, #[d, s], #[t, t2]⟩) (ht : P.underlying t = some (.slice e)) (hif : P.info? e = some inf) (hsz : inf.size = 1)
  (hd : f.ev d = .p (.c (.sl i 0 n c))) (hs : f.ev s = one (strV l)) (hi : S[i]? = some (.cells ti li)) (hl : ∀ x ∈ l, 0 ≤ x ∧ x < 256) (hmn : l.length ≤ n) (hle : l.length ≤ li.length) (hdst : dstOk N.n o.dst = true)
  (hk : K (f.put o.dst (one (.int .i64 (l.length : Int)))) (S.set i (.cells ti (setAll li 0 ((l.map (Value.int .u8)).map .v))))) : OpS P w0 G N o f S K := by
 refine ⟨fun r a w hR hf hN hd' next Q hK => ?_⟩
 have h1 := hf.ev d
 have h2 := hf.ev s
 rw [hd] at h1; rw [hs] at h2
 obtain ⟨b, hb, hu⟩ := den_sl h1
 obtain ⟨b', vs, e1, e2, e3⟩ := hR.own i _ hi
 rw [hb] at e1; injection e1 with e1; subst e1
 have hfirst := run_firstBytes P w l hl
 have hll := denL_length e3
 obtain ⟨w', hr, hg, hbl⟩ := run_storeCells (P := P) (l.map (Value.int .u8)) (i := 0) (off := 0) e2 (fun u hu => by obtain ⟨x, _, rfl⟩ := List.mem_map.1 hu; exact ⟨fun x h => (by cases h), fun x h => (by cases h)⟩) (by rw [List.length_map]; omega)
 have hmin : Nat.min l.length n = l.length := Nat.min_eq_left hmn
 have hmin' : min l.length n = l.length := Nat.min_eq_left hmn
 have hlen : (Builtin.lenOf (strV l)).run P w = .ok l.length w := by
  show (pure (bytesA l).size : Sem Nat).run P w = _
  rw [bytesA_size]; exact Sem.run_pure _ _ _
 have hex : (execOp a.eval o).run P w = .ok (.value (.int .i64 (l.length : Int))) w' := by
  simp [execOp, hop, resolve, invoke, builtin, hu, den_v h2, Builtin.copy_, run_underlying ht, hlen, run_sizeOf P e w hif, hsz, hmin, hfirst, hr, goInt]
 refine wp_of_value hex (hK _ _ _ _ hk ?_)
 refine good_value hR hf hN hd' hdst (den_one _ _) (hR.setBlock hb hg ⟨b, _, hb, hbl, ?_⟩ (hR.lt_of_blk hb)) (Env.le.refl r)
 exact denL_setAll _ (denL_vals _) e3
end
end Go.Proofs.YtnhdcclpjildjaaGreat
namespace Go.Proofs.YtnhdcclpjildjaaGreat
open Go.RowKit

abbrev lpT : TypeId := 136
section
variable {w : World} {g : Nat} {vA vP vO : Value} {l : List BOp} {pl pi : Nat}
abbrev testL (i : QI) (c : Int) (inv : Bool) : List BOp := [⟨c, 20, i.d, i.a, 0⟩] ++ (if inv = true then [⟨1, 21, 0, 0, 1⟩, ⟨7, 20, 20, 21, 0⟩] else [])
set_option maxRecDepth 100000 in
theorem test_walk (i : QI) (c : Int) (inv : Bool) (h : LiftAt w g vA vP vO l) (hl : LSt w w g vA vP vO l pl [pV g] lpT) (hi : LSt w w g vA vP vO l pi (qiL i) qiT) (hlen : l.length ≤ 100000000) :
  Calls Tryz.prog 118 #[intV c, .bool inv, pV pl, pV pi] w fun e w' => e = .returned (.tuple #[]) ∧ LiftTo w w' g vA vP vO (l ++ testL i c inv) := by
 refine calls_satq [intV c, .bool inv, pV pl, pV pi] Tryz.func118 Tryz.ntmps118 rfl (by simp) ?_
 refine satq_in (satq_jump 8 rfl rfl rfl ?_)
 conv => whnf
 refine ⟨_, block_cells hl.box (off := 0) (x := pV g) rfl, ?_⟩
 conv => whnf
 refine ⟨_, block_cells hi.box (off := 0 + 1) (x := intV i.d) rfl, ?_⟩
 conv => whnf
 refine ⟨_, block_cells hi.box (off := 0 + 2) (x := intV i.a) rfl, ?_⟩
 conv => whnf
 refine jmp_add h [⟨c, 20, i.d, i.a, 0⟩] 0 1 rfl rfl (by omega) fun w1 hq => ?_
 have hl1 : LSt w w1 g vA vP vO (l ++ [⟨c, 20, i.d, i.a, 0⟩]) pl [pV g] lpT := ⟨hq, (hq.block pl hl.lt hl.ne hl.no).trans hl.box, hl.lt, hl.ne, hl.no⟩
 conv => whnf
 refine atq_on ?_
 refine satq_seqN ?_
 conv => whnf
 cases inv with
 | false =>
  refine satq_cond rfl (fun hc => absurd hc (by decide)) (fun _ => ?_)
  refine satq_skip (atq_end ?_)
  conv => whnf
  exact fin_val rfl fun w2 hB => ⟨rfl, hl1.lift.later hB⟩
 | true =>
  refine satq_cond rfl (fun _ => ?_) (fun hc => absurd hc (by decide))
  refine satq_jump 4 rfl rfl rfl ?_
  conv => whnf
  refine ⟨_, block_cells hl1.box (off := 0) (x := pV g) rfl, ?_⟩
  conv => whnf
  obtain ⟨vO1, k1, k2⟩ := hl1.step
  refine jmp_add k1 [⟨1, 21, 0, 0, 1⟩, ⟨7, 20, 20, 21, 0⟩] 0 2 rfl rfl (by rw [List.length_append]; simp; omega) fun w2 hq2 => ?_
  have hfin := k2 _ _ hq2
  rw [List.append_assoc] at hfin
  conv => whnf
  refine atq_end ?_
  conv => whnf
  exact fin_val rfl fun w3 hB => ⟨rfl, hfin.lift.later hB⟩
theorem test_jmp {w1 : World} {S : List Ow} {K : Value → World → Prop} (i : QI) (c : Int) (inv : Bool) (h : LiftAt w1 g vA vP vO l) (hl : LSt w1 w1 g vA vP vO l pl [pV g] lpT) (hi : LSt w1 w1 g vA vP vO l pi (qiL i) qiT) (hlen : l.length ≤ 100000000)
  (hK : ∀ w2, LSt w1 w2 g vA vP vO (l ++ testL i c inv) pl [pV g] lpT ∧ LSt w1 w2 g vA vP vO (l ++ testL i c inv) pi (qiL i) qiT → K (.tuple #[]) w2) :
  Jmp Tryz.prog w1 Gs.nil 118 [one (intV c), one (.bool inv), one (pV pl), one (pV pi)] S K := by
 refine jmp_con (fun u w2 => u = .tuple #[] ∧ LSt w1 w2 g vA vP vO (l ++ testL i c inv) pl [pV g] lpT ∧ LSt w1 w2 g vA vP vO (l ++ testL i c inv) pi (qiL i) qiT) rfl (by kernel_rfl) (fun r w2 hR => ?_) fun u w2 ⟨hu, hj⟩ => hu ▸ hK w2 hj
 have hB := hR.toBelow
 have h2 := h.later hB
 have hl2 : LSt w2 w2 g vA vP vO l pl [pV g] lpT := ⟨LiftTo.refl h2 (Below.refl _ _), (hB.block pl hl.lt).trans hl.box, Nat.lt_of_lt_of_le hl.lt hB.size, hl.ne, hl.no⟩
 have hi2 : LSt w2 w2 g vA vP vO l pi (qiL i) qiT := ⟨LiftTo.refl h2 (Below.refl _ _), (hB.block pi hi.lt).trans hi.box, Nat.lt_of_lt_of_le hi.lt hB.size, hi.ne, hi.no⟩
 refine (test_walk i c inv h2 hl2 hi2 hlen).mono fun e w3 ⟨he, hq⟩ => ⟨_, he, rfl, ?_, ?_⟩
 ·exact ⟨hq.early hB, (hq.block pl hl2.lt hl2.ne hl2.no).trans hl2.box, hl.lt, hl.ne, hl.no⟩
 ·exact ⟨hq.early hB, (hq.block pi hi2.lt hi2.ne hi2.no).trans hi2.box, hi.lt, hi.ne, hi.no⟩
def branchL (i : QI) (at_ : Int) : List BOp := qTest i ++ [⟨23, 0, 20, 0, cut32 (at_ + 4 * i.imm)⟩, ⟨24, 0, 0, 0, cut32 (at_ + 4)⟩]
set_option maxRecDepth 100000 in
set_option maxHeartbeats 2000000 in
theorem branch_walk (i : QI) (at_ : Int) (h : LiftAt w g vA vP vO l) (ho : 32 ≤ i.op ∧ i.op ≤ 37) (hlen : l.length ≤ 10000000) :
  Calls Tryz.prog 101 #[pV g, qiV i, .int .u32 at_] w fun e w' => e = .returned (.tuple #[]) ∧ LiftTo w w' g vA vP vO (l ++ branchL i at_) := by
 refine calls_satq [pV g, qiV i, .int .u32 at_] Tryz.func101 Tryz.ntmps101 rfl (by simp) ?_
 refine satq_seqN ?_
 conv => whnf
 refine satq_restart fun r w1 hR => ?_
 obtain ⟨pl, us, e1, e2, e3⟩ := hR.own 0 _ rfl
 obtain rfl := denL_vals_inv (us := [pV g]) e3
 obtain ⟨pi, us, f1, f2, f3⟩ := hR.own 1 _ rfl
 obtain rfl := denL_vals_inv (us := qiL i) f3
 have hB1 := hR.toBelow
 have hs := box_ok h hB1 e2 (fresh_of hR e1)
 have hs' := box_ok h hB1 f2 (fresh_of hR f1)
 have h1 := h.later hB1
 refine ⟨slotFr [(2, .int .u32 at_), (3, pV pl), (4, pV pi)], fun a' hf => slots_den ⟨slot_val hf rfl, slot_ref hf 3 rfl e1, slot_ref hf 4 rfl f1, trivial⟩, ?_⟩
 clear hR e3 f3
 refine satq_seqN ?_
 conv => whnf
 refine q_makeFunc2 rfl rfl rfl ?_
 conv => whnf
 refine satq_midW (α := Unit) (fun _ => [(2, one (.int .u32 at_)), (3, one (pV pl)), (4, one (pV pi))]) (fun _ w2 => LSt w1 w2 g vA vP vO (l ++ qTest i) pl [pV g] lpT ∧ LSt w1 w2 g vA vP vO (l ++ qTest i) pi (qiL i) qiT) ?_ fun _ w2 hs2 => ?_
 ·refine satq_seqN ?_
  conv => whnf
  refine ⟨_, block_cells hs'.box (off := 0 + 0) (x := intV i.op) rfl, ?_⟩
  conv => whnf
  refine satq_block ?_
  refine satq_seqN ?_
  conv => whnf
  refine satq_cond rfl (fun hc => ?_) (fun hc => ?_)
  ·have hi : i.op = 32 := by simpa using hc
   refine satq_jump 1 rfl rfl rfl ?_
   conv => whnf
   refine test_jmp i 13 false h1 hs hs' (by omega) fun w2 hq => ?_
   conv => whnf
   refine atq_block (atq_midW () (aI rfl (aI rfl (aI rfl trivial))) fun r w3 hR => ?_)
   have ht : qTest i = testL i 13 false := by unfold qTest qTestCode testL; rw [hi]; rfl
   rw [ht]
   exact ⟨hq.1.later hR.toBelow, hq.2.later hR.toBelow⟩
  have n32 : ¬ i.op = 32 := by simpa using hc
  clear hc
  refine satq_seqN ?_
  conv => whnf
  refine satq_cond rfl (fun hc => ?_) (fun hc => ?_)
  ·have hi : i.op = 33 := by simpa using hc
   refine satq_jump 1 rfl rfl rfl ?_
   conv => whnf
   refine test_jmp i 7 false h1 hs hs' (by omega) fun w2 hq => ?_
   conv => whnf
   refine atq_block (atq_midW () (aI rfl (aI rfl (aI rfl trivial))) fun r w3 hR => ?_)
   have ht : qTest i = testL i 7 false := by unfold qTest qTestCode testL; rw [hi]; rfl
   rw [ht]
   exact ⟨hq.1.later hR.toBelow, hq.2.later hR.toBelow⟩
  have n33 : ¬ i.op = 33 := by simpa using hc
  clear hc
  refine satq_seqN ?_
  conv => whnf
  refine satq_cond rfl (fun hc => ?_) (fun hc => ?_)
  ·have hi : i.op = 34 := by simpa using hc
   refine satq_jump 1 rfl rfl rfl ?_
   conv => whnf
   refine test_jmp i 14 false h1 hs hs' (by omega) fun w2 hq => ?_
   conv => whnf
   refine atq_block (atq_midW () (aI rfl (aI rfl (aI rfl trivial))) fun r w3 hR => ?_)
   have ht : qTest i = testL i 14 false := by unfold qTest qTestCode testL; rw [hi]; rfl
   rw [ht]
   exact ⟨hq.1.later hR.toBelow, hq.2.later hR.toBelow⟩
  have n34 : ¬ i.op = 34 := by simpa using hc
  clear hc
  refine satq_seqN ?_
  conv => whnf
  refine satq_cond rfl (fun hc => ?_) (fun hc => ?_)
  ·have hi : i.op = 35 := by simpa using hc
   refine satq_jump 1 rfl rfl rfl ?_
   conv => whnf
   refine test_jmp i 14 true h1 hs hs' (by omega) fun w2 hq => ?_
   conv => whnf
   refine atq_block (atq_midW () (aI rfl (aI rfl (aI rfl trivial))) fun r w3 hR => ?_)
   have ht : qTest i = testL i 14 true := by unfold qTest qTestCode testL; rw [hi]; rfl
   rw [ht]
   exact ⟨hq.1.later hR.toBelow, hq.2.later hR.toBelow⟩
  have n35 : ¬ i.op = 35 := by simpa using hc
  clear hc
  refine satq_seqN ?_
  conv => whnf
  refine satq_cond rfl (fun hc => ?_) (fun hc => ?_)
  ·have hi : i.op = 36 := by simpa using hc
   refine satq_jump 1 rfl rfl rfl ?_
   conv => whnf
   refine test_jmp i 15 false h1 hs hs' (by omega) fun w2 hq => ?_
   conv => whnf
   refine atq_block (atq_midW () (aI rfl (aI rfl (aI rfl trivial))) fun r w3 hR => ?_)
   have ht : qTest i = testL i 15 false := by unfold qTest qTestCode testL; rw [hi]; rfl
   rw [ht]
   exact ⟨hq.1.later hR.toBelow, hq.2.later hR.toBelow⟩
  have n36 : ¬ i.op = 36 := by simpa using hc
  clear hc
  refine satq_seqN ?_
  conv => whnf
  refine satq_cond rfl (fun hc => ?_) (fun hc => ?_)
  ·have hi : i.op = 37 := by simpa using hc
   refine satq_jump 1 rfl rfl rfl ?_
   conv => whnf
   refine test_jmp i 15 true h1 hs hs' (by omega) fun w2 hq => ?_
   conv => whnf
   refine atq_block (atq_midW () (aI rfl (aI rfl (aI rfl trivial))) fun r w3 hR => ?_)
   have ht : qTest i = testL i 15 true := by unfold qTest qTestCode testL; rw [hi]; rfl
   rw [ht]
   exact ⟨hq.1.later hR.toBelow, hq.2.later hR.toBelow⟩
  have n37 : ¬ i.op = 37 := by simpa using hc
  clear hc
  omega
 obtain ⟨hs3, hs4⟩ := hs2
 refine satq_jump 11 rfl rfl rfl ?_
 conv => whnf
 refine ⟨_, block_cells hs3.box (off := 0) (x := pV g) rfl, ?_⟩
 conv => whnf
 refine ⟨_, block_cells hs4.box (off := 0 + 4) (x := .int .u32 i.imm) rfl, ?_⟩
 conv => whnf
 refine ⟨_, wr32 _, ?_⟩
 conv => whnf
 refine ⟨cut32 (at_ + 4 * i.imm), by rw [wr32]; unfold cut32; omega, ?_⟩
 conv => whnf
 refine ⟨cut32 (at_ + 4), by rw [wr32]; rfl, ?_⟩
 conv => whnf
 obtain ⟨vO1, k1, k2⟩ := hs3.step
 have htl : (qTest i).length ≤ 3 := by unfold qTest; split <;> simp
 refine jmp_add k1 [⟨23, 0, 20, 0, cut32 (at_ + 4 * i.imm)⟩, ⟨24, 0, 0, 0, cut32 (at_ + 4)⟩] 0 2 rfl rfl (by rw [List.length_append]; omega) fun w3 hq => ?_
 have hfin := k2 _ _ hq
 rw [List.append_assoc] at hfin
 conv => whnf
 refine atq_end ?_
 conv => whnf
 exact fin_val rfl fun w4 hB => ⟨rfl, (hfin.lift.early hB1).later hB⟩
end
end Go.Proofs.YtnhdcclpjildjaaGreat
