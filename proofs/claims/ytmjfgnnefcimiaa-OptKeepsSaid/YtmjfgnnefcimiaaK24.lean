/- Regions with guards within guards: an operation that is passed over leaves nothing. The arguments of a law, opened: a slice of integers and an array of three. A range over slices.Backward, in a function of the walk. Blocks whose operations are seen through views: the passes called on them. -/
import Derived.ProofKit
import Derived.OpenShut
import Derived.ShutString
import Derived.ChangeOld
import Derived.Below
import Derived.Lib.SmallJoins
import Derived.Test.YtmjfgnnefcimiaaK1
import Derived.Test.YtmjfgnnefcimiaaK12
import Derived.Test.YtmjfgnnefcimiaaK13
import Derived.Test.YtmjfgnnefcimiaaK14
import Derived.Test.YtmjfgnnefcimiaaK15
import Derived.Test.YtmjfgnnefcimiaaK16
import Derived.Test.YtmjfgnnefcimiaaK17
import Derived.Test.YtmjfgnnefcimiaaK18
import Derived.Test.YtmjfgnnefcimiaaK19
import Derived.Test.YtmjfgnnefcimiaaK20
import Derived.Test.YtmjfgnnefcimiaaK21
import Derived.Test.YtmjfgnnefcimiaaK22
import Derived.Test.YtmjfgnnefcimiaaK23
import Derived.Test.YtmjfgnnefcimiaaK3
import Derived.Test.YtmjfgnnefcimiaaK5
import Derived.Test.YtmjfgnnefcimiaaK6
namespace Go.Proofs.Ytmjfgnnefcimiaa
open Go.RowKit
def guardU (ops : Array Oper) (f : Fr) (o : Oper) : Option Bool := match o.guard with
  | none => some true
  | some (j, pol) => (match slotOf ops j with
    | some d => (match f.get d with
      | .p (.c (.v (.bool x))) => some (x == pol)
      | .p (.c (.v (.tuple _))) => some false
      | _ => none)
    | none => none)
def guardedU (P : Program) (W : World) (G : Gs) (N : Nd) (ops : Array Oper) : List Oper → Fr → List Ow → (Fr → List Ow → Prop) → Prop
  | [], f, S, K => K f S
  | o :: l, f, S, K => match o.guard with
    | none => opK P W G N o f S fun f' S' => guardedU P W G N ops l f' S' K
    | some _ => (match guardU ops f o with
    | some x => (x = true → opK P W G N o f S fun f' S' => guardedU P W G N ops l f' S' K) ∧ (x = false → (match dstOk N.n o.dst with
      | true => f.putK o.dst (one undef) fun f' => guardedU P W G N ops l f' S K
      | false => False))
    | none => False)
section
variable {P : Program} {w0 : World} {G : Gs} {N : Nd} {c d : Code} {f : Fr} {S : List Ow} {Q : Exit → Act → World → Prop}
theorem guardU_wanted {ops : Array Oper} {r : Env} {a : Act} {o : Oper} {x : Bool} (hf : FDen r f a) (h : guardU ops f o = some x) : Region.wanted o (yielded ops a.tmps) = x := by
  unfold guardU at h
  split at h
  · rename_i hg; injection h with h; subst h; exact wanted_none hg _
  · rename_i j pol hg
    split at h
    · rename_i d hs
      split at h
      · rename_i y hy
        injection h with h; subst h
        rw [wanted_some hg, yielded_of hf hs hy]
        cases y <;> cases pol <;> rfl
      · rename_i vs hy
        injection h with h; subst h
        rw [wanted_some hg]
        have hv := hf d
        rw [hy] at hv
        have hv := den_v hv
        unfold slotOf at hs
        have : yielded ops a.tmps j = none := by
          unfold yielded
          rw [hs]
          show (match a.tmps[d]? with | some (.bool b) => some b | _ => none) = none
          rw [Array.getD_eq_getD_getElem?] at hv
          cases hd : a.tmps[d]? with
          | none => rfl
          | some v =>
            rw [hd] at hv
            simp at hv; subst hv; rfl
        rw [this]
        cases pol <;> rfl
      · cases h
    · cases h
theorem guardedU_sound {ops : Array Oper} {Q : Act → World → Prop} : ∀ (l : List Oper) (f : Fr) (S : List Ow) (K : Fr → List Ow → Prop), guardedU P w0 G N ops l f S K → (∀ f' S' a' w', K f' S' → Good w0 G N f' S' a' w' → Q a' w') →
    ∀ a w, Good w0 G N f S a w → seL P ops Q l a w
  | [], f, S, K, h, hK, a, w, hg => hK _ _ _ _ h hg
  | o :: l, f, S, K, h, hK, a, w, hg => by
    obtain ⟨r, hR, hf, hN, hd⟩ := hg
    unfold guardedU at h
    split at h
    · rename_i hg
      unfold seL
      rw [if_pos (wanted_none hg _)]
      exact (opK_sound h).out r a w hR hf hN hd _ (fun _ _ _ => True) fun f' S' a' w' hk hg' => guardedU_sound l f' S' K hk hK a' w' hg'
    rename_i _ _ _
    split at h
    · rename_i x hgd
      have hw := guardU_wanted hf hgd
      cases x with
      | true =>
        unfold seL
        rw [if_pos hw]
        exact (opK_sound (h.1 rfl)).out r a w hR hf hN hd _ (fun _ _ _ => True) fun f' S' a' w' hk hg' => guardedU_sound l f' S' K hk hK a' w' hg'
      | false =>
        have h := h.2 rfl
        split at h
        · rename_i hdst
          have hk := putK_iff.1 h
          unfold seL
          rw [if_neg (by rw [hw]; decide)]
          exact guardedU_sound l _ S K hk hK _ w ⟨r, hR, hf.put (den_one _ _) (by rw [hN]; exact hdst), (put_size a _ _).trans hN, (put_defers a _ _).trans hd⟩
        · exact h.elim
    · exact h.elim
/-- A return out of blocks and loops. -/
theorem atq_up {Q' : Exit → Act → World → Prop} (h : AtQ w0 G N .ret f S Q) (hQ : ∀ a w, Q .ret a w → Q' .ret a w) : AtQ w0 G N .ret f S Q' := ⟨fun a w hg => hQ a w (h.out a w hg)⟩
theorem satq_regionU {id : Nat} {ops : Array Oper} (h : guardedU P w0 G N ops ops.toList f S fun f' S' => AtQ w0 G N .normal f' S' Q) : SatQ P w0 G N (.region id ops false) f S Q :=
  ⟨fun a w hg => wpIn_region_list (seL_wpIn none 10 (guardedU_sound _ f S _ h (fun _f' _S' a' w' hk hg' => hk.out a' w' hg') a w hg))⟩
end
end Go.Proofs.Ytmjfgnnefcimiaa
namespace Go.Proofs.Ytmjfgnnefcimiaa
open Go.ChangeShapes Go.WideShapes Go.ChangeAt Go.RowKit

theorem ownK : ownKnob Try.prog.godebug = none := by kernel_rfl
theorem laidOutP : laidOutB Try.prog = true := by kernel_rfl
theorem cells_lt {w : World} {b o : Nat} {u : Value} (h : w.cell? ⟨b, o, none⟩ = some u) : b < w.heap.size := by
  rcases Nat.lt_or_ge b w.heap.size with h1 | h1
  · exact h1
  · simp [World.cell?, Array.getElem?_eq_none h1] at h
/-- A slice of integers that came in. -/
theorem open_sl {H : Type} {enc : TypeId × Value → H} {W : World} {a : Option Addr} {len cap : Nat} {d : DataW H} {p : List MemPlace} (h : DataW.Trod enc Try.prog W 0 (fun _ => true) true 22 (.slice a len cap) d p) :
    ∃ xs : List Int, SlAt W W.heap.size a (xs.map (.int .i64)) ∧ xs.length = len ∧ len ≤ cap := by
  obtain ⟨fuel, hf⟩ := h
  rcases open_ints Try.underlying22 Try.underlying3 (by kernel_rfl) hf with ⟨hcs, _⟩ | ⟨x, l, c, zs, hcs, _, hl, hm, hz, _, hcell, hwz⟩
  · simp [Value.cells] at hcs
    obtain ⟨rfl, rfl, rfl⟩ := hcs
    exact ⟨[], SlAt.nil, rfl, Nat.le_refl _⟩
  · simp [Value.cells] at hcs
    obtain ⟨rfl, rfl, rfl⟩ := hcs
    have hz : zs.length = cap := by simpa using hz
    refine ⟨zs.take len, fun j u hj => ?_, by rw [List.length_take]; omega, hl⟩
    rw [List.getElem?_map, List.getElem?_take] at hj
    split at hj
    · rename_i hjl
      have hjz : j < zs.length := by omega
      have hc := hcell j hjz
      obtain ⟨b, off, spot⟩ := x
      have hsp : spot = none := by
        have h0 := hcell 0 (by omega)
        simpa [Addr.add] using World.cell?_spot h0
      subst hsp
      rw [addr_add] at hc
      rw [List.getElem?_eq_getElem hjz] at hj
      have hg : zs.getD j 0 = zs[j] := by rw [List.getD_eq_getElem?_getD, List.getElem?_eq_getElem hjz]; rfl
      rw [hg] at hc
      injection hj with hj; subst hj
      exact ⟨b, off, rfl, cells_lt hc, hc⟩
    · cases hj
set_option maxRecDepth 100000 in
/-- An array of three integers. -/
theorem open_q {H : Type} {enc : TypeId × Value → H} {W : World} {r : Reach} {b0 : Nat} {v : Value} {d : DataW H} {p : List MemPlace} (hv : Value.okWide Try.prog W r b0 23 v) (h : DataW.Trod enc Try.prog W 0 (fun _ => true) true 23 v d p) :
    ∃ x y z : Int, v = .agg #[.int .i64 x, .int .i64 y, .int .i64 z] := by
  simp only [Value.okWide, Try.underlying23] at hv
  obtain ⟨cs, rfl, hsz, _⟩ := hv
  have hc3 : Try.prog.cellsOf 23 = 3 := by kernel_rfl
  have hc1 : Try.prog.cellsOf 3 = 1 := by kernel_rfl
  rw [hc3] at hsz
  obtain ⟨c0, c1, c2, rfl⟩ := Go.Joins.array3 hsz
  obtain ⟨fuel, hf⟩ := h
  obtain ⟨xs, m, _, _, _, hlen, hel⟩ := DataW.trod_array Try.underlying23 hf
  have get : ∀ i, i < 3 → ∃ y, DataW.trod enc Try.prog W 0 (fun _ => true) true m 3 (([c0, c1, c2].drop (i * 1)).take 1) = some y := fun i hi => by
    have := hel i hi
    rw [hc1] at this
    exact ⟨xs[i], by rw [List.getElem?_eq_getElem (by omega)] at this; exact this⟩
  obtain ⟨y0, h0⟩ := get 0 (by omega)
  obtain ⟨y1, h1⟩ := get 1 (by omega)
  obtain ⟨y2, h2⟩ := get 2 (by omega)
  obtain ⟨n0, e0, _⟩ := DataW.trod_int Try.underlying3 h0
  obtain ⟨n1, e1, _⟩ := DataW.trod_int Try.underlying3 h1
  obtain ⟨n2, e2, _⟩ := DataW.trod_int Try.underlying3 h2
  simp at e0 e1 e2
  subst e0; subst e1; subst e2
  exact ⟨n0, n1, n2, rfl⟩
end Go.Proofs.Ytmjfgnnefcimiaa
namespace Go.Proofs.Ytmjfgnnefcimiaa
open Go.RowKit

theorem ownFrom_false {β : Type} {B : Nat} : OwnFrom B (fun (_ : β) (_ : World) => False) := fun _ _ _ _ h _ _ => h.elim
theorem eval_clo {r : Env} {f : Fr} {a : Act} {g : Operand} {fn : Fn} {i : Nat} (hf : FDen r f a) (h : f.ev g = .p (.c (.clo fn [.ref i 0]))) : ∃ b, r.blk i = some b ∧ a.eval g = .func fn #[] #[.pointer (some ⟨b, 0, none⟩)] := by
  have hd := hf.ev g
  rw [h] at hd
  simp only [AV.den, Pc.den, CV.den, denL] at hd
  obtain ⟨us, hu, u, l, rfl, ⟨b, hb, rfl⟩, rfl⟩ := hd
  exact ⟨b, hb, hu⟩
set_option maxRecDepth 100000 in
set_option maxHeartbeats 1000000 in
theorem satq_back {w0 : World} {N m : Nat} {f f0 fa : Fr} {V A T : List Ow} {tS : TypeId} {bb off c : Nat} {l : List BOp} {g : Operand} {p1 p2 : Tmp} {assign body : Code} {Q : Exit → Act → World → Prop}
    (hops : OpsAt w0 w0.heap.size (some ⟨bb, off, none⟩) l) (hbb : bb < w0.heap.size) (hlen : l.length ≤ 1000000)
    (hg : f.ev g = .p (.c (.clo (.func 75) [.ref V.length 0])))
    (hp : dstOk N (some p1) = true ∧ dstOk N (some p2) = true)
    (hf0 : FLe f f0) (hb0 : f0.bnd V.length = true) (hs0 : sbnd V.length V = true)
    (U : List (Elt l) → List Ow) (hUA : U [] = A ++ T) (hAm : A.length = m) (hA : cellsS A = true) (hUl : ∀ pre, (U pre).length = m + 1) (hUf : ∀ pre, flatS (U pre) = true) (hUs : ∀ pre, sbnd (m + 1) (U pre) = true)
    (hU0 : EntB f0 V fa (U [])) (hfa : fa.fx (fun i => Nat.blt i m) = true)
    (gi : Nat) (hgi : gi < m) (hrow : ∀ pre, ∃ t e sz n xs, (U pre)[gi]? = some (.cells t [.row m]) ∧ (U pre)[m]? = some (.row e sz n xs))
    (fb : Elt l → Fr) (hfb : ∀ x, (fb x).fx (fun i => Nat.blt i m || Nat.beq i (m + 1)) = true)
    (hassign : ∀ W gs ext lp pre x, gs.length = m → vc (some lp) Try.prog W ⟨gs, ext⟩ ⟨N, []⟩ assign ((p2, AV.of (opV x.1.2)) :: (p1, one (.int .i64 (x.1.1 : Int))) :: fa) (U pre) fun e f S => e = .normal ∧ Ent W ⟨gs, ext⟩ ⟨N, []⟩ f S (fb x) (U pre ++ [.cells 53 ((opC x.1.2).map .v)]))
    (hbody : ∀ W gs ext lp pre x, gs.length = m → pre.length < l.length → vc (some lp) Try.prog W ⟨gs, ext⟩ ⟨N, []⟩ body (fb x) (U pre ++ [.cells 53 ((opC x.1.2).map .v)]) fun e f S => e = .normal ∧ Ent W ⟨gs, ext⟩ ⟨N, []⟩ f S [] (U (pre ++ [x])))
    (hQ : ∀ D xs, AllDown xs → AtQ w0 Gs.nil ⟨N, [{ target := .collected D, args := #[] }]⟩ .normal fa (U xs ++ [objOw D (.deferred (some []))]) Q) :
    SatQ Try.prog w0 Gs.nil ⟨N, []⟩ (.rangeFunc g #[p1, p2] assign body) f (V ++ [.cells tS [.v (.slice (some ⟨bb, off, none⟩) l.length c)]]) Q := by
  refine ⟨fun a w ⟨r, hR, hf, hN, hd⟩ => ?_⟩
  obtain ⟨cb, hcb, hev⟩ := eval_clo hf hg
  have hcap := hR.own V.length (.cells tS [.v (.slice (some ⟨bb, off, none⟩) l.length c)]) (by simp)
  obtain ⟨cb', us, h1, hcw, h3⟩ := hcap
  rw [hcb] at h1; injection h1 with h1; subst h1
  obtain rfl := denL_vals_inv (us := [.slice (some ⟨bb, off, none⟩) l.length c]) h3
  have hRV : Rel w0 Gs.nil V (r.upto V.length) w := hR.upto rfl (by simp) (by simp [Gs.nil]) fun i o hi => by
    have hil : i < V.length := by
      rcases Nat.lt_or_ge i V.length with h1 | h1
      · exact h1
      · rw [List.getElem?_eq_none h1] at hi; cases hi
    exact Ow.holds_agree (hR.own i o (by rw [List.getElem?_append_left hil]; exact hi)) (Env.upto_agree _ _) (sbnd_get hs0 hi) hil (Env.upto_blk _ _)
  obtain ⟨ra, hRa, hfra, hblk⟩ := hU0.out w0 w _ a hRV ((hf0.den hf).agree (Env.upto_agree _ _) hb0)
  have hcbn : ∀ i, ra.blk i ≠ some cb := fun i hi => by
    obtain ⟨j, hj⟩ := hblk i cb hi
    have hj2 := Env.upto_blk _ _ _ _ hj
    have := hR.inj j V.length cb hj2 hcb
    simp only [Env.upto] at hj
    rw [if_neg (by omega)] at hj; cases hj
  have hra0 : ∀ i b, ra.blk i = some b → w0.heap.size ≤ b := fun i b hb => by
    rcases Nat.lt_or_ge b w0.heap.size with h | h
    · exact absurd ((hRa.new i b hb).2 h) (by simp)
    · exact h
  obtain ⟨gs, hgl, hgs⟩ := list_of (n := m) (p := ra.blk) fun i hi => cells_blk (T := T) (by rw [← hUA]; exact hRa) hA (by omega)
  obtain ⟨ex, hex1, hex2⟩ := blocks_of ra (m + 1)
  have hRw : Rel w ⟨gs, ex⟩ (U []) ra w := rel_base hRa (fun i g h => ((hgs i g).1 h).2) fun i b hb => .inr (hex1 i b (by have := hRa.lenB hb; rw [hUl] at this; exact this) hb)
  have hown0 : ∀ b, b ∈ gs ∨ b ∈ ex → ∃ i, ra.blk i = some b := fun b hb => by
    rcases hb with hb | hb
    · obtain ⟨i, hi⟩ := List.getElem?_of_mem hb; exact ⟨i, ((hgs i b).1 hi).2⟩
    · exact hex2 b hb
  -- what is own within the loop is none of the iterator's blocks
  have hfar : ∀ {S : List Ow} {r' : Env} {W : World}, Rel w ⟨gs, ex⟩ S r' W → ∀ i b, r'.blk i = some b → b ≠ cb ∧ b ≠ bb := fun {S r' W} h i b hb => by
    rcases Nat.lt_or_ge b w.heap.size with hlt | hge
    · obtain ⟨j, hj⟩ := hown0 b ((h.new i b hb).2 hlt)
      exact ⟨fun e => hcbn j (e ▸ hj), fun e => by have := hra0 j b hj; omega⟩
    · have h1 := (hR.new _ _ hcb).1
      have h2 := hR.size
      exact ⟨by omega, by omega⟩
  have hfx0 : FDen (fixE gs (m + 1) 0) fa a := hfra.fx (ok := fun i => Nat.blt i m) (fun i b hi hb => by
    have hi : i < m := by simpa [Nat.blt_eq] using hi
    simp only [fixE]; rw [if_neg (by omega)]; exact (hgs i b).2 ⟨hi, hb⟩) hfa
  have hfixle : ∀ {S : List Ow} {r' : Env} {W0 W : World} {ext : List Nat}, Rel W0 ⟨gs, ext⟩ S r' W → FDen r' fa a := fun {S r' W0 W ext} h => hfx0.fx (ok := fun i => Nat.blt i m) (fun i b hi hb => by
    have hi : i < m := by simpa [Nat.blt_eq] using hi
    simp only [fixE] at hb; rw [if_neg (by omega)] at hb; exact h.first i b hb) hfa
  obtain ⟨gc, hgc⟩ : ∃ gc, gs[gi]? = some gc := ⟨_, List.getElem?_eq_getElem (by omega)⟩
  have hgcw : gc < w.heap.size := (hRa.new gi gc ((hgs gi gc).1 hgc).2).1
  -- the row's block stands in its cell
  have hal : ∀ {W0 : World} {ext : List Nat} {pre : List (Elt l)} {S2 : List Ow} {r' : Env} {W : World}, Rel W0 ⟨gs, ext⟩ (U pre ++ S2) r' W → ∃ u t, W.heap[gc]? = some (.cells #[u] t (0, 0)) ∧ u.ownBlock = r'.blk m := fun {W0 ext pre S2 r' W} h => by
    obtain ⟨t, e, sz, n, xs, h1, h2⟩ := hrow pre
    have hl := hUl pre
    obtain ⟨b, us, k1, k2, k3⟩ := h.own gi _ (by rw [List.getElem?_append_left (by omega)]; exact h1)
    obtain ⟨v, j1, j2, _⟩ := h.own m _ (by rw [List.getElem?_append_left (by omega)]; exact h2)
    have hb := h.first gi gc hgc
    rw [k1] at hb; injection hb with hb; subst hb
    simp only [denL] at k3
    obtain ⟨u, l', rfl, k4, rfl⟩ := k3
    simp only [CV.den] at k4
    rw [j1] at k4; injection k4 with k4; subst k4
    exact ⟨_, t, k2, j2⟩
  let I : List (Elt l) → World → Prop := fun pre W => ∃ r', Rel w ⟨gs, ex⟩ (U pre) r' W
  let Ax : Elt l → Act → World → Prop := fun x a' W => ∃ bx, (bx ∉ gs ∧ (bx < w.heap.size → bx ∈ (⟨gs, ex⟩ : Gs))) ∧ W.heap[bx]? = some (.cells (opC x.1.2).toArray 53 (0, 0)) ∧ (∃ u t, W.heap[gc]? = some (.cells #[u] t (0, 0)) ∧ u.ownBlock ≠ some bx) ∧ FDen (fixE gs (m + 1) bx) (fb x) a' ∧ a'.tmps.size = N ∧ a'.defers = []
  have hopsw : OpsAt w w.heap.size (some ⟨bb, off, none⟩) l := (hops.below hR.toBelow (Nat.le_refl _)).more hR.size
  have hKeep : ∀ {W W' : World} {S S' : List Ow} {r1 r2 : Env} {ext : List Nat}, Rel w ⟨gs, ex⟩ S r1 W → flatS S = true → (∀ b, b ∈ gs ∨ b ∈ ext → ∃ i, r1.blk i = some b) → Rel W ⟨gs, ext⟩ S' r2 W' → KeepsFrom w.heap.size W W' ∧ KpTwo cb bb W W' := fun {W W' S S' r1 r2 ext} h1 hfl hx h2 => by
    have hkeep : ∀ k, k < W.heap.size → (∀ i, r1.blk i ≠ some k) → W'.heap[k]? = W.heap[k]? := fun k hk hn => h2.old k hk fun hm => by
      obtain ⟨i, hi⟩ := hx k hm; exact hn i hi
    refine ⟨⟨h2.size, fun k o _ hk ho => (hkeep k (Array.getElem?_eq_some_iff.1 hk).1 fun i hi => ?_).trans hk⟩, hkeep cb (Nat.lt_of_lt_of_le (hR.new _ _ hcb).1 h1.size) fun i hi => (hfar h1 i cb hi).1 rfl, hkeep bb (Nat.lt_of_lt_of_le hbb (Nat.le_trans hR.size h1.size)) fun i hi => (hfar h1 i bb hi).2 rfl⟩
    obtain ⟨cs, t, fr, hh⟩ := rel_cells h1 hfl hi
    rw [hk] at hh; injection hh with hh; subst hh; cases ho
  refine wpIn_rangeFunc_ownH (F := Fence.wide) (n := 10) (α := Elt l) (gf := 75) (lb := #[.pointer (some ⟨cb, 0, none⟩)]) (encs := eltEnc) (Kp := KpTwo cb bb) (S := AllDown) (Sp := fun _ => True) (N := l.length) (w0 := w) (I := I) (Ix := fun _ _ _ => False) (Ax := Ax)
    rfl (by omega) hev trivial (fun args w' => MuLone.run_callFunc_enter (by rfl) (by kernel_rfl) (by rfl) args w') (backward_stops l bb off c cb tS w hopsw hlen hcw (Nat.lt_of_lt_of_le hbb hR.size) 9)
    (fun h1 h2 => ⟨h2.1.trans h1.1, h2.2.trans h1.2⟩) (fun W lp o o' hlp _ _ _ => ⟨World.putObj_heap_other (by have := (hR.new _ _ hcb).1; omega), World.putObj_heap_other (by have := hR.size; omega)⟩)
    (Below.refl _ _) (fun x => rfl) ?_ (fun _ => ownFrom_false) ⟨ra, hRw⟩ ?_ ?_ ?_ ?_ (fun _ _ _ _ _ _ h => h.elim)
  · rintro pre W W' row ⟨r', h⟩ hg' hr
    exact ⟨r', rel_grow h (hUf pre) hg' hr⟩
  · rintro x a' - W W' row ⟨bx, h1, h2, ⟨u, t, h3, h4⟩, h5⟩ hg' hr
    have hk : ∀ {k : Nat} {cs t fr}, W.heap[k]? = some (.cells cs t fr) → W'.heap[k]? = some (.cells cs t fr) := fun {k cs t fr} hk => (hg'.block k (Array.getElem?_eq_some_iff.1 hk).1 fun e => by
      obtain ⟨_, o, ho, hc⟩ := hr k e.symm
      rw [hk] at ho; injection ho with ho; subst ho; cases hc).trans hk
    exact ⟨bx, h1, hk h2, ⟨u, t, hk h3, h4⟩, h5⟩
  · rintro lp pre x W K ⟨r1, h1⟩ hK
    obtain ⟨ext, he1, he2⟩ := blocks_of r1 (m + 1)
    have hW := rel_base h1 (gs := gs) (ext := ext) h1.first fun i b hb => .inr (he1 i b (by have := h1.lenB hb; rw [hUl] at this; exact this) hb)
    have hx : ∀ b, b ∈ gs ∨ b ∈ ext → ∃ i, r1.blk i = some b := fun b hb => by
      rcases hb with hb | hb
      · obtain ⟨i, hi⟩ := List.getElem?_of_mem hb; exact ⟨i, h1.first i b hi⟩
      · exact he2 b hb
    have hgood : Good W ⟨gs, ext⟩ ⟨N, []⟩ ((p2, AV.of (opV x.1.2)) :: (p1, one (.int .i64 (x.1.1 : Int))) :: fa) (U pre) { tmps := ((#[p1, p2] : Array Tmp).zip (eltEnc x)).foldl (fun t (p, v) => t.setIfInBounds p v) a.tmps, defers := [] } W := by
      have e : ({ tmps := ((#[p1, p2] : Array Tmp).zip (eltEnc x)).foldl (fun t (p, v) => t.setIfInBounds p v) a.tmps, defers := [] } : Act) = (a.put (some p1) (.int .i64 (x.1.1 : Int))).put (some p2) (opV x.1.2) := by
        simp [eltEnc, Act.put, hd]
      rw [e]
      have f1 : FDen r1 ((p1, one (.int .i64 (x.1.1 : Int))) :: fa) (a.put (some p1) (.int .i64 (x.1.1 : Int))) := (hfixle h1).put (dst := some p1) (den_one _ _) (by rw [hN]; exact hp.1)
      exact ⟨r1, hW, f1.put (dst := some p2) (AV.of_den _ _) (by rw [put_size, hN]; exact hp.2), by rw [put_size, put_size]; exact hN, by rw [put_defers, put_defers]; exact hd⟩
    refine wpIn_mono ((vc_sound (ro := some lp) assign _ _ _ (hassign W gs ext lp pre x hgl)).out _ _ _ hgood) ?_
    rintro e a' W' ⟨f', S', ⟨rfl, hent⟩, hg'⟩
    obtain ⟨r2, h2, hf2, hN2, hd2⟩ := hent.out a' W' hg'
    have hW2 : Rel w ⟨gs, ex⟩ (U pre ++ [.cells 53 ((opC x.1.2).map .v)]) r2 W' := rel_back h1 h2 hx fun i g h => h
    have hl := hUl pre
    obtain ⟨bx, us2, k1, k2, k3⟩ := hW2.own (m + 1) (.cells 53 ((opC x.1.2).map .v)) (by rw [← hl]; simp)
    have k3 := denL_vals_inv k3
    subst k3
    obtain ⟨u, t, ku, kb⟩ := hal hW2
    have hbxn : ∀ i, r2.blk i = some bx → i = m + 1 := fun i hi => hW2.inj i (m + 1) bx hi k1
    have hbg : bx ∉ gs := fun hm => by
      obtain ⟨i, hi⟩ := List.getElem?_of_mem hm
      have := hbxn i (hW2.first i bx hi)
      have := (hgs i bx).1 hi
      omega
    refine hK a' W' (hKeep h1 (hUf pre) hx h2).1 (hKeep h1 (hUf pre) hx h2).2 ?_ ⟨bx, ⟨hbg, (hW2.new _ _ k1).2⟩, k2, ⟨u, t, ku, fun e => ?_⟩, ?_, hN2, hd2⟩
    · refine ⟨r2.upto (m + 1), hW2.upto hl (by simp [hl]) (by show gs.length ≤ _; omega) fun i o hi => ?_⟩
      have hil : i < m + 1 := by
        rcases Nat.lt_or_ge i (U pre).length with h1 | h1
        · omega
        · rw [List.getElem?_eq_none h1] at hi; cases hi
      exact Ow.holds_agree (hW2.own i o (by rw [List.getElem?_append_left (by omega)]; exact hi)) (Env.upto_agree _ _) (sbnd_get (hUs pre) hi) hil (Env.upto_blk _ _)
    · rw [kb] at e
      have := hbxn m e
      omega
    · refine hf2.fx (ok := fun i => Nat.blt i m || Nat.beq i (m + 1)) (fun i b hi hb => ?_) (hfb x)
      simp only [fixE]
      split
      · rename_i he; subst he; rw [k1] at hb; exact hb
      · rename_i he
        have hi : i < m := by
          have := hW2.lenB hb
          rcases Bool.or_eq_true _ _ ▸ hi with hi | hi
          · simpa [Nat.blt_eq] using hi
          · exact absurd (Nat.eq_of_beq_eq_true hi) he
        obtain ⟨g', hg'⟩ : ∃ g', gs[i]? = some g' := ⟨_, List.getElem?_eq_getElem (by omega)⟩
        rw [hW2.first i g' hg'] at hb
        rw [hg', hb]
  · rintro lp pre x a' W - - ⟨r1, h1⟩ ⟨bx, ⟨hbg, hbw⟩, hbh, ⟨u, t, hu, hub⟩, hfa', hN', hd'⟩ hpl
    have hl := hUl pre
    have hbn : ∀ i, r1.blk i ≠ some bx := fun i hi => by
      have hil := h1.lenB hi
      rcases Nat.lt_or_ge i m with him | him
      · obtain ⟨g', hg'⟩ : ∃ g', gs[i]? = some g' := ⟨_, List.getElem?_eq_getElem (by omega)⟩
        have := h1.first i g' hg'
        rw [this] at hi; injection hi with hi; subst hi
        exact hbg (List.mem_of_getElem? hg')
      · obtain rfl : i = m := by omega
        obtain ⟨u2, t2, hu2, hb2⟩ := hal (S2 := []) (pre := pre) (by rw [List.append_nil]; exact h1)
        rw [hu] at hu2; injection hu2 with hu2; injection hu2 with hu2; injection hu2 with hu2; injection hu2 with hu2
        subst hu2
        exact hub (hb2.trans hi)
    have h3 := rel_add h1 (o := .cells 53 ((opC x.1.2).map .v)) (b := bx) (Array.getElem?_eq_some_iff.1 hbh).1 hbw hbn (hUf pre) ⟨bx, opC x.1.2, by simp [Env.set], hbh, denL_vals _⟩
    generalize hr3 : r1.set (U pre).length (some bx) none = r3 at h3
    obtain ⟨ext, he1, he2⟩ := blocks_of r3 (m + 2)
    have hx : ∀ b, b ∈ gs ∨ b ∈ ext → ∃ i, r3.blk i = some b := fun b hb => by
      rcases hb with hb | hb
      · obtain ⟨i, hi⟩ := List.getElem?_of_mem hb; exact ⟨i, h3.first i b hi⟩
      · exact he2 b hb
    have hW := rel_base h3 (gs := gs) (ext := ext) h3.first fun i b hb => .inr (he1 i b (by have := h3.lenB hb; simp [hUl] at this; omega) hb)
    have hgood : Good W ⟨gs, ext⟩ ⟨N, []⟩ (fb x) (U pre ++ [.cells 53 ((opC x.1.2).map .v)]) a' W := by
      refine ⟨r3, hW, hfa'.mono ⟨fun i b hb => ?_, fun i v hv => by cases hv⟩, hN', hd'⟩
      simp only [fixE] at hb
      split at hb
      · rename_i he; subst hr3; simp only [Env.set]; rw [if_pos (by omega)]; exact hb
      · exact h3.first i b hb
    refine wpIn_mono ((vc_sound (ro := some lp) body _ _ _ (hbody W gs ext lp pre x hgl hpl)).out _ _ _ hgood) ?_
    rintro e a2 W' ⟨f', S', ⟨rfl, hent⟩, hg'⟩
    obtain ⟨r2, h2, _, _, _⟩ := hent.out a2 W' hg'
    have hfl : flatS (U pre ++ [.cells 53 ((opC x.1.2).map .v)]) = true := by
      have := hUf pre
      unfold flatS at this ⊢
      rw [List.all_append, this]; rfl
    exact ⟨(hKeep h3 hfl hx h2).1, (hKeep h3 hfl hx h2).2, r2, rel_back h3 h2 hx fun i g h => h⟩
  · rintro D xs W hD hS ⟨r1, h1⟩ hDW
    have h2 := rel_home hRa h1 hown0
    have h3 := rel_add h2 (o := objOw D (.deferred (some []))) (b := D) (Array.getElem?_eq_some_iff.1 hDW).1 (fun h => by have := hR.size; omega) (fun i hi => by
      obtain ⟨cs, t, fr, hh⟩ := rel_cells h2 (hUf xs) hi
      rw [hDW] at hh; injection hh with hh; cases hh) (hUf xs) ⟨D, by simp [Env.set], ⟨rfl, hDW⟩, fun w' h => ⟨rfl, h.trans hDW⟩⟩
    refine (hQ D xs hS).out _ W ⟨_, h3, (hfixle h1).mono (h2.le_new (some D) none), hN, ?_⟩
    show _ :: a.defers = _
    rw [hd]
end Go.Proofs.Ytmjfgnnefcimiaa
namespace Go.Proofs.Ytmjfgnnefcimiaa
open Go.RowKit

theorem ent_view {w0 : World} {N : Nd} {f f' : Fr} {S : List Ow} (i k : Nat) {t : TypeId} {l : List CV} {A : Option Addr} {n c : Nat} {xs : List Value} {φ : Option Addr → Prop} (hi : S[i]? = some (.cells t l)) (hk : l[k]? = some (.v (.slice A n c)))
    (hA : SlAt w0 w0.heap.size A xs) (hn : n ≤ c) (hc : c ≤ maxLen) (hφ : φ A) (hf : FLe f f') : Ent w0 Gs.nil N f S f' (S.set i (.cells t (l.set k (.row S.length))) ++ [.view φ n xs]) := by
  refine ⟨fun a w ⟨r, hR, hd, hN, hdf⟩ => ?_⟩
  obtain ⟨b, us, h1, h2, h3⟩ := hR.own i _ hi
  obtain ⟨u, hu, hv⟩ := denL_at h3 hk
  simp only [CV.den] at hv
  subst hv
  have hle := hR.le_new none (some (.slice A n c))
  have hil := hR.lt_of_blk h1
  have hnew : ∀ q b', (r.set S.length none (some (.slice A n c))).blk q = some b' → w0.heap.size ≤ b' := fun q b' hq => by
    simp only [Env.set] at hq
    split at hq
    · cases hq
    · rcases Nat.lt_or_ge b' w0.heap.size with h | h
      · exact absurd ((hR.new q b' hq).2 h) (by simp)
      · exact h
  have hR2 := hR.snoc (o := .view φ n xs) (Below.refl _ _) (b := none) (v := some (.slice A n c)) nofun ⟨A, c, by simp [Env.set], hn, ⟨hc, hφ⟩, by simp [Env.set], fun j u hj => by
    obtain ⟨b', off, e1, e2, e3⟩ := hA j u hj
    exact ⟨b', off, e1, Nat.lt_of_lt_of_le e2 hR.size, fun q hq => by have := hnew q b' hq; omega, (hR.oldCell e2 (by simp) _).trans e3⟩⟩
  refine ⟨_, ?_, hf.den (hd.mono hle), hN, hdf⟩
  have h4 := denL_set k (denL_mono hle l us h3) (c := .row S.length) (u := .slice A n c) (by simp only [CV.den]; simp [Env.set])
  have hus : us.set k (.slice A n c) = us := by
    refine List.ext_getElem? fun j => ?_
    rw [List.getElem?_set]
    split
    · rename_i e; subst e; rw [hu]; split
      · rfl
      · rename_i h; rw [List.getElem?_eq_none (by omega)] at hu; cases hu
    · rfl
  rw [hus] at h4
  have := rel_setSame hR2 (i := i) (o := .cells t (l.set k (.row S.length))) ⟨b, us, hle.blk _ _ h1, h2, h4⟩
  rwa [List.set_append_left _ _ hil] at this
theorem viewAt {w0 : World} {G : Gs} {S : List Ow} {r : Env} {w : World} {i : Nat} {φ : Option Addr → Prop} {n : Nat} {xs : List Value} {u : Value} (hR : Rel w0 G S r w) (hi : S[i]? = some (.view φ n xs)) (hu : r.val i = some u) :
    ∃ A c, u = .slice A n c ∧ SlAt w w.heap.size A xs ∧ n ≤ c ∧ c ≤ maxLen ∧ φ A ∧ ∀ (j : Nat) (x : Value), xs[j]? = some x → ∀ b off, A = some ⟨b, off, none⟩ → ∀ k, r.blk k ≠ some b := by
  obtain ⟨A, c, h1, h2, h3, h4, h5⟩ := hR.own i _ hi
  rw [hu] at h1; injection h1 with h1; subst h1
  refine ⟨A, c, rfl, fun j x hj => ?_, h2, h3.1, h3.2, fun j x hj b off hb k => ?_⟩
  · obtain ⟨b, off, e1, e2, _, e4⟩ := h5 j x hj; exact ⟨b, off, e1, e2, e4⟩
  · obtain ⟨b', off', e1, e2, e3, e4⟩ := h5 j x hj
    rw [e1] at hb; injection hb with hb; injection hb with hb; subst hb; exact e3 k
theorem call_pass {P : Program} {w0 : World} {S : List Ow} {K : AV → List Ow → Prop} {fid : FuncId} {F : Blk → List BOp} (hp : Pass P fid F) (hok : fnOk P fid = true) (i : Nat) (b : Blk) {φ : Option Addr → Prop} {A1 A2 : Option Addr} {c1 c2 : Nat} (hi : S[i]? = some (.view φ b.ops.length (b.ops.flatMap opC))) (hb : b.ok) (h0 : b.ops = [] → F b = [])
    (h1 : SlAt w0 w0.heap.size A1 (b.at_.map (.int .u32))) (h2 : SlAt w0 w0.heap.size A2 (b.pages.map (.int .i64))) (hφ : ∀ A, Fresh w0.heap.size A → φ A)
    (hK : K (.p (.agg [.v (.slice A1 b.at_.length c1), .v (.slice A2 b.pages.length c2), .row S.length])) (S ++ [.view φ (F b).length ((F b).flatMap opC)])) :
    CallS P w0 Gs.nil fid [.p (.agg [.v (.slice A1 b.at_.length c1), .v (.slice A2 b.pages.length c2), .row i])] S K := by
  refine ⟨hok, fun r w us hR hd => ?_⟩
  obtain ⟨u1, l1, rfl, d1, d2⟩ := hd
  obtain rfl : l1 = [] := d2
  obtain ⟨us, rfl, hl⟩ := den_agg d1
  simp only [denL] at hl
  obtain ⟨u1, l1, rfl, e1, u2, l2, rfl, e2, u3, l3, rfl, e3, rfl⟩ := hl
  simp only [CV.den] at e1 e2 e3
  subst e1; subst e2
  obtain ⟨A, c, rfl, hs, hc1, hc2, hA, hfar⟩ := viewAt hR hi e3
  refine (hp b A1 A2 A c1 c2 c w hb (sl_later h1 hR.toBelow) (sl_later h2 hR.toBelow) hs hc1 hc2).mono fun e w' ⟨A', c', he, ho, k1, k2, k3, hB⟩ => ?_
  refine ⟨.p (.agg [.v (.slice A1 b.at_.length c1), .v (.slice A2 b.pages.length c2), .row S.length]), _, _, r.set S.length none (some (.slice A' (F b).length c')), he, ⟨[.slice A1 b.at_.length c1, .slice A2 b.pages.length c2, .slice A' (F b).length c'], rfl, ?_⟩, hR.snoc (o := .view φ (F b).length ((F b).flatMap opC)) hB (b := none) nofun ⟨A', c', by simp [Env.set], k1, ⟨k2, ?_⟩, by simp [Env.set], fun j u hj => ?_⟩, hR.le_new _ _, hK⟩
  · simp only [denL, CV.den]
    exact ⟨_, _, rfl, rfl, _, _, rfl, rfl, _, _, rfl, by simp [Env.set], rfl⟩
  · rcases k3 with k3 | rfl
    · exact hφ _ fun b off sp hA => Nat.le_trans hR.size (k3 b off sp hA)
    · exact hA
  · obtain ⟨b', off, e4, e5, e6⟩ := ho j u hj
    refine ⟨b', off, e4, e5, fun q hq => ?_, e6⟩
    simp only [Env.set] at hq
    split at hq
    · cases hq
    · rcases k3 with k3 | rfl
      · have := k3 b' off none e4
        have := (hR.new q b' hq).1
        omega
      · cases hl : b.ops with
        | nil => rw [h0 hl] at hj; simp at hj
        | cons o l => exact hfar 0 (.int .i64 o.code) (by rw [hl]; rfl) b' off e4 q hq
theorem call_pass_at {P : Program} {w0 : World} {S : List Ow} {K : AV → List Ow → Prop} {fid : FuncId} {F : Blk → List BOp} (hp : Pass P fid F) (hok : fnOk P fid = true) (i : Nat) (b b0 : Blk) {φ : Option Addr → Prop} {A1 A2 : Option Addr} {c1 c2 : Nat} (hi : S[i]? = some (.view φ b.ops.length (b.ops.flatMap opC))) (hb : b.ok) (hat : b.at_ = b0.at_) (hpg : b.pages = b0.pages) (h0 : b.ops = [] → F b = [])
    (h1 : SlAt w0 w0.heap.size A1 (b0.at_.map (.int .u32))) (h2 : SlAt w0 w0.heap.size A2 (b0.pages.map (.int .i64))) (hφ : ∀ A, Fresh w0.heap.size A → φ A)
    (hK : K (.p (.agg [.v (.slice A1 b0.at_.length c1), .v (.slice A2 b0.pages.length c2), .row S.length])) (S ++ [.view φ (F b).length ((F b).flatMap opC)])) :
    CallS P w0 Gs.nil fid [.p (.agg [.v (.slice A1 b0.at_.length c1), .v (.slice A2 b0.pages.length c2), .row i])] S K := by
  rw [← hat, ← hpg] at *
  exact call_pass hp hok i b hi hb h0 h1 h2 hφ hK
end Go.Proofs.Ytmjfgnnefcimiaa
