/- The iterator of slices.Backward, as its contract. Functions that hold a range over a function: how they begin and end. The iterator of slices.Backward as a call hands it back. Walks: the passes: Fold. make of a slice. Drawn regions in which memory is made: quiet operations are taken first, the others wait for one another. -/
import Derived.OrdersHeld
import Derived.Test.YtmjfgnnefcimiaaK1
import Derived.Test.YtmjfgnnefcimiaaK10
import Derived.Test.YtmjfgnnefcimiaaK11
import Derived.Test.YtmjfgnnefcimiaaK14
import Derived.Test.YtmjfgnnefcimiaaK15
import Derived.Test.YtmjfgnnefcimiaaK16
import Derived.Test.YtmjfgnnefcimiaaK17
import Derived.Test.YtmjfgnnefcimiaaK18
import Derived.Test.YtmjfgnnefcimiaaK19
import Derived.Test.YtmjfgnnefcimiaaK3
import Derived.Test.YtmjfgnnefcimiaaK4
import Derived.Test.YtmjfgnnefcimiaaK5
namespace Go.Proofs.Ytmjfgnnefcimiaa
open Go.RowKit

theorem wpListIn_split {P : Program} {ops : Array Oper} {Q : Exit → Act → World → Prop} {Q1 : Act → World → Prop} (ro : Option Nat) (n : Nat) : ∀ (k : Nat) {l : List Oper} {a : Act} {w : World}, seL P ops Q1 (l.take k) a w → (∀ a w, Q1 a w → wpListIn (fenceR ro) n P ops Q (l.drop k) a w) → wpListIn (fenceR ro) n P ops Q l a w
  | 0, l, a, w, h, h2 => by simpa using h2 a w h
  | k + 1, [], a, w, h, h2 => by simpa using h2 a w h
  | k + 1, o :: l, a, w, h, h2 => by
    simp only [List.take_succ_cons, List.drop_succ_cons] at h h2
    unfold seL at h
    unfold wpListIn
    split at h
    · rename_i hw; rw [if_pos hw]; exact se_wpIn ro n h fun a w h => wpListIn_split ro n k h h2
    · rename_i hw; rw [if_neg hw]; exact ⟨fun f _ => fenceR_fn ro f, wpListIn_split ro n k h h2⟩
/-- Slots that hold what they hold. -/
def Slots (a : Act) : List (Nat × Value) → Prop
  | [] => True
  | (d, v) :: l => a.tmps.getD d undef = v ∧ Slots a l
def slotFr : List (Nat × Value) → Fr
  | [] => []
  | (d, v) :: l => (d, AV.of v) :: slotFr l
theorem slots_den {r : Env} {a : Act} : ∀ {l : List (Nat × Value)}, Slots a l → FDen r (slotFr l) a
  | [], _ => fun k => by simp [slotFr, Fr.get, AV.den, Pc.den, CV.den]
  | (d, v) :: l, h => fun k => by
    simp only [slotFr, Fr.get]
    split
    · rename_i hk; have := Nat.eq_of_beq_eq_true hk; subst this
      rw [h.1]; exact AV.of_den r v
    · exact slots_den h.2 k
theorem good_slots {a : Act} {w : World} {N : Nat} {l : List (Nat × Value)} (h : Slots a l) (hN : a.tmps.size = N) (hd : a.defers = []) : Good w Gs.nil ⟨N, []⟩ (slotFr l) [] a w := ⟨Env.none, rel_none w, slots_den h, hN, hd⟩
theorem slot_of {_w0 : World} {_G : Gs} {r : Env} {f : Fr} {a : Act} (hf : FDen r f a) {d : Nat} {x : Value} (h : (f.get d).val = some x) : a.tmps.getD d undef = x := AV.val_den h (hf d)

/-- An element of the list, with its place. -/
abbrev Elt (l : List BOp) := { x : Nat × BOp // l[x.1]? = some x.2 }
def eltEnc {l : List BOp} (x : Elt l) : Array Value := #[.int .i64 (x.1.1 : Int), opV x.1.2]
/-- The places from i on, the last first. -/
def downTo (n i : Nat) : List Nat := ((List.range n).drop i).reverse
theorem downTo_top (n : Nat) : downTo n n = [] := by unfold downTo; rw [List.drop_eq_nil_of_le (by simp)]; rfl
theorem downTo_step {n i : Nat} (h : i < n) : downTo n i = downTo n (i + 1) ++ [i] := by
  unfold downTo
  rw [List.drop_eq_getElem_cons (by simpa using h)]
  simp
theorem downTo_length (n i : Nat) : (downTo n i).length = n - i := by simp [downTo]
/-- All have come, the last first. -/
def AllDown {l : List BOp} (xs : List (Elt l)) : Prop := xs.map (fun x => x.1.1) = downTo l.length 0
def KpTwo (cb bb : Nat) (W W' : World) : Prop := W'.heap[cb]? = W.heap[cb]? ∧ W'.heap[bb]? = W.heap[bb]?
theorem abides_below {β : Type} {B : Nat} {J : β → World → Prop} (h : AbidesFrom B J) {s : β} {W W' : World} (hs : J s W) (hb : Below W.heap.size W W') : J s W' :=
  h s W W' none hs ⟨hb.os, hb.tape, hb.output, hb.size, fun k hk _ => hb.block k hk⟩ (fun r e => by cases e)
theorem cells_op_blk {w W : World} {bb off k : Nat} {l : List BOp} {o : BOp} (h : OpsAt w w.heap.size (some ⟨bb, off, none⟩) l) (hW : W.heap[bb]? = w.heap[bb]?) (hk : l[k]? = some o) : CellsAt W Gs.nil bb (off + k * 5) (opC o) := by
  have := cells_op (G := Gs.nil) h (by simp) hk
  obtain ⟨h1, h2, h3⟩ := this
  refine ⟨?_, by simp, fun j u hj => ?_⟩
  · rcases Nat.lt_or_ge bb W.heap.size with h4 | h4
    · exact h4
    · rw [Array.getElem?_eq_none h4] at hW
      rw [Array.getElem?_eq_getElem h1] at hW; cases hW
  · have := h3 j u hj
    rw [Int.toNat_natCast] at this
    exact (World.cell?_of_block (w := w) (a := ⟨bb, off + k * 5 + j, none⟩) hW).trans this
/-- A piece of code walked from what some slots hold, in the world as it stands. -/
theorem sat_use {P : Program} {c : Code} {Q : Exit → Act → World → Prop} {a : Act} {w : World} {n : Nat} (N : Nat) (l : List (Nat × Value)) (K : Exit → Fr → Prop) (hs : Slots a l) (hN : a.tmps.size = N) (hd : a.defers = []) (h : vc none P w Gs.nil ⟨N, []⟩ c (slotFr l) [] fun e f _ => K e f)
    (hq : ∀ e f a' w', K e f → FDen Env.none (slotFr []) a' → (∀ d x, (f.get d).val = some x → a'.tmps.getD d undef = x) → Below w.heap.size w w' → a'.tmps.size = N → a'.defers = [] → Q e a' w') : c.wpIn Fence.wide n P Q a w := by
  refine wpIn_mono ((vc_sound (ro := none) c (slotFr l) [] (fun e f _ => K e f) h).out n a w (good_slots hs hN hd)) ?_
  rintro e a' w' ⟨f', S', hk, r, hR, hf, hN', hd'⟩
  exact hq e f' a' w' hk (slots_den (l := []) trivial) (fun d x hx => slot_of (_w0 := w) (_G := Gs.nil) hf hx) hR.toBelow hN' hd'
/-- The same for the first operations of a list. -/
theorem ops_use {P : Program} {ops : Array Oper} {ol : List Oper} {Q : Exit → Act → World → Prop} {a : Act} {w : World} {n : Nat} (N k : Nat) (l : List (Nat × Value)) (K : Fr → Prop) (hs : Slots a l) (hN : a.tmps.size = N) (hd : a.defers = []) (h : opsK P w Gs.nil ⟨N, []⟩ ops (ol.take k).length (ol.take k) (slotFr l) [] fun f _ => K f)
    (hq : ∀ f a' w', K f → (∀ d x, (f.get d).val = some x → a'.tmps.getD d undef = x) → Below w.heap.size w w' → a'.tmps.size = N → a'.defers = [] → wpListIn Fence.wide n P ops Q (ol.drop k) a' w') : wpListIn Fence.wide n P ops Q ol a w := by
  refine wpListIn_split none n k (Q1 := fun a' w' => wpListIn Fence.wide n P ops Q (ol.drop k) a' w') ?_ fun a w h => h
  refine opsK_sound _ _ _ _ _ h (fun f' S' a' w' hk ⟨r, hR, hf, hN', hd'⟩ => ?_) a w (good_slots hs hN hd)
  exact hq f' a' w' hk (fun d x hx => slot_of (_w0 := w) (_G := Gs.nil) hf hx) hR.toBelow hN' hd'
set_option maxRecDepth 100000 in
set_option maxHeartbeats 1000000 in
theorem backward_stops (l : List BOp) (bb off c cb : Nat) (tS : TypeId) (w : World) (h : OpsAt w w.heap.size (some ⟨bb, off, none⟩) l) (hlen : l.length ≤ 1000000)
    (hc : w.heap[cb]? = some (.cells #[.slice (some ⟨bb, off, none⟩) l.length c] tS (0, 0))) (hbb : bb < w.heap.size) (n : Nat) :
    SeqStopsK Fence.wide n Try.prog 75 #[.pointer (some ⟨cb, 0, none⟩)] (eltEnc (l := l)) (KpTwo cb bb) AllDown (fun _ => True) l.length w := by
  intro q J Jx W hB hJ hJx hY h0
  have hcb : cb < w.heap.size := by
    rcases Nat.lt_or_ge cb w.heap.size with h1 | h1
    · exact h1
    · rw [Array.getElem?_eq_none h1] at hc; cases hc
  have hcW : W.heap[cb]? = some (.cells #[.slice (some ⟨bb, off, none⟩) l.length c] tS (0, 0)) := (hB.block cb hcb).trans hc
  have hbW : W.heap[bb]? = w.heap[bb]? := hB.block bb hbb
  have cellAt : ∀ W' : World, W'.heap[cb]? = W.heap[cb]? → CellsAt W' Gs.nil cb 0 [.slice (some ⟨bb, off, none⟩) l.length c] := fun W' hW' => by
    have e := hW'.trans hcW
    refine cells_one ?_ (by simp) (by simp [World.cell?, e])
    rcases Nat.lt_or_ge cb W'.heap.size with h1 | h1
    · exact h1
    · rw [Array.getElem?_eq_none h1] at e; cases e
  refine callsIn_of_wp Try.func75 rfl trivial ?_
  simp only [Try.ntmps75, List.size_toArray, List.length_cons, List.length_nil, Nat.reduceAdd, Nat.reduceSub, Array.replicate_succ, Array.replicate_zero, List.push_toArray, List.append_toArray, List.nil_append, List.cons_append]
  refine wpIn_seq ?_
  refine sat_use 19 [(0, .func (.yield q) #[] #[]), (1, .pointer (some ⟨cb, 0, none⟩))] (fun e f => match e with | .normal => (f.get 0).val = some (.func (.yield q) #[] #[]) ∧ (f.get 1).val = some (.pointer (some ⟨cb, 0, none⟩)) ∧ (f.get 3).val = some (.int .i64 ((l.length : Int) - 1)) | _ => False) ⟨rfl, rfl, trivial⟩ rfl rfl ?_ ?_
  · conv => whnf
    refine ⟨_, cellAt W rfl, ?_⟩
    conv => whnf
    refine ⟨(l.length : Int) - 1, wr64 (by omega), ?_⟩
    conv => whnf
    exact ⟨rfl, rfl, rfl⟩
  · rintro e f a1 w1 hk - hsl hb1 hN1 hd1
    cases e <;> first | exact (hk : False).elim | skip
    have k0 := hsl 0 _ hk.1
    have k1 := hsl 1 _ hk.2.1
    have k3 := hsl 3 _ hk.2.2
    have hcbW : cb < W.heap.size := Nat.lt_of_lt_of_le hcb hB.size
    have hbbW : bb < W.heap.size := Nat.lt_of_lt_of_le hbb hB.size
    refine wpIn_block ?_
    refine wpIn_loop (fun a' w' => ∃ i : Nat, i ≤ l.length ∧ Slots a' [(0, .func (.yield q) #[] #[]), (1, .pointer (some ⟨cb, 0, none⟩)), (3, .int .i64 ((i : Int) - 1))] ∧ a'.tmps.size = 19 ∧ a'.defers = [] ∧ (∃ xs : List (Elt l), xs.map (fun x => x.1.1) = downTo l.length i ∧ J xs w') ∧ w'.heap[cb]? = W.heap[cb]? ∧ w'.heap[bb]? = W.heap[bb]?)
      (fun a' _ => (intOf (a'.tmps.getD 3 undef) + 1).toNat) ?_ ?_
    · exact ⟨l.length, Nat.le_refl _, ⟨k0, k1, k3, trivial⟩, hN1, hd1, ⟨[], by simp [downTo_top], abides_below hJ h0 hb1⟩, hb1.block cb hcbW, hb1.block bb hbbW⟩
    rintro a2 w2 ⟨i, hi, hs2, hN2, hd2, ⟨xs, hxs, hJ2⟩, hc2, hb2⟩
    have hlt2 : cb < w2.heap.size ∧ bb < w2.heap.size := by
      have e := hc2.trans hcW
      have e2 := hb2.trans hbW
      refine ⟨?_, ?_⟩
      · rcases Nat.lt_or_ge cb w2.heap.size with h1 | h1
        · exact h1
        · rw [Array.getElem?_eq_none h1] at e; cases e
      · rcases Nat.lt_or_ge bb w2.heap.size with h1 | h1
        · exact h1
        · rw [Array.getElem?_eq_none h1, Array.getElem?_eq_getElem hbb] at e2; cases e2
    refine wpIn_seq ?_
    refine sat_use 19 [(0, .func (.yield q) #[] #[]), (1, .pointer (some ⟨cb, 0, none⟩)), (3, .int .i64 ((i : Int) - 1))] (fun e f => match e with | .normal => 1 ≤ i ∧ (f.get 0).val = some (.func (.yield q) #[] #[]) ∧ (f.get 1).val = some (.pointer (some ⟨cb, 0, none⟩)) ∧ (f.get 3).val = some (.int .i64 ((i : Int) - 1)) | .exit 0 => i = 0 | _ => False) hs2 hN2 hd2 ?_ ?_
    · conv => whnf
      refine ⟨fun h => ?_, fun h => ?_⟩
      · have h' : (i : Int) - 1 ≥ 0 := of_decide_eq_true h
        exact ⟨by omega, rfl, rfl, rfl⟩
      · have h' : ¬ (i : Int) - 1 ≥ 0 := of_decide_eq_false h
        show i = 0
        omega
    rintro e f a3 w3 hk3 - hsl3 hb3 hN3 hd3
    have hJ3 := abides_below hJ hJ2 hb3
    cases e <;> first | exact (hk3 : False).elim | skip
    · obtain ⟨hi1, e0, e1, e3⟩ := hk3
      obtain ⟨j, rfl⟩ : ∃ j, i = j + 1 := ⟨i - 1, by omega⟩
      have hjl : j < l.length := by omega
      obtain ⟨o, ho⟩ : ∃ o, l[j]? = some o := ⟨_, List.getElem?_eq_getElem hjl⟩
      have s3 := hsl3 3 _ e3
      rw [show (((j + 1 : Nat) : Int) - 1) = (j : Int) by omega] at s3
      have hc3 : w3.heap[cb]? = W.heap[cb]? := (hb3.block cb hlt2.1).trans hc2
      have hb3' : w3.heap[bb]? = w.heap[bb]? := (hb3.block bb hlt2.2).trans (hb2.trans hbW)
      refine wpIn_seq ?_
      refine wpIn_block ?_
      refine wpIn_seq ?_
      refine wpIn_region_lit ?_
      refine ops_use 19 6 [(0, .func (.yield q) #[] #[]), (1, .pointer (some ⟨cb, 0, none⟩)), (3, .int .i64 (j : Int))] (fun f => (f.get 11).val = some (.func (.yield q) #[] #[]) ∧ (f.get 12).val = some (.int .i64 (j : Int)) ∧ (f.get 16).val = some (opV o) ∧ (f.get 0).val = some (.func (.yield q) #[] #[]) ∧ (f.get 1).val = some (.pointer (some ⟨cb, 0, none⟩)) ∧ (f.get 3).val = some (.int .i64 (j : Int))) ⟨hsl3 0 _ e0, hsl3 1 _ e1, s3, trivial⟩ hN3 hd3 ?_ ?_
      · conv => whnf
        refine ⟨_, cellAt w3 hc3, ?_⟩
        conv => whnf
        refine ⟨⟨by omega, by omega⟩, ?_⟩
        conv => whnf
        refine ⟨opC o, cells_op_blk h hb3' ho, rfl, ?_⟩
        conv => whnf
        exact ⟨rfl, rfl, rfl, rfl, rfl, rfl⟩
      rintro f4 a4 w4 ⟨g11, g12, g16, g0, g1, g3⟩ hsl4 hb4 hN4 hd4
      have hJ4 := abides_below hJ hJ3 hb4
      obtain ⟨fn, tm, as_, bd, hy, hround⟩ := hY xs ⟨(j, o), ho⟩ w4 hJ4 (by
        have := congrArg List.length hxs
        simp [downTo_length] at this
        omega)
      simp only [List.drop_succ_cons, List.drop_zero]
      have ev11 : a4.eval (.tmp 11) = .func (.yield q) #[] #[] := hsl4 11 _ g11
      have ev12 : a4.eval (.tmp 12) = .int .i64 (j : Int) := hsl4 12 _ g12
      have ev16 : a4.eval (.tmp 16) = opV o := hsl4 16 _ g16
      unfold wpListIn
      rw [if_pos (by rfl)]
      refine ⟨fun _ _ => trivial, ?_⟩
      have hex : ∀ oo : Oper, oo.op = .call ⟨.value (.tmp 11), #[.tmp 12, .tmp 16], #[3, 53]⟩ → ((oo.semAt none a4.eval).run Try.prog w4) = .ok (.round q fn tm as_ bd) w4 := fun oo hop => by
        rw [Oper.semAt_none]
        simp only [execOp, hop, resolve, Sem.run_bind, List.map_toArray, List.map_cons, List.map_nil, ev11, ev12, ev16, Deferred.ofValue, Sem.run_pure, Result.andThen_ok, invoke]
        exact hy
      rw [show Fence.wide.round = none from rfl, hex _ rfl]
      refine ⟨(fun h => by cases h), hround.mono ?_⟩
      have t0 := hsl4 0 _ g0
      have t1 := hsl4 1 _ g1
      have t3 := hsl4 3 _ g3
      have hput : ∀ (b : Bool), Slots (a4.put (some 17) (.bool b)) [(0, .func (.yield q) #[] #[]), (1, .pointer (some ⟨cb, 0, none⟩)), (3, .int .i64 (j : Int)), (17, .bool b)] := fun b => by
        have e : ∀ d, d ≠ 17 → (a4.put (some 17) (.bool b)).tmps.getD d undef = a4.tmps.getD d undef := fun d hd => by
          simp only [Act.put]; rw [Array.getD_eq_getD_getElem?, Array.getElem?_setIfInBounds, if_neg (Ne.symm hd), ← Array.getD_eq_getD_getElem?]
        refine ⟨(e 0 (by decide)).trans t0, (e 1 (by decide)).trans t1, (e 3 (by decide)).trans t3, ?_, trivial⟩
        simp only [Act.put]; rw [Array.getD_eq_getD_getElem?, Array.getElem?_setIfInBounds]; simp [hN4]
      rintro en w5 (⟨rfl, hJ5, hK5⟩ | ⟨rfl, hJx5⟩)
      · refine ops_use 19 1 _ (fun f => (f.get 18).val = some (.bool false) ∧ (f.get 0).val = some (.func (.yield q) #[] #[]) ∧ (f.get 1).val = some (.pointer (some ⟨cb, 0, none⟩)) ∧ (f.get 3).val = some (.int .i64 (j : Int))) (hput true) ((put_size a4 _ _).trans hN4) ((put_defers a4 _ _).trans hd4) ?_ ?_
        · conv => whnf
          exact ⟨rfl, rfl, rfl, rfl⟩
        rintro f6 a6 w6 ⟨q18, q0, q1, q3⟩ hsl6 hb6 hN6 hd6
        simp only [List.drop_succ_cons, List.drop_zero]
        unfold wpListIn
        refine wpIn_cond_split (t := false) (hsl6 18 _ q18) (fun h => by cases h) (fun _ => wpIn_skip ?_)
        refine sat_use 19 [(0, .func (.yield q) #[] #[]), (1, .pointer (some ⟨cb, 0, none⟩)), (3, .int .i64 (j : Int))] (fun e f => match e with | .normal => (f.get 0).val = some (.func (.yield q) #[] #[]) ∧ (f.get 1).val = some (.pointer (some ⟨cb, 0, none⟩)) ∧ (f.get 3).val = some (.int .i64 ((j : Int) - 1)) | _ => False) ⟨hsl6 0 _ q0, hsl6 1 _ q1, hsl6 3 _ q3, trivial⟩ hN6 hd6 ?_ ?_
        · conv => whnf
          refine ⟨(j : Int) - 1, wr64 (by omega), ?_⟩
          conv => whnf
          exact ⟨rfl, rfl, rfl⟩
        rintro e7 f7 a7 w7 hk7 - hsl7 hb7 hN7 hd7
        cases e7 <;> first | exact (hk7 : False).elim | skip
        have hlt4 : cb < w4.heap.size ∧ bb < w4.heap.size := ⟨Nat.lt_of_lt_of_le hlt2.1 (Nat.le_trans hb3.size hb4.size), Nat.lt_of_lt_of_le hlt2.2 (Nat.le_trans hb3.size hb4.size)⟩
        have hsz5 : ∀ k : Nat, k < w4.heap.size → w5.heap[k]? = w4.heap[k]? → k < w5.heap.size := fun k hk he => by
          rcases Nat.lt_or_ge k w5.heap.size with h1 | h1
          · exact h1
          · rw [Array.getElem?_eq_none h1, Array.getElem?_eq_getElem hk] at he; cases he
        have hc5 := hsz5 cb hlt4.1 hK5.1
        have hb5 := hsz5 bb hlt4.2 hK5.2
        refine ⟨⟨j, by omega, ⟨hsl7 0 _ hk7.1, hsl7 1 _ hk7.2.1, hsl7 3 _ hk7.2.2, trivial⟩, hN7, hd7, ⟨xs ++ [⟨(j, o), ho⟩], by rw [List.map_append, hxs, downTo_step hjl]; rfl, abides_below hJ (abides_below hJ hJ5 hb6) hb7⟩, ?_, ?_⟩, ?_⟩
        · exact (hb7.block cb (Nat.lt_of_lt_of_le hc5 hb6.size)).trans ((hb6.block cb hc5).trans (hK5.1.trans ((hb4.block cb (Nat.lt_of_lt_of_le hlt2.1 hb3.size)).trans hc3)))
        · exact (hb7.block bb (Nat.lt_of_lt_of_le hb5 hb6.size)).trans ((hb6.block bb hb5).trans (hK5.2.trans ((hb4.block bb (Nat.lt_of_lt_of_le hlt2.2 hb3.size)).trans ((hb3.block bb hlt2.2).trans hb2))))
        · have u1 := hsl7 3 _ hk7.2.2
          have u2 := hs2.2.2.1
          simp only [u1, u2, intOf]
          omega
      · refine ops_use 19 1 _ (fun f => (f.get 18).val = some (.bool true)) (hput false) ((put_size a4 _ _).trans hN4) ((put_defers a4 _ _).trans hd4) ?_ ?_
        · conv => whnf
          rfl
        rintro f6 a6 w6 q18 hsl6 hb6 hN6 hd6
        simp only [List.drop_succ_cons, List.drop_zero]
        unfold wpListIn
        refine wpIn_cond_split (t := true) (hsl6 18 _ q18) (fun _ => wpIn_ret ?_) (fun h => by cases h)
        exact ⟨hd6, _, results_none rfl _ _ _, ⟨_, rfl⟩, .inr ⟨_, trivial, abides_below hJx hJx5 hb6⟩⟩
    · rename_i id
      match id, hk3 with
      | 0, hk3 =>
        have hi0 : i = 0 := hk3
        subst hi0
        exact ⟨hd3, _, results_none rfl _ _ _, ⟨_, rfl⟩, .inl ⟨xs, hxs, hJ3⟩⟩
end Go.Proofs.Ytmjfgnnefcimiaa
namespace Go.Proofs.Ytmjfgnnefcimiaa
open Go.RowKit

section
variable {P : Program} {w0 : World} {G : Gs} {N : Nat} {c d : Code} {f : Fr} {S : List Ow} {Q : Exit → Act → World → Prop} {fn : Func} {R : Ending → World → Prop}
theorem atq_then {N : Nd} {id : Nat} (h : SatQ P w0 G N d f S Q) : AtQ w0 G N .normal f S (Exit.inBlock id (Exit.then (d.wpIn Fence.wide 10 P Q) Q)) := ⟨fun a w hg => h.out a w hg⟩
theorem atq_ret (h : resK P w0 G S f fn.results.toList fun v => Fin w0 G S v R) : AtQ w0 G ⟨N, []⟩ .ret f S (bodyPostM Fence.wide 10 P fn R) := by
  refine ⟨fun a w ⟨r, hR, hf, hN, hd⟩ => ?_⟩
  obtain ⟨v, u, hK, hdn, hrun⟩ := resK_sound h hR hf
  show LeavesInM _ _ _ _ _ _ a.defers _ _
  rw [show a.defers = [] from hd]
  exact ⟨u, hrun, hK.out r w u hR hdn⟩
/-- Behind a loop over a function: the mark is struck at the end. -/
theorem atq_ret_mark {D : Nat} (i : Nat) (hi : S[i]? = some (objOw D (.deferred (some [])))) (h : resK P w0 G (S.set i .gone) f fn.results.toList fun v => Fin w0 G (S.set i .gone) v R) : AtQ w0 G ⟨N, [{ target := .collected D, args := #[] }]⟩ .ret f S (bodyPostM Fence.wide 10 P fn R) := by
  refine ⟨fun a w ⟨r, hR, hf, hN, hd⟩ => ?_⟩
  obtain ⟨b, hb, ⟨rfl, hD⟩, _⟩ := hR.own i _ hi
  have hR2 : Rel w0 G (S.set i .gone) r (w.putObj b (.deferred none)) := hR.setBlock hb (grownBy_putObj' w b _) (by trivial) (hR.lt_of_blk hb)
  obtain ⟨v, u, hK, hdn, hrun⟩ := resK_sound h hR2 hf
  show LeavesInM _ _ _ _ _ _ a.defers _ _
  rw [show a.defers = [{ target := .collected b, args := #[] }] from hd]
  exact ⟨by simp, .inl ⟨b, _, rfl, run_takeDeferred hD, u, hrun, hK.out r _ u hR2 hdn⟩⟩
theorem calls_satq {fid : FuncId} (xs : List Value) (hf : P.funcs[fid]? = some fn) (hN : fn.ntmps = N) (hb : fn.body = some c) (hle : xs.length ≤ N) {w : World} {R : Ending → World → Prop}
    (h : SatQ P w Gs.nil ⟨N, []⟩ c (argFr (xs.map fun x => AV.of x) 0) [] (bodyPostM Fence.wide 10 P fn R)) : Calls P fid xs.toArray w R := by
  refine callsIn_wide.1 (callsIn_of_wp_marks (n := 10) hf hb trivial (h.out _ w ⟨Env.none, rel_none w, fun i => ?_, by simp; omega, rfl⟩))
  refine argFr_get (r := Env.none) (xs.map fun x => AV.of x) xs 0 (avdenL_of xs) (fun j u hj => ?_) i
  rw [Nat.zero_add, Array.getD_eq_getD_getElem?, Array.getElem?_append_left (by simp; rcases Nat.lt_or_ge j xs.length with h1 | h1; exact h1; rw [List.getElem?_eq_none h1] at hj; cases hj)]
  simp [hj]
end
set_option maxRecDepth 100000 in
theorem backward_box (A : Option Addr) (n c : Nat) (w : World) : Calls Try.prog 47 #[.slice A n c] w fun e w' => ∃ b, e = .returned (.func (.func 75) #[] #[.pointer (some ⟨b, 0, none⟩)]) ∧ w.heap.size ≤ b ∧ w'.heap[b]? = some (.cells #[.slice A n c] 30 (0, 0)) ∧ Below w.heap.size w w' := by
  refine calls_val [.slice A n c] Try.func47 Try.ntmps47 rfl (by simp) ?_
  conv => whnf
  refine ⟨fun r w' u hR hd => ?_⟩
  simp only [AV.den, Pc.den, CV.den, denL] at hd
  obtain ⟨us, rfl, u, l, rfl, ⟨b, hb, rfl⟩, rfl⟩ := hd
  obtain ⟨b', us, h1, h2, h3⟩ := hR.own 0 _ rfl
  rw [hb] at h1; injection h1 with h1; subst h1
  obtain rfl := denL_vals_inv (us := [.slice A n c]) h3
  refine ⟨b, rfl, ?_, h2, hR.toBelow⟩
  rcases Nat.lt_or_ge b w.heap.size with h | h
  · exact absurd ((hR.new 0 b hb).2 h) (by simp)
  · exact h
theorem call_backward {w0 : World} {G : Gs} {S : List Ow} {K : AV → List Ow → Prop} {A : Option Addr} {n c : Nat} (hK : K (.p (.c (.clo (.func 75) [.ref S.length 0]))) (S ++ [.cells 30 [.v (.slice A n c)]])) :
    CallS Try.prog w0 G 47 [.p (.c (.v (.slice A n c)))] S K := by
  refine ⟨by kernel_rfl, fun r w us hR hd => ?_⟩
  obtain ⟨u1, l1, rfl, d1, d2⟩ := hd
  obtain rfl : l1 = [] := d2
  obtain rfl := den_v d1
  refine (backward_box A n c w).mono fun e w' ⟨b, he, hb, hh, hB⟩ => ⟨_, _, _, r.set S.length (some b) none, he, ?_, hR.snoc (o := .cells 30 [.v (.slice A n c)]) hB (fun x hx => by injection hx with hx; subst hx; exact ⟨hb, (Array.getElem?_eq_some_iff.1 hh).1⟩) ⟨b, [.slice A n c], by simp [Env.set], hh, denL_vals [.slice A n c]⟩, hR.le_new _ _, hK⟩
  simp only [AV.den, Pc.den, CV.den, denL]
  exact ⟨_, rfl, _, _, rfl, ⟨b, by simp [Env.set], rfl⟩, rfl⟩
end Go.Proofs.Ytmjfgnnefcimiaa
namespace Go.Proofs.Ytmjfgnnefcimiaa
open Go.RowKit

theorem valid_pos {b : Blk} (h : validB b = true) : 0 < b.ops.length ∧ b.ops.length ≤ 2000 := by
  unfold validB headerB at h
  simp only [Bool.and_eq_true, decide_eq_true_eq] at h
  omega
theorem sl_later {w w' : World} {A : Option Addr} {xs : List Value} (h : SlAt w w.heap.size A xs) (hB : Below w.heap.size w w') : SlAt w' w'.heap.size A xs := (h.below hB (Nat.le_refl _)).more hB.size
structure FoldSt (n : Nat) (ops : List BOp) where
  k : Nat
  f : Int → Option Int
  out : List BOp
  hk : k ≤ n
  hw : wordsF f
  hl : out.length ≤ k
  eq : foldRun noneF ops = out ++ foldRun f (ops.drop k)
theorem foldUpd_put {f : Int → Option Int} {p : BOp} (hc : (p.code == 1) = true) (hd : 0 ≤ writes p) (j : Int) : mput (mdel f (writes p)) (writes p) p.n j = foldUpd f p j := by unfold foldUpd; rw [if_pos hc, if_pos hd]
theorem foldUpd_put2 {f : Int → Option Int} {p : BOp} (hc : (p.code == 1) = true) (hd : ¬ 0 ≤ writes p) (j : Int) : mput f (writes p) p.n j = foldUpd f p j := by unfold foldUpd; rw [if_pos hc, if_neg hd]
theorem foldUpd_del {f : Int → Option Int} {p : BOp} (hc : (p.code == 1) = false) (hd : 0 ≤ writes p) (j : Int) : mdel f (writes p) j = foldUpd f p j := by unfold foldUpd; rw [hc, if_neg (by simp), if_pos hd]
theorem foldUpd_not {f : Int → Option Int} {p : BOp} (hc : (p.code == 1) = false) (hd : ¬ 0 ≤ writes p) (j : Int) : f j = foldUpd f p j := by unfold foldUpd; rw [hc, if_neg (by simp), if_neg hd]
theorem call_with {w0 : World} {G : Gs} {S : List Ow} {K : AV → List Ow → Prop} {A1 A2 A3 : Option Addr} {n1 n2 n3 c1 c2 c3 : Nat} (i : Nat) {e : TypeId} {size n : Nat} {xs : List Value} (hi : S[i]? = some (.row e size n xs))
    (hK : K (.p (.agg [.v (.slice A1 n1 c1), .v (.slice A2 n2 c2), .row i])) S) : CallS Try.prog w0 G 41 [.p (.agg [.v (.slice A1 n1 c1), .v (.slice A2 n2 c2), .v (.slice A3 n3 c3)]), .p (.c (.row i))] S K := by
  refine ⟨by kernel_rfl, fun r w us hR hd => ?_⟩
  obtain ⟨u1, l1, rfl, d1, u2, l2, rfl, d2, d3⟩ := hd
  obtain rfl : l2 = [] := d3
  obtain rfl := AV.val_den (x := .agg #[.slice A1 n1 c1, .slice A2 n2 c2, .slice A3 n3 c3]) rfl d1
  have d2' := den_row d2
  obtain ⟨A, c, hu, _⟩ := hR.rowAt hi d2'
  subst hu
  refine (with_opt A1 A2 A3 A n1 n2 n3 n c1 c2 c3 c w).mono fun e w' ⟨h1, h2⟩ => ⟨.p (.agg [.v (.slice A1 n1 c1), .v (.slice A2 n2 c2), .row i]), _, S, r, h1, ⟨_, rfl, ?_⟩, hR.below h2, Env.le.refl r, hK⟩
  simp only [denL, CV.den]
  exact ⟨_, _, rfl, rfl, _, _, rfl, rfl, _, _, rfl, d2', rfl⟩
set_option maxRecDepth 100000 in
theorem fold_pass : Pass Try.prog 17 foldAll := by
  intro b A1 A2 A3 c1 c2 c3 w hb h1 h2 h3 hc3 hm3
  cases hv : validB b
  · have hF : foldAll b = b.ops := by unfold foldAll; rw [hv]; rfl
    refine calls_val [.agg #[.slice A1 b.at_.length c1, .slice A2 b.pages.length c2, .slice A3 b.ops.length c3]] Try.func17 Try.ntmps17 rfl (by simp) ?_
    conv => whnf
    refine call_con rfl (by kernel_rfl) (fun r w' hR => valid_ir A1 A2 A3 c1 c2 c3 b w' hb (sl_later h2 hR.toBelow) (sl_later h3 hR.toBelow)) ?_
    conv => whnf
    refine ⟨fun h => ?_, (fun h => by rw [hv] at h; cases h)⟩
    conv => whnf
    refine fin_val rfl fun w' hB => ⟨A3, c3, by rw [hF], by rw [hF]; exact sl_later h3 hB, by rw [hF]; exact hc3, hm3, .inr rfl, hB⟩
  · have hF : foldAll b = foldRun noneF b.ops := by unfold foldAll; rw [hv]; rfl
    obtain ⟨hpos, hmax⟩ := valid_pos hv
    obtain ⟨bb, off, rfl⟩ := ops_addr h3 hpos
    refine calls_val [.agg #[.slice A1 b.at_.length c1, .slice A2 b.pages.length c2, .slice (some ⟨bb, off, none⟩) b.ops.length c3]] Try.func17 Try.ntmps17 rfl (by simp) ?_
    conv => whnf
    refine call_con rfl (by kernel_rfl) (fun r w' hR => valid_ir A1 A2 _ c1 c2 c3 b w' hb (sl_later h2 hR.toBelow) (sl_later h3 hR.toBelow)) ?_
    conv => whnf
    refine ⟨(fun h => by rw [hv] at h; cases h), fun h => ?_⟩
    conv => whnf
    refine op_makeMap (R := u32R) (cd := u32D) rfl rfl ?_
    conv => whnf
    refine ⟨FoldSt b.ops.length b.ops, fun x => [(1, .p (.c (.ref 0 0))), (2, .p (.c (.ref 1 0))), (3, .p (.c (.ref 3 0))), (4, .p (.c (.row 4))), (18, one (.slice (some ⟨bb, off, none⟩) b.ops.length c3)), (19, one (.int .i64 b.ops.length)), (20, one (.int .i64 x.k))],
      fun x => [.cells 32 [.v (.slice A1 b.at_.length c1), .v (.slice A2 b.pages.length c2), .v (.slice (some ⟨bb, off, none⟩) b.ops.length c3)], .cells 32 [.v (.slice none 0 0), .v (.slice none 0 0), .v (.slice none 0 0)], mapOw u32R u32D x.k x.f, .cells 58 [.mp 2], .row 53 5 x.out.length (x.out.flatMap opC)],
      fun x => b.ops.length - x.k, ⟨⟨0, noneF, [], Nat.zero_le _, wordsF_none, Nat.le_refl _, by simp⟩, ?_⟩, fun x => ?_⟩
    · exact ent_trans (ent_row 4 53 5 rfl) (ent_same rfl (aI rfl (aI rfl (aI rfl (aI rfl (aI rfl (aI rfl (aI rfl trivial))))))) (aI ((aI rfl (Or.inl rfl))) (aI ((aI rfl (Or.inl rfl))) (aI ((fun _ _ h => h)) (aI ((aI rfl (Or.inl rfl))) (aI ((aI rfl (aI rfl (aI rfl rfl)))) trivial))))))
    have hk := x.hk
    have hl := x.hl
    have heq := x.eq
    conv => whnf
    refine ⟨fun hc => ?_, fun hc => ?_⟩
    · have hlt : x.k < b.ops.length := by simpa using hc
      obtain ⟨o, hx⟩ : ∃ o, b.ops[x.k]? = some o := ⟨_, List.getElem?_eq_getElem hlt⟩
      have ho : o.ok := hb.ops o (List.mem_of_getElem? hx)
      have hat := foldRun_at (f := x.f) hx
      conv => whnf
      refine ⟨⟨by omega, by omega⟩, ?_⟩
      conv => whnf
      refine ⟨opC o, cells_op h3 (by simp) hx, rfl, ?_⟩
      conv => whnf
      obtain ⟨g, hg⟩ : ∃ g, g = foldMark x.f o := ⟨_, rfl⟩
      have hgw : wordsF g := by rw [hg]; exact foldMark_words x.hw
      have hp : (foldB g o).1.ok := foldB_ok hgw ho
      rw [← hg] at hat
      obtain ⟨p, hpe⟩ : ∃ p, p = (foldB g o).1 := ⟨_, rfl⟩
      obtain ⟨kp, hkp⟩ : ∃ kp, kp = (foldB g o).2 := ⟨_, rfl⟩
      rw [← hpe, ← hkp] at hat
      rw [← hpe] at hp
      refine ⟨fun hm => ?_, fun hm => ?_⟩
      · conv => whnf
        refine call_map (m' := g) 2 rfl (by kernel_rfl) (fun w' b' hmap => (forget_u32 w' hmap).mono fun e w2 ⟨e1, e2, e3⟩ => ⟨e1, e2.is (fun j => by rw [hg]; unfold foldMark; rw [if_pos hm]), e3⟩) ?_
        conv => whnf
        refine callS_val (.tuple #[opV p, .bool kp]) (by kernel_rfl) (fun r w' us hR hd => ?_) ?_
        · obtain ⟨u1, l1, rfl, d1, u2, l2, rfl, d2, d3⟩ := hd
          obtain rfl : l2 = [] := d3
          obtain ⟨gb, hgb, rfl⟩ := den_ref d1
          obtain rfl := AV.val_den (x := opV o) rfl d2
          obtain ⟨b1, v1, e1, e2, e3⟩ := hR.cell (i := 3) (off := 0) rfl rfl
          rw [hgb] at e1; injection e1 with e1; subst e1
          simp only [CV.den] at e3
          obtain ⟨b2, e4, rfl⟩ := e3
          obtain ⟨b3, e5, hmap, _⟩ := hR.own 2 _ rfl
          rw [e4] at e5; injection e5 with e5; subst e5
          rw [hpe, hkp]
          exact fold_opt gb b2 x.k g o w' e2 (hR.new 3 gb hgb).1 hmap ho hgw
        conv => whnf
        refine ⟨fun hn => ?_, fun hn => ?_⟩
        · conv => whnf
          have hkf : kp = false := by simpa using hn
          refine ⟨(x.k : Int) + 1, wr64 (by omega), ?_⟩
          conv => whnf
          refine ⟨⟨x.k + 1, g, x.out, by omega, hgw, by omega, by rw [heq, hat, hkf]; rfl⟩, ent_drop (aI rfl (aI rfl (aI rfl (aI rfl (aI rfl (aI rfl (aI (num_succ x.k) trivial))))))) (aI ((aI rfl (Or.inl rfl))) (aI ((aI rfl (Or.inl rfl))) (aI (imap_le (Nat.le_succ _) (fun _ => rfl)) (aI ((aI rfl (Or.inl rfl))) (aI ((aI rfl (aI rfl (aI rfl rfl)))) trivial))))) rfl rfl, by dsimp only; omega⟩
        have hkt : kp = true := by simpa using hn
        conv => whnf
        refine appK_sound rfl ?_ rfl
        conv => whnf
        refine ⟨by omega, ?_⟩
        conv => whnf
        refine call_con rfl (by kernel_rfl) (fun r w' _ => writes_ir p w') ?_
        conv => whnf
        refine ⟨fun hd => ?_, fun hd => ?_⟩
        · have hd' : 0 ≤ writes p := by simpa using hd
          conv => whnf
          refine op_delete rfl Try.underlying56 2 (writes p) rfl rfl rfl (wf_mid (writes_mid hp)) rfl ?_
          conv => whnf
          refine ⟨fun h1 => ?_, fun h1 => ?_⟩
          · conv => whnf
            refine sat_tail 7 mixed (by kernel_rfl) ?_
            conv => whnf
            refine op_mapUpdate rfl Try.underlying56 u32Elems 2 (writes p) p.n rfl rfl rfl rfl (by omega) (wf_mid (writes_mid hp)) hp.n rfl ?_
            conv => whnf
            refine ⟨fun h2 => ?_, fun h2 => ?_⟩
            · conv => whnf
              refine ⟨_, _, ent_refl, ?_⟩
              conv => whnf
              refine call_with 4 rfl ?_
              conv => whnf
              refine fin_block (l := x.out ++ [p]) rfl (by simp) (by simp [opC]) fun w' A c e1 e2 e3 e4 e5 => ?_
              have he : foldAll b = x.out ++ [p] := by rw [hF, heq, hat, hkt, if_pos rfl, if_pos h2]
              exact ⟨A, c, by rw [he], by rw [he]; exact e1, by rw [he]; exact e2, e3, .inl e4, e5⟩
            · conv => whnf
              refine ⟨(x.k : Int) + 1, wr64 (by omega), ?_⟩
              conv => whnf
              refine ⟨⟨x.k + 1, foldUpd g p, x.out ++ [p], by omega, foldUpd_words hgw hp, by simp; omega, by rw [heq, hat, hkt, if_pos rfl, if_neg (Bool.eq_false_iff.1 h2)]; simp⟩, ent_drop (aI rfl (aI rfl (aI rfl (aI rfl (aI rfl (aI rfl (aI (num_succ x.k) trivial))))))) (aI ((aI rfl (Or.inl rfl))) (aI ((aI rfl (Or.inl rfl))) (aI (imap_le (by simp) (foldUpd_put h1 hd')) (aI ((aI rfl (Or.inl rfl))) (aI ((aI rfl (aI rfl (aI (by simp) (by simp [opC]))))) trivial))))) rfl rfl, by dsimp only; omega⟩
          · conv => whnf
            refine ⟨fun h2 => ?_, fun h2 => ?_⟩
            · conv => whnf
              refine ⟨_, _, ent_refl, ?_⟩
              conv => whnf
              refine call_with 4 rfl ?_
              conv => whnf
              refine fin_block (l := x.out ++ [p]) rfl (by simp) (by simp [opC]) fun w' A c e1 e2 e3 e4 e5 => ?_
              have he : foldAll b = x.out ++ [p] := by rw [hF, heq, hat, hkt, if_pos rfl, if_pos h2]
              exact ⟨A, c, by rw [he], by rw [he]; exact e1, by rw [he]; exact e2, e3, .inl e4, e5⟩
            · conv => whnf
              refine ⟨(x.k : Int) + 1, wr64 (by omega), ?_⟩
              conv => whnf
              refine ⟨⟨x.k + 1, foldUpd g p, x.out ++ [p], by omega, foldUpd_words hgw hp, by simp; omega, by rw [heq, hat, hkt, if_pos rfl, if_neg (Bool.eq_false_iff.1 h2)]; simp⟩, ent_drop (aI rfl (aI rfl (aI rfl (aI rfl (aI rfl (aI rfl (aI (num_succ x.k) trivial))))))) (aI ((aI rfl (Or.inl rfl))) (aI ((aI rfl (Or.inl rfl))) (aI (imap_le (by simp) (foldUpd_del h1 hd')) (aI ((aI rfl (Or.inl rfl))) (aI ((aI rfl (aI rfl (aI (by simp) (by simp [opC]))))) trivial))))) rfl rfl, by dsimp only; omega⟩
        · have hd' : ¬ 0 ≤ writes p := by simpa using hd
          conv => whnf
          refine ⟨fun h1 => ?_, fun h1 => ?_⟩
          · conv => whnf
            refine sat_tail 7 mixed (by kernel_rfl) ?_
            conv => whnf
            refine op_mapUpdate rfl Try.underlying56 u32Elems 2 (writes p) p.n rfl rfl rfl rfl (by omega) (wf_mid (writes_mid hp)) hp.n rfl ?_
            conv => whnf
            refine ⟨fun h2 => ?_, fun h2 => ?_⟩
            · conv => whnf
              refine ⟨_, _, ent_refl, ?_⟩
              conv => whnf
              refine call_with 4 rfl ?_
              conv => whnf
              refine fin_block (l := x.out ++ [p]) rfl (by simp) (by simp [opC]) fun w' A c e1 e2 e3 e4 e5 => ?_
              have he : foldAll b = x.out ++ [p] := by rw [hF, heq, hat, hkt, if_pos rfl, if_pos h2]
              exact ⟨A, c, by rw [he], by rw [he]; exact e1, by rw [he]; exact e2, e3, .inl e4, e5⟩
            · conv => whnf
              refine ⟨(x.k : Int) + 1, wr64 (by omega), ?_⟩
              conv => whnf
              refine ⟨⟨x.k + 1, foldUpd g p, x.out ++ [p], by omega, foldUpd_words hgw hp, by simp; omega, by rw [heq, hat, hkt, if_pos rfl, if_neg (Bool.eq_false_iff.1 h2)]; simp⟩, ent_drop (aI rfl (aI rfl (aI rfl (aI rfl (aI rfl (aI rfl (aI (num_succ x.k) trivial))))))) (aI ((aI rfl (Or.inl rfl))) (aI ((aI rfl (Or.inl rfl))) (aI (imap_le (by simp) (foldUpd_put2 h1 hd')) (aI ((aI rfl (Or.inl rfl))) (aI ((aI rfl (aI rfl (aI (by simp) (by simp [opC]))))) trivial))))) rfl rfl, by dsimp only; omega⟩
          · conv => whnf
            refine ⟨fun h2 => ?_, fun h2 => ?_⟩
            · conv => whnf
              refine ⟨_, _, ent_refl, ?_⟩
              conv => whnf
              refine call_with 4 rfl ?_
              conv => whnf
              refine fin_block (l := x.out ++ [p]) rfl (by simp) (by simp [opC]) fun w' A c e1 e2 e3 e4 e5 => ?_
              have he : foldAll b = x.out ++ [p] := by rw [hF, heq, hat, hkt, if_pos rfl, if_pos h2]
              exact ⟨A, c, by rw [he], by rw [he]; exact e1, by rw [he]; exact e2, e3, .inl e4, e5⟩
            · conv => whnf
              refine ⟨(x.k : Int) + 1, wr64 (by omega), ?_⟩
              conv => whnf
              refine ⟨⟨x.k + 1, foldUpd g p, x.out ++ [p], by omega, foldUpd_words hgw hp, by simp; omega, by rw [heq, hat, hkt, if_pos rfl, if_neg (Bool.eq_false_iff.1 h2)]; simp⟩, ent_drop (aI rfl (aI rfl (aI rfl (aI rfl (aI rfl (aI rfl (aI (num_succ x.k) trivial))))))) (aI ((aI rfl (Or.inl rfl))) (aI ((aI rfl (Or.inl rfl))) (aI (imap_le (by simp) (foldUpd_not h1 hd')) (aI ((aI rfl (Or.inl rfl))) (aI ((aI rfl (aI rfl (aI (by simp) (by simp [opC]))))) trivial))))) rfl rfl, by dsimp only; omega⟩
      · rw [show x.f = g by rw [hg]; unfold foldMark; rw [if_neg (Bool.eq_false_iff.1 hm)]]
        conv => whnf
        refine callS_val (.tuple #[opV p, .bool kp]) (by kernel_rfl) (fun r w' us hR hd => ?_) ?_
        · obtain ⟨u1, l1, rfl, d1, u2, l2, rfl, d2, d3⟩ := hd
          obtain rfl : l2 = [] := d3
          obtain ⟨gb, hgb, rfl⟩ := den_ref d1
          obtain rfl := AV.val_den (x := opV o) rfl d2
          obtain ⟨b1, v1, e1, e2, e3⟩ := hR.cell (i := 3) (off := 0) rfl rfl
          rw [hgb] at e1; injection e1 with e1; subst e1
          simp only [CV.den] at e3
          obtain ⟨b2, e4, rfl⟩ := e3
          obtain ⟨b3, e5, hmap, _⟩ := hR.own 2 _ rfl
          rw [e4] at e5; injection e5 with e5; subst e5
          rw [hpe, hkp]
          exact fold_opt gb b2 x.k g o w' e2 (hR.new 3 gb hgb).1 hmap ho hgw
        conv => whnf
        refine ⟨fun hn => ?_, fun hn => ?_⟩
        · conv => whnf
          have hkf : kp = false := by simpa using hn
          refine ⟨(x.k : Int) + 1, wr64 (by omega), ?_⟩
          conv => whnf
          refine ⟨⟨x.k + 1, g, x.out, by omega, hgw, by omega, by rw [heq, hat, hkf]; rfl⟩, ent_drop (aI rfl (aI rfl (aI rfl (aI rfl (aI rfl (aI rfl (aI (num_succ x.k) trivial))))))) (aI ((aI rfl (Or.inl rfl))) (aI ((aI rfl (Or.inl rfl))) (aI (imap_le (Nat.le_succ _) (fun _ => rfl)) (aI ((aI rfl (Or.inl rfl))) (aI ((aI rfl (aI rfl (aI rfl rfl)))) trivial))))) rfl rfl, by dsimp only; omega⟩
        have hkt : kp = true := by simpa using hn
        conv => whnf
        refine appK_sound rfl ?_ rfl
        conv => whnf
        refine ⟨by omega, ?_⟩
        conv => whnf
        refine call_con rfl (by kernel_rfl) (fun r w' _ => writes_ir p w') ?_
        conv => whnf
        refine ⟨fun hd => ?_, fun hd => ?_⟩
        · have hd' : 0 ≤ writes p := by simpa using hd
          conv => whnf
          refine op_delete rfl Try.underlying56 2 (writes p) rfl rfl rfl (wf_mid (writes_mid hp)) rfl ?_
          conv => whnf
          refine ⟨fun h1 => ?_, fun h1 => ?_⟩
          · conv => whnf
            refine sat_tail 7 mixed (by kernel_rfl) ?_
            conv => whnf
            refine op_mapUpdate rfl Try.underlying56 u32Elems 2 (writes p) p.n rfl rfl rfl rfl (by omega) (wf_mid (writes_mid hp)) hp.n rfl ?_
            conv => whnf
            refine ⟨fun h2 => ?_, fun h2 => ?_⟩
            · conv => whnf
              refine ⟨_, _, ent_refl, ?_⟩
              conv => whnf
              refine call_with 4 rfl ?_
              conv => whnf
              refine fin_block (l := x.out ++ [p]) rfl (by simp) (by simp [opC]) fun w' A c e1 e2 e3 e4 e5 => ?_
              have he : foldAll b = x.out ++ [p] := by rw [hF, heq, hat, hkt, if_pos rfl, if_pos h2]
              exact ⟨A, c, by rw [he], by rw [he]; exact e1, by rw [he]; exact e2, e3, .inl e4, e5⟩
            · conv => whnf
              refine ⟨(x.k : Int) + 1, wr64 (by omega), ?_⟩
              conv => whnf
              refine ⟨⟨x.k + 1, foldUpd g p, x.out ++ [p], by omega, foldUpd_words hgw hp, by simp; omega, by rw [heq, hat, hkt, if_pos rfl, if_neg (Bool.eq_false_iff.1 h2)]; simp⟩, ent_drop (aI rfl (aI rfl (aI rfl (aI rfl (aI rfl (aI rfl (aI (num_succ x.k) trivial))))))) (aI ((aI rfl (Or.inl rfl))) (aI ((aI rfl (Or.inl rfl))) (aI (imap_le (by simp) (foldUpd_put h1 hd')) (aI ((aI rfl (Or.inl rfl))) (aI ((aI rfl (aI rfl (aI (by simp) (by simp [opC]))))) trivial))))) rfl rfl, by dsimp only; omega⟩
          · conv => whnf
            refine ⟨fun h2 => ?_, fun h2 => ?_⟩
            · conv => whnf
              refine ⟨_, _, ent_refl, ?_⟩
              conv => whnf
              refine call_with 4 rfl ?_
              conv => whnf
              refine fin_block (l := x.out ++ [p]) rfl (by simp) (by simp [opC]) fun w' A c e1 e2 e3 e4 e5 => ?_
              have he : foldAll b = x.out ++ [p] := by rw [hF, heq, hat, hkt, if_pos rfl, if_pos h2]
              exact ⟨A, c, by rw [he], by rw [he]; exact e1, by rw [he]; exact e2, e3, .inl e4, e5⟩
            · conv => whnf
              refine ⟨(x.k : Int) + 1, wr64 (by omega), ?_⟩
              conv => whnf
              refine ⟨⟨x.k + 1, foldUpd g p, x.out ++ [p], by omega, foldUpd_words hgw hp, by simp; omega, by rw [heq, hat, hkt, if_pos rfl, if_neg (Bool.eq_false_iff.1 h2)]; simp⟩, ent_drop (aI rfl (aI rfl (aI rfl (aI rfl (aI rfl (aI rfl (aI (num_succ x.k) trivial))))))) (aI ((aI rfl (Or.inl rfl))) (aI ((aI rfl (Or.inl rfl))) (aI (imap_le (by simp) (foldUpd_del h1 hd')) (aI ((aI rfl (Or.inl rfl))) (aI ((aI rfl (aI rfl (aI (by simp) (by simp [opC]))))) trivial))))) rfl rfl, by dsimp only; omega⟩
        · have hd' : ¬ 0 ≤ writes p := by simpa using hd
          conv => whnf
          refine ⟨fun h1 => ?_, fun h1 => ?_⟩
          · conv => whnf
            refine sat_tail 7 mixed (by kernel_rfl) ?_
            conv => whnf
            refine op_mapUpdate rfl Try.underlying56 u32Elems 2 (writes p) p.n rfl rfl rfl rfl (by omega) (wf_mid (writes_mid hp)) hp.n rfl ?_
            conv => whnf
            refine ⟨fun h2 => ?_, fun h2 => ?_⟩
            · conv => whnf
              refine ⟨_, _, ent_refl, ?_⟩
              conv => whnf
              refine call_with 4 rfl ?_
              conv => whnf
              refine fin_block (l := x.out ++ [p]) rfl (by simp) (by simp [opC]) fun w' A c e1 e2 e3 e4 e5 => ?_
              have he : foldAll b = x.out ++ [p] := by rw [hF, heq, hat, hkt, if_pos rfl, if_pos h2]
              exact ⟨A, c, by rw [he], by rw [he]; exact e1, by rw [he]; exact e2, e3, .inl e4, e5⟩
            · conv => whnf
              refine ⟨(x.k : Int) + 1, wr64 (by omega), ?_⟩
              conv => whnf
              refine ⟨⟨x.k + 1, foldUpd g p, x.out ++ [p], by omega, foldUpd_words hgw hp, by simp; omega, by rw [heq, hat, hkt, if_pos rfl, if_neg (Bool.eq_false_iff.1 h2)]; simp⟩, ent_drop (aI rfl (aI rfl (aI rfl (aI rfl (aI rfl (aI rfl (aI (num_succ x.k) trivial))))))) (aI ((aI rfl (Or.inl rfl))) (aI ((aI rfl (Or.inl rfl))) (aI (imap_le (by simp) (foldUpd_put2 h1 hd')) (aI ((aI rfl (Or.inl rfl))) (aI ((aI rfl (aI rfl (aI (by simp) (by simp [opC]))))) trivial))))) rfl rfl, by dsimp only; omega⟩
          · conv => whnf
            refine ⟨fun h2 => ?_, fun h2 => ?_⟩
            · conv => whnf
              refine ⟨_, _, ent_refl, ?_⟩
              conv => whnf
              refine call_with 4 rfl ?_
              conv => whnf
              refine fin_block (l := x.out ++ [p]) rfl (by simp) (by simp [opC]) fun w' A c e1 e2 e3 e4 e5 => ?_
              have he : foldAll b = x.out ++ [p] := by rw [hF, heq, hat, hkt, if_pos rfl, if_pos h2]
              exact ⟨A, c, by rw [he], by rw [he]; exact e1, by rw [he]; exact e2, e3, .inl e4, e5⟩
            · conv => whnf
              refine ⟨(x.k : Int) + 1, wr64 (by omega), ?_⟩
              conv => whnf
              refine ⟨⟨x.k + 1, foldUpd g p, x.out ++ [p], by omega, foldUpd_words hgw hp, by simp; omega, by rw [heq, hat, hkt, if_pos rfl, if_neg (Bool.eq_false_iff.1 h2)]; simp⟩, ent_drop (aI rfl (aI rfl (aI rfl (aI rfl (aI rfl (aI rfl (aI (num_succ x.k) trivial))))))) (aI ((aI rfl (Or.inl rfl))) (aI ((aI rfl (Or.inl rfl))) (aI (imap_le (by simp) (foldUpd_not h1 hd')) (aI ((aI rfl (Or.inl rfl))) (aI ((aI rfl (aI rfl (aI (by simp) (by simp [opC]))))) trivial))))) rfl rfl, by dsimp only; omega⟩
    · conv => whnf
      refine ⟨_, _, ent_refl, ?_⟩
      conv => whnf
      refine call_with 4 rfl ?_
      conv => whnf
      refine fin_block rfl rfl rfl fun w' A c e1 e2 e3 e4 e5 => ?_
      have he : foldAll b = x.out := by rw [hF, heq, List.drop_eq_nil_of_le (by have := of_decide_eq_false hc; omega)]; simp [foldRun]
      exact ⟨A, c, by rw [he], by rw [he]; exact e1, by rw [he]; exact e2, e3, .inl e4, e5⟩
end Go.Proofs.Ytmjfgnnefcimiaa
namespace Go.Proofs.Ytmjfgnnefcimiaa
open Go.RowKit

theorem op_makeSlice {P : Program} {w0 : World} {G : Gs} {N : Nd} {o : Oper} {f : Fr} {S : List Ow} {K : Fr → List Ow → Prop} {t e : TypeId} {i : TypeInfo} {z : Value} {x y : Operand} (size n : Nat) (hop : o.op = .makeSlice t x y) (ht : P.underlying t = some (.slice e)) (hi : P.info? e = some i) (hz : i.zero = some z) (hsize : i.size = size)
    (hx : f.ev x = one (.int .i64 (n : Int))) (hy : f.ev y = one (.int .i64 (n : Int))) (hn : n * size ≤ 16777216) (hb : i.bytes * n ≤ 281474976710656) (hm : n ≤ maxLen) (hdst : dstOk N.n o.dst = true) {xs : List Value} (hxs : (madeCells z.cells (n * size)).toList = xs)
    (hk : K (f.put o.dst (.p (.c (.row S.length)))) (S ++ [.row e size n xs])) : OpS P w0 G N o f S K := by
  refine ⟨fun r a w hR hf hN hd next Q hK => ?_⟩
  have h1 := hf.ev x
  have h2 := hf.ev y
  rw [hx] at h1; rw [hy] at h2
  obtain ⟨w', hrun, hown, hg⟩ := run_makeSlice_full (w := w) 0 t e i z size ht hi hz hsize .i64 .i64 n hn hb hm (Nat.zero_le _)
  rw [hxs] at hown
  have hex : (execOp a.eval o).run P w = .ok (.value (.slice (some ⟨w.heap.size, 0, none⟩) n n)) w' := by
    simp [execOp, hop, den_v h1, den_v h2, hrun]
  have hB : Below w.heap.size w w' := ⟨hg.os, hg.tape, hg.output, hg.size, fun k hk => hg.block k hk (by simp)⟩
  have hlt : w.heap.size < w'.heap.size := by
    rcases hown.2 with ⟨h, _⟩ | ⟨g, cap, cur, h, _, hh, _⟩
    · cases h
    · injection h with h; injection h with h; injection h with h; subst h; exact (Array.getElem?_eq_some_iff.1 hh).1
  have hle := hR.le_new (some w.heap.size) (some (.slice (some ⟨w.heap.size, 0, none⟩) n n))
  refine wp_of_value hex (hK _ _ _ _ hk (good_value hR hf hN hd hdst (r' := r.set S.length (some w.heap.size) (some (.slice (some ⟨w.heap.size, 0, none⟩) n n))) ?_ (hR.snoc hB (fun x hx => by injection hx with hx; subst hx; exact ⟨Nat.le_refl _, hlt⟩) ⟨_, by simp [Env.set], by simp [Env.set, Value.ownBlock], hown⟩) hle))
  simp only [AV.den, Pc.den, CV.den]
  simp [Env.set]
/-- The end of a function that hands back a row. -/
theorem fin_row {w0 : World} {S : List Ow} {i n size : Nat} {e : TypeId} {xs : List Value} {R : Ending → World → Prop} (hi : S[i]? = some (.row e size n xs))
    (h : ∀ w' A c, SlAt w' w'.heap.size A xs → n ≤ c → c ≤ maxLen → Fresh w0.heap.size A → Below w0.heap.size w0 w' → R (.returned (.slice A n c)) w') : Fin w0 Gs.nil S (.p (.c (.row i))) R := by
  refine ⟨fun r w u hR hd => ?_⟩
  obtain ⟨A, c, hu, hs, hc, hm⟩ := hR.rowAt hi (den_row hd)
  have d3 := den_row hd
  subst hu
  refine h w A c hs hc hm (fun b off sp hA => ?_) hR.toBelow
  subst hA
  obtain ⟨v, hv, hob, _⟩ := hR.own i _ hi
  rw [d3] at hv; injection hv with hv; subst hv
  have hb : r.blk i = some b := by rw [← hob]; rfl
  rcases Nat.lt_or_ge b w0.heap.size with h1 | h1
  · have := (hR.new i b hb).2 h1; simp at this
  · exact h1
end Go.Proofs.Ytmjfgnnefcimiaa
namespace Go.Proofs.Ytmjfgnnefcimiaa
open Go.RowKit

def plainF : Fr → Fr
  | [] => []
  | (d, x) :: f => match x.fx (fun _ => false) with | true => (d, x) :: plainF f | false => (d, .p (.c .any)) :: plainF f
theorem plain_den {r : Env} {f : Fr} {a : Act} (hf : FDen r f a) : FDen Env.none (plainF f) a := by
  have key : ∀ f : Fr, ∀ k u, (f.get k).den r u → ((plainF f).get k).den Env.none u := by
    intro f
    induction f with
    | nil => intro k u _; simp [plainF, Fr.get, AV.den, Pc.den, CV.den]
    | cons p f ih =>
      obtain ⟨d, x⟩ := p
      intro k u h
      unfold plainF
      cases hx : x.fx (fun _ => false) <;> cases hk : Nat.beq d k <;> simp only [Fr.get, hk] at h ⊢
      · exact ih k u h
      · simp [AV.den, Pc.den, CV.den]
      · exact ih k u h
      · exact AV.den_fx (ok := fun _ => false) (fun i b hi => by cases hi) hx h
  exact fun k => key f k _ (hf k)
/-- The flags fit: a quiet one may be taken first; another one is the only one that may come up. -/
def mixB (ops : Array Oper) : List Bool → Nat → Array Bool → Bool
  | [], _, listed => (Region.ready .any ops listed).isEmpty
  | q :: qs, k, listed => (match q with
      | true => Region.free .any ops listed k && (Region.ready .any ops listed).contains k
      | false => Region.ready .any ops listed == [k]) && mixB ops qs (k + 1) (listed.setIfInBounds k true)
def guardOf (ops : Array Oper) (f : Fr) (o : Oper) : Option Bool := match o.guard with
  | none => some true
  | some (j, pol) => (match slotOf ops j with
    | some d => (match f.get d with | .p (.c (.v (.bool x))) => some (x == pol) | _ => none)
    | none => none)
section
variable (P : Program) (W : World) (N : Nd) (ops : Array Oper)
def mixK : List Oper → List Bool → Fr → List Ow → (Fr → List Ow → Prop) → Prop
  | [], [], f, T, K => K f T
  | o :: rest, q :: qs, f, T, K => (match dstOk N.n o.dst with
    | false => False
    | true => (match guardOf ops f o with
      | some true => (match q with
        | true => (match opTy P o.op with | true => qop P W Gs.nil [] (plainF f) o fun v => f.putK o.dst v fun f' => mixK rest qs f' T K | false => False)
        | false => opK P W Gs.nil N o f T fun f' T' => mixK rest qs f' T' K)
      | some false => (match q with | true => f.putK o.dst (.p (.c .any)) fun f' => mixK rest qs f' T K | false => False)
      | none => False))
  | _, _, _, _, _ => False
end
section
variable {P : Program} {W : World} {N : Nd} {ops : Array Oper}
theorem guard_wanted {r : Env} {f : Fr} {a : Act} {o : Oper} {x : Bool} (hf : FDen r f a) (h : guardOf ops f o = some x) : Region.wanted o (yielded ops a.tmps) = x := by
  unfold guardOf at h
  split at h
  · rename_i hg; injection h with h; subst h; exact wanted_none hg _
  · rename_i j pol hg
    split at h
    · rename_i d hs
      split at h
      · rename_i y hy
        injection h with h; subst h
        rw [wanted_some hg, yielded_of hf hs hy]
        cases y <;> cases pol <;> rfl
      · cases h
    · cases h
theorem mixK_sound (hns : Region.noSelect ops = true) {K : Fr → List Ow → Prop} {Q : Exit → Act → World → Prop} (hQ0 : ∀ c a w, ¬ Q (.panic c) a w) (hQ : ∀ f T a w, K f T → Good W Gs.nil N f T a w → Q .normal a w) :
    ∀ (l : List Oper) (qs : List Bool) (k : Nat) (listed : Array Bool) (f : Fr) (T : List Ow), (∀ j o, l[j]? = some o → ops[k + j]? = some o) → mixB ops qs k listed = true → mixK P W N ops l qs f T K →
    ∀ a w, Good W Gs.nil N f T a w → wpAnyH P .any ops Q (fun w' => Below W.heap.size W w') l.length listed a w
  | [], [], k, listed, f, T, _, hB, h, a, w, hg => wpAnyH_done (by simpa [mixB] using hB) (hQ f T a w h hg) _
  | o :: l, q :: qs, k, listed, f, T, hl, hB, h, a, w, ⟨r, hR, hf, hN, hd⟩ => by
    have h0 : ops[k]? = some o := hl 0 o rfl
    have hl2 : ∀ j p, l[j]? = some p → ops[k + 1 + j]? = some p := fun j p hj => by have := hl (j + 1) p (by simpa using hj); rwa [show k + 1 + j = k + (j + 1) by omega]
    simp only [mixB, Bool.and_eq_true] at hB
    unfold mixK at h
    split at h
    · exact h.elim
    · rename_i hdst
      split at h
      · rename_i hgd
        have hw := guard_wanted hf hgd
        cases q with
        | true =>
          simp only [Bool.and_eq_true] at hB
          simp only at h
          split at h
          · rename_i hty
            obtain ⟨v, u, hK, hden, hrun⟩ := qop_sound h hty (rel_none W) (plain_den hf)
            have hK := putK_iff.1 hK
            refine wpAnyH_take (v := u) h0 hns hB.1.1 hB.1.2 (fun c a w h => absurd h (hQ0 c _ w)) (.inl ⟨hw, fun w' hw' => hrun w' hw'⟩) hR.toBelow ?_
            refine mixK_sound hns hQ0 hQ l qs (k + 1) _ _ T hl2 hB.2 hK _ w ⟨r, hR, hf.put (AV.den_mono ⟨(fun i b h => by cases h), (fun i b h => by cases h)⟩ _ _ hden) (by rw [hN]; exact hdst), (put_size a _ _).trans hN, (put_defers a _ _).trans hd⟩
          · exact h.elim
        | false =>
          simp only at h hB
          have hr : Region.ready .any ops listed = [k] := by simpa using hB.1
          refine wpAnyH_all (rs := [k]) hr (by simp) fun i hi => ?_
          obtain rfl : i = k := by simpa using hi
          unfold wpOp
          simp only [h0, hw, if_true]
          refine .inl (se_wp ((opK_sound h).out r a w hR hf hN hd (fun a' w' => Below W.heap.size W w' ∧ wpAnyH P .any ops Q (fun w' => Below W.heap.size W w') l.length (listed.setIfInBounds i true) a' w') Q fun f' T' a' w' hk hg' => ?_) fun _ _ h => h)
          refine ⟨?_, mixK_sound hns hQ0 hQ l qs (i + 1) _ f' T' hl2 hB.2 hk a' w' hg'⟩
          obtain ⟨r', hR', _⟩ := hg'
          exact hR'.toBelow
      · rename_i hgd
        have hw := guard_wanted hf hgd
        cases q with
        | true =>
          simp only [Bool.and_eq_true] at hB
          simp only at h
          have hK := putK_iff.1 h
          refine wpAnyH_take (v := undef) h0 hns hB.1.1 hB.1.2 (fun c a w h => absurd h (hQ0 c _ w)) (.inr ⟨hw, rfl⟩) hR.toBelow ?_
          exact mixK_sound hns hQ0 hQ l qs (k + 1) _ _ T hl2 hB.2 hK _ w ⟨r, hR, hf.putAny _ (by rw [hN]; exact hdst), (put_size a _ _).trans hN, (put_defers a _ _).trans hd⟩
        | false => exact h.elim
      · exact h.elim
  | [], _ :: _, _, _, _, _, _, _, h, _, _, _ => h.elim
  | _ :: _, [], _, _, _, _, _, _, h, _, _, _ => h.elim
/-- A drawn region over plain memory. -/
theorem sat_mix {id : Nat} {l : List Oper} {f : Fr} {K : Exit → Fr → List Ow → Prop} (qs : List Bool) (hm : P.follows .mixedOrders = true) (hns : Region.noSelect l.toArray = true) (hB : mixB l.toArray qs 0 (Array.replicate l.toArray.size false) = true)
    (h : mixK P W N l.toArray l qs f [] (K .normal)) : Sat none P W Gs.nil N (.region id l.toArray true) f [] K := by
  refine ⟨fun n a w ⟨r, hR, hf, hN, hd⟩ => wpIn_wide.2 ?_⟩
  have hf0 : FDen Env.none f a := hf.mono ⟨(fun i x hx => by rw [hR.outB i (by simp)] at hx; cases hx), (fun i x hx => by rw [hR.outV i (by simp)] at hx; cases hx)⟩
  refine Code.wp_mono (Q := fun e a w => match e with | .normal => PostK W Gs.nil N K .normal a w | _ => False) (fun e a w h => by cases e <;> first | exact h | exact h.elim) (wp_region_held (S := fun w' => Below W.heap.size W w') hm ?_)
  have := mixK_sound (P := P) (W := W) (N := N) (Q := fun e a w => match e with | .normal => PostK W Gs.nil N K .normal a w | _ => False) hns (fun c a w h => h) (fun f T a w hk hg => ⟨f, T, hk, hg⟩) l qs 0 _ f [] (fun j o hj => by simpa using hj) hB h a w.drew ⟨Env.none, (rel_none W).below hR.drew.toBelow, hf0, hN, hd⟩
  simpa using this
/-- The memory seen anew, as plain memory. -/
theorem satq_restart {w0 : World} {d : Code} {f : Fr} {S : List Ow} {Q : Exit → Act → World → Prop} (h : ∀ r w, Rel w0 Gs.nil S r w → ∃ f2, (∀ a, FDen r f a → FDen Env.none f2 a) ∧ SatQ P w Gs.nil N d f2 [] Q) : SatQ P w0 Gs.nil N d f S Q :=
  ⟨fun a w ⟨r, hR, hf, hN, hd⟩ => by
    obtain ⟨f2, h1, h2⟩ := h r w hR
    exact h2.out a w ⟨Env.none, rel_none w, h1 a hf, hN, hd⟩⟩
end
end Go.Proofs.Ytmjfgnnefcimiaa
