/- Walks: the program's memory: what is known of it; Pages, at. -/
import Derived.Test.YtnhdcclpjildjaaGreatK13
namespace Go.Proofs.YtnhdcclpjildjaaGreat
open Go.RowKit

structure Slt where
 d : Nat
 c : Nat
 od : Bool
 oc : Bool
 cd : Nat
 cc : Nat
 r : Int
abbrev ptrV (b : Nat) : Value := .pointer (some ⟨b, 0, none⟩)
abbrev slotL (s : Slt) : List Value := [ptrV s.d, ptrV s.c, .bool s.od, .bool s.oc, ptrV s.cd, ptrV s.cc, intV s.r]
def slotsL (l : List Slt) : List Value := l.flatMap slotL
structure PageAt (w : World) (b : Nat) (us : List Int) : Prop where
 at_ : w.heap[b]? = some (.cells (us.map byteV).toArray 166 (0, 0))
 len : us.length = 256
 byte : ∀ x ∈ us, 0 ≤ x ∧ x < 256
structure MemAt2 (w : World) (B m sb : Nat) (l : List Slt) (img : Nat → List Int) : Prop where
 hm : w.heap[m]? = some (.cells #[.slice (some ⟨sb, 0, none⟩) l.length l.length, .bool false] 163 (0, 0))
 hs : w.heap[sb]? = some (.cells (slotsL l).toArray 168 (0, 0))
 Bm : B ≤ m
 Bs : B ≤ sb
 dp : ∀ s ∈ l, (∃ us, PageAt w s.d us) ∧ B ≤ s.d
 cp : ∀ k s, l[k]? = some s → PageAt w s.c (img k) ∧ B ≤ s.c
 sep : ∀ s ∈ l, ∀ s' ∈ l, s.od = true → s.d ≠ s'.c
theorem PageAt.later {w w' : World} {b : Nat} {us : List Int} (h : PageAt w b us) (hb : w'.heap[b]? = w.heap[b]?) : PageAt w' b us := ⟨hb.trans h.at_, h.len, h.byte⟩
theorem heap_lt {w : World} {b : Nat} {o : Obj} (h : w.heap[b]? = some o) : b < w.heap.size := by
 rcases Nat.lt_or_ge b w.heap.size with h1 | h1
 ·exact h1
 ·rw [Array.getElem?_eq_none h1] at h; cases h
theorem MemAt2.later {w w' : World} {B m sb : Nat} {l : List Slt} {img : Nat → List Int} (h : MemAt2 w B m sb l img) (hB : Below w.heap.size w w') : MemAt2 w' B m sb l img := by
 have key : ∀ {b : Nat} {o : Obj}, w.heap[b]? = some o → w'.heap[b]? = w.heap[b]? := fun hb => hB.block _ (heap_lt hb)
 exact ⟨(key h.hm).trans h.hm, (key h.hs).trans h.hs, h.Bm, h.Bs, fun s hs => by obtain ⟨⟨us, hu⟩, hb⟩ := h.dp s hs; exact ⟨⟨us, hu.later (key hu.at_)⟩, hb⟩,
  fun k s hk => by obtain ⟨hu, hb⟩ := h.cp k s hk; exact ⟨hu.later (key hu.at_), hb⟩, h.sep⟩
section
variable {w : World} {B m sb : Nat} {l : List Slt} {img : Nat → List Int}
end
end Go.Proofs.YtnhdcclpjildjaaGreat
namespace Go.Proofs.YtnhdcclpjildjaaGreat
open Go.RowKit

def chainOk (ops : Array Oper) : List Nat → Array Bool → Bool
 | [], _ => true
 | i :: qs, listed => Region.free .any ops listed i && (Region.ready .any ops listed).contains i && chainOk ops qs (listed.setIfInBounds i true)
def chainL : List Nat → Array Bool → Array Bool
 | [], listed => listed
 | i :: qs, listed => chainL qs (listed.setIfInBounds i true)
section
variable (P : Program) (W : World) (G : Gs) (N : Nd)
def chK (ops : Array Oper) (l : List Oper) : List Nat → Fr → List Ow → (Fr → List Ow → Prop) → Prop
 | [], f, T, K => K f T
 | i :: qs, f, T, K => (match l[i]? with
  | none => False
  | some o => (match dstOk N.n o.dst with
   | false => False
   | true => (match guardOf ops f o with
    | some true => firstG P W G f T o fun v => f.putK o.dst v fun f' => chK ops l qs f' T K
    | _ => False)))
end
section
variable {P : Program} {W : World} {G : Gs} {N : Nd} {ops : Array Oper} {l : List Oper} {α : Type}
theorem chK_sound (hl : ∀ i : Nat, l[i]? = ops[i]?) (hns : Region.noSelect ops = true) {K : Fr → List Ow → Prop} {Q : Exit → Act → World → Prop} (hQ0 : ∀ c a w, ¬ Q (.panic c) a w) {m : Nat} :
  ∀ (qs : List Nat) (listed : Array Bool) (f : Fr) (T : List Ow), chainOk ops qs listed = true → chK P W G N ops l qs f T K → (∀ f' a w, K f' T → Good W G N f' T a w → wpAnyH P .any ops Q (Held W G) m (chainL qs listed) a w) →
   ∀ a w, Good W G N f T a w → wpAnyH P .any ops Q (Held W G) (qs.length + m) listed a w
 | [], listed, f, T, _, h, hK, a, w, hg => by
  rw [List.length_nil, Nat.zero_add]
  exact hK f a w h hg
 | i :: qs, listed, f, T, hB, h, hK, a, w, hg => by
  simp only [chainOk, Bool.and_eq_true] at hB
  obtain ⟨⟨hB1, hB2⟩, hB3⟩ := hB
  rw [List.length_cons, show qs.length + 1 + m = (qs.length + m) + 1 by omega]
  unfold chK at h
  split at h
  ·exact h.elim
  ·rename_i o ho
   rw [hl] at ho
   split at h
   ·exact h.elim
   ·rename_i hdst
    obtain ⟨r, hR, hf, hN, hd⟩ := hg
    split at h
    ·rename_i hgd
     have hw := guard_wanted hf hgd
     obtain ⟨v, u, hK1, hden, hrun⟩ := firstG_sound h hR hf
     have hK1 := putK_iff.1 hK1
     refine wpAnyH_take (v := u) ho hns hB1 hB2 (fun c a w h => absurd h (hQ0 c _ w)) (.inl ⟨hw, hrun⟩) hR.held ?_
     exact chK_sound hl hns hQ0 qs _ _ T hB3 hK1 hK _ w ⟨r, hR, hf.put hden (by rw [hN]; exact hdst), (put_size a _ _).trans hN, (put_defers a _ _).trans hd⟩
    ·exact h.elim
theorem sat_mixG {id : Nat} {f : Fr} {S : List Ow} {K : Exit → Fr → List Ow → Prop} (qs : List Nat) (listed : α → Array Bool) (nx : α → Nx α) (left : α → Nat) (T : α → Fr) (U : α → List Ow) (x0 : α) (hm : P.follows .mixedOrders = true) (hns : Region.noSelect l.toArray = true)
  (h0 : (chainOk l.toArray qs (Array.replicate l.toArray.size false) && eqBools (listed x0).toList (chainL qs (Array.replicate l.toArray.size false)).toList && Nat.ble (qs.length + left x0) l.length) = true) (hB : ∀ x, dagB l.toArray listed nx left x = true)
  (h : chK P W G N l.toArray l qs f S fun f' S' => Ent W G N f' S' (T x0) (U x0)) (hnode : ∀ x, nodeK P W G N l.toArray l T U (K .normal) x (nx x)) : Sat none P W G N (.region id l.toArray true) f S K := by
 refine ⟨fun n a w ⟨r, hR, hf, hN, hd⟩ => wpIn_wide.2 ?_⟩
 simp only [Bool.and_eq_true] at h0
 obtain ⟨⟨h1, h2⟩, h3⟩ := h0
 have h3 := Nat.le_of_ble_eq_true h3
 refine Code.wp_mono (Q := fun e a w => match e with | .normal => PostK W G N K .normal a w | _ => False) (fun e a w h => by cases e <;> first | exact h | exact h.elim) (wp_region_held (S := Held W G) hm ?_)
 have := chK_sound (P := P) (W := W) (N := N) (Q := fun e a w => match e with | .normal => PostK W G N K .normal a w | _ => False) (m := l.length - qs.length) (fun i => by simp) hns (fun c a w h => h) qs (Array.replicate l.toArray.size false) f S h1 h (fun f' a' w' hK hg => by
  have := dag_sound (P := P) (W := W) (N := N) (ops := l.toArray) (l := l) (Q := fun e a w => match e with | .normal => PostK W G N K .normal a w | _ => False) (fun i => by simp) hns (fun c a w h => h) (fun f T a w hk hg => ⟨f, T, hk, hg⟩) hB hnode (l.length - qs.length) x0 a' w' (by omega) (hK.out a' w' hg)
  rwa [show listed x0 = chainL qs (Array.replicate l.toArray.size false) from Array.ext' (eqBools_eq h2)] at this) a w.drew ⟨r, hR.drew, hf, hN, hd⟩
 rw [show qs.length + (l.length - qs.length) = l.length by omega] at this
 simpa using this
theorem node_nil {T : α → Fr} {U : α → List Ow} {K : Fr → List Ow → Prop} {x : α} : nodeK P W G N ops l T U K x (.alts []) := fun p hp => by cases hp
theorem node_cons {T : α → Fr} {U : α → List Ow} {K : Fr → List Ow → Prop} {x : α} {i : Nat} {y : α} {m : List (Nat × α)} (h : altK P W G N ops l T U x i y) (hm : nodeK P W G N ops l T U K x (.alts m)) : nodeK P W G N ops l T U K x (.alts ((i, y) :: m)) := fun p hp => by
 rcases List.mem_cons.1 hp with rfl | hp
 ·exact h
 ·exact hm p hp
end
def rowsOnly (S : List Ow) : Bool := S.all fun o => match o with | .row .. => true | .gone => true | _ => false
theorem ent_newrow {w0 : World} {N : Nd} {f : Fr} {A : List Ow} (d : Nat) (e : TypeId) (size : Nat) (hf : f.bnd A.length = true) (hA : rowsOnly A = true) :
  Ent w0 Gs.nil N ((d, .p (.c (.sl A.length 0 0 0))) :: f) (A ++ [.cells e []]) ((d, .p (.c (.row A.length))) :: f) (A ++ [.row e size 0 []]) := ⟨fun a w ⟨r, hR, hd, hN, hdf⟩ => by
 have h1 := hd d
 rw [get_cons_self] at h1
 obtain ⟨b, hb, hu⟩ := den_sl h1
 obtain ⟨b', us, e1, e2, e3⟩ := hR.own A.length (.cells e []) (by simp)
 rw [hb] at e1; injection e1 with e1; subst e1
 obtain rfl : us = [] := e3
 obtain ⟨v, hv⟩ : ∃ v : Value, v = .slice (some ⟨b, 0, none⟩) 0 0 := ⟨_, rfl⟩
 have hlen : (A ++ [Ow.cells e []]).length = A.length + 1 := by simp
 refine ⟨⟨r.blk, fun i => if i = A.length then some v else r.val i⟩, ⟨hR.os, hR.tape, hR.output, hR.size, hR.old, fun i o ho => ?_, hR.inj, hR.new, fun i hi => hR.outB i (by simp at hi ⊢; omega), fun i hi => ?_, hR.first⟩, fun k => ?_, hN, hdf⟩
 ·rcases get_snoc ho with ⟨hi, ho⟩ | ⟨rfl, rfl⟩
  ·have h2 := hR.own i o (by rw [List.getElem?_append_left hi]; exact ho)
   have h3 := List.all_eq_true.1 hA o (List.mem_of_getElem? ho)
   cases o with
   | row e' s' n' xs' =>
    obtain ⟨v', f1, f2, f3⟩ := h2
    exact ⟨v', by show (if i = A.length then some v else r.val i) = some v'; rw [if_neg (by omega)]; exact f1, f2, f3⟩
   | gone => trivial
   | cells => cases h3
   | ext => cases h3
   | view => cases h3
  ·refine ⟨v, by show (if A.length = A.length then some v else _) = some v; rw [if_pos rfl], by rw [hv]; exact hb.symm, by simp, .inr ⟨b, 0, #[], hv, Nat.zero_le _, e2, Nat.le_refl _, Nat.zero_le _, by simp, by simp⟩⟩
 ·show (if i = A.length then some v else r.val i) = none
  have : A.length + 1 ≤ i := by simpa using hi
  rw [if_neg (by omega)]
  exact hR.outV i (by rw [hlen]; exact this)
 ·have hag : r.agree A.length ⟨r.blk, fun i => if i = A.length then some v else r.val i⟩ := fun i hi => ⟨rfl, by show r.val i = (if i = A.length then some v else r.val i); rw [if_neg (by omega)]⟩
  have h4 := hd k
  simp only [Fr.get] at h4 ⊢
  split
  ·rename_i hk
   have hk : d = k := Nat.eq_of_beq_eq_true hk
   subst hk
   show (if A.length = A.length then some v else _) = some _
   rw [if_pos rfl, hv, hu]
  ·rename_i hk
   rw [hk] at h4
   exact AV.den_agree hag _ _ (Fr.bnd_get k hf) h4⟩
end Go.Proofs.YtnhdcclpjildjaaGreat
namespace Go.Proofs.YtnhdcclpjildjaaGreat
open Go.RowKit

section
variable {ats : List Int} {k : Int} {vs : List Int} {R : Int → Int} {M : MemP} {i : QI}
def QDoes (ats : List Int) (k : Int) (vs : List Int) (_R : Int → Int) (M : MemP) (at_ : Int) (body : List BOp) (tail : Option (List BOp)) : Option ((Int → Int) × Int × MemP) → Prop
 | none => ∀ l, evalL ats (body ++ (tail.getD l)) k vs M = ⟨⟨true, k, k, (ats[k.toNat]?).getD 0, guestsL vs⟩, M⟩
 | some (R', nx, M') => ∃ vs', RegOk vs' R' ∧ (∀ j, 16 ≤ j → j < 19 → getV vs' j = getV vs j) ∧ (match tail with
   | none => nx = cut32 (at_ + 4) ∧ ∀ l, evalL ats (body ++ l) k vs M = evalL ats l k vs' M'
   | some t => evalL ats (body ++ t) k vs M = ⟨⟨false, 0, ats.length, nx, guestsL vs'⟩, M'⟩)
theorem q_eval (hi : i.ok) (h : RegOk vs R) (at_ : Int) : QDoes ats k vs R M at_ (qBody i at_) (qTail i at_) (stepQ i at_ R M) := by
 have ea : getV vs i.a = R i.a := h.regs _ hi.a.1 hi.a.2
 have ed : getV vs i.d = R i.d := h.regs _ hi.d.1 hi.d.2
 have wa : word (R i.a) := by rw [← ea]; exact getV_word h.vars _
 by_cases hc : qCode i.op ≠ 0
 ·have e2 : qBody i at_ = qArith i := by unfold qBody; rw [if_pos hc]
  have e3 : qTail i at_ = none := by unfold qTail; rw [if_pos hc]
  rw [e2, e3]
  obtain ⟨k1, k2⟩ := arith_eval (ats := ats) (k := k) (M := M) hi h hc
  by_cases h10 : i.op = 10 ∧ R i.b = 0
  ·have e1 : stepQ i at_ R M = none := by unfold stepQ; rw [if_pos h10]
   rw [e1]
   exact k1 h10
  ·have e1 : stepQ i at_ R M = some (updR R i.d (wordOp (qCode i.op) (R i.a) (if 16 ≤ i.op then i.imm else R i.b)), cut32 (at_ + 4), M) := by unfold stepQ; rw [if_neg h10, if_pos hc]
   rw [e1]
   obtain ⟨vs', a, b, c⟩ := k2 h10
   exact ⟨vs', a, b, rfl, c⟩
 have hc0 : qCode i.op = 0 := by simpa using hc
 have n10 : ¬ (i.op = 10 ∧ R i.b = 0) := fun ⟨h10, _⟩ => by rw [h10] at hc0; exact absurd hc0 (by decide)
 by_cases h41 : i.op = 41
 ·have e1 : stepQ i at_ R M = some (updR R i.d (cut32 (i.imm * 1024)), cut32 (at_ + 4), M) := by unfold stepQ; rw [if_neg n10, if_neg hc, if_pos h41]
  have e2 : qBody i at_ = qSet i.d (cut32 (i.imm * 1024)) := by unfold qBody; rw [if_neg hc, if_pos h41]
  have e3 : qTail i at_ = none := by unfold qTail; rw [if_neg hc, if_pos (Or.inl h41)]
  rw [e1, e2, e3]
  obtain ⟨vs', a, b, c⟩ := ev_set (ats := ats) (k := k) (M := M) h hi.d (cut32_word (i.imm * 1024))
  exact ⟨vs', a, fun j h16 _ => b j h16, rfl, c⟩
 by_cases h23 : i.op = 23
 ·have e2 : qBody i at_ = [⟨16, qTarget i.d, i.a, 0, i.imm⟩] := by unfold qBody; rw [if_neg hc, if_neg h41, if_pos h23]
  have e3 : qTail i at_ = none := by unfold qTail; rw [if_neg hc, if_pos (Or.inr (by omega))]
  have e1 : stepQ i at_ R M = (match M.bad ((R i.a + i.imm) % 4294967296) 1 0 4 with | none => some (updR R i.d (M.load ((R i.a + i.imm) % 4294967296) 0 4), cut32 (at_ + 4), M) | some _ => none) := by unfold stepQ; rw [if_neg n10, if_neg hc, if_neg h41, if_pos h23]; all_goals (cases M.bad ((R i.a + i.imm) % 4294967296) 1 0 4 <;> rfl)
  have t := load_eval (ats := ats) (k := k) (M := M) (c := 16) (n := i.imm) (Or.inl rfl) h hi.d hi.a
  rw [show szN 16 = 4 from rfl] at t
  rw [e1, e2, e3]
  cases hb : M.bad ((R i.a + i.imm) % 4294967296) 1 0 4 with
  | none => rw [hb] at t; obtain ⟨vs', a, b, c⟩ := t; exact ⟨vs', a, b, rfl, c⟩
  | some y => rw [hb] at t; exact t
 by_cases h24 : i.op = 24
 ·have e2 : qBody i at_ = [⟨17, qTarget i.d, i.a, 0, i.imm⟩] := by unfold qBody; rw [if_neg hc, if_neg h41, if_neg h23, if_pos h24]
  have e3 : qTail i at_ = none := by unfold qTail; rw [if_neg hc, if_pos (Or.inr (by omega))]
  have e1 : stepQ i at_ R M = (match M.bad ((R i.a + i.imm) % 4294967296) 1 0 1 with | none => some (updR R i.d (M.load ((R i.a + i.imm) % 4294967296) 0 1), cut32 (at_ + 4), M) | some _ => none) := by unfold stepQ; rw [if_neg n10, if_neg hc, if_neg h41, if_neg h23, if_pos h24]; all_goals (cases M.bad ((R i.a + i.imm) % 4294967296) 1 0 1 <;> rfl)
  have t := load_eval (ats := ats) (k := k) (M := M) (c := 17) (n := i.imm) (Or.inr rfl) h hi.d hi.a
  rw [show szN 17 = 1 from rfl] at t
  rw [e1, e2, e3]
  cases hb : M.bad ((R i.a + i.imm) % 4294967296) 1 0 1 with
  | none => rw [hb] at t; obtain ⟨vs', a, b, c⟩ := t; exact ⟨vs', a, b, rfl, c⟩
  | some y => rw [hb] at t; exact t
 by_cases h25 : i.op = 25
 ·have e2 : qBody i at_ = [⟨18, 0, i.a, i.d, i.imm⟩] := by unfold qBody; rw [if_neg hc, if_neg h41, if_neg h23, if_neg h24, if_pos h25]
  have e3 : qTail i at_ = none := by unfold qTail; rw [if_neg hc, if_pos (Or.inr (by omega))]
  have e1 : stepQ i at_ R M = (match M.bad ((R i.a + i.imm) % 4294967296) 2 0 4 with | none => some (R, cut32 (at_ + 4), M.storeM ((R i.a + i.imm) % 4294967296) 4 (R i.d)) | some _ => none) := by unfold stepQ; rw [if_neg n10, if_neg hc, if_neg h41, if_neg h23, if_neg h24, if_pos h25]; all_goals (cases M.bad ((R i.a + i.imm) % 4294967296) 2 0 4 <;> rfl)
  have t : ∀ l, evalL ats (⟨18, 0, i.a, i.d, i.imm⟩ :: l) k vs M = _ := fun l => ev_store (Or.inl rfl)
  rw [ea, ed, show szN 18 = 4 from rfl] at t
  rw [e1, e2, e3]
  cases hb : M.bad ((R i.a + i.imm) % 4294967296) 2 0 4 with
  | none => rw [hb] at t; exact ⟨vs, h, fun _ _ _ => rfl, rfl, t⟩
  | some y => rw [hb] at t; exact t
 by_cases h26 : i.op = 26
 ·have e2 : qBody i at_ = [⟨19, 0, i.a, i.d, i.imm⟩] := by unfold qBody; rw [if_neg hc, if_neg h41, if_neg h23, if_neg h24, if_neg h25, if_pos h26]
  have e3 : qTail i at_ = none := by unfold qTail; rw [if_neg hc, if_pos (Or.inr (by omega))]
  have e1 : stepQ i at_ R M = (match M.bad ((R i.a + i.imm) % 4294967296) 2 0 1 with | none => some (R, cut32 (at_ + 4), M.storeM ((R i.a + i.imm) % 4294967296) 1 (R i.d)) | some _ => none) := by unfold stepQ; rw [if_neg n10, if_neg hc, if_neg h41, if_neg h23, if_neg h24, if_neg h25, if_pos h26]; all_goals (cases M.bad ((R i.a + i.imm) % 4294967296) 2 0 1 <;> rfl)
  have t : ∀ l, evalL ats (⟨19, 0, i.a, i.d, i.imm⟩ :: l) k vs M = _ := fun l => ev_store (Or.inr rfl)
  rw [ea, ed, show szN 19 = 1 from rfl] at t
  rw [e1, e2, e3]
  cases hb : M.bad ((R i.a + i.imm) % 4294967296) 2 0 1 with
  | none => rw [hb] at t; exact ⟨vs, h, fun _ _ _ => rfl, rfl, t⟩
  | some y => rw [hb] at t; exact t
 have nt : ¬ (i.op = 41 ∨ (23 ≤ i.op ∧ i.op ≤ 26)) := by omega
 by_cases h27 : i.op = 27
 ·have e2 : qBody i at_ = [⟨1, 21, 0, 0, i.imm⟩, ⟨3, 20, i.a, 21, 0⟩, ⟨1, 21, 0, 0, 4294967292⟩, ⟨5, 20, 20, 21, 0⟩] ++ qSet i.d (cut32 (at_ + 4)) := by
   unfold qBody; rw [if_neg hc, if_neg h41, if_neg h23, if_neg h24, if_neg h25, if_neg h26, if_pos h27]
  have e3 : qTail i at_ = some [⟨25, 0, 20, 0, 0⟩] := by unfold qTail; rw [if_neg hc, if_neg nt, if_pos h27]
  have e1 : stepQ i at_ R M = some (updR R i.d (cut32 (at_ + 4)), (R i.a + i.imm) % 4294967296 / 4 * 4, M) := by
   unfold stepQ; rw [if_neg n10, if_neg hc, if_neg h41, if_neg h23, if_neg h24, if_neg h25, if_neg h26, if_pos h27]
  rw [e1, e2, e3]
  have w1 : word ((R i.a + i.imm) % 4294967296) := by unfold word; omega
  have w2 : word ((R i.a + i.imm) % 4294967296 / 4 * 4) := by unfold word; omega
  have w3 : word 4294967292 := by unfold word; omega
  have r1 := h.setT (d := 21) ⟨by omega, by omega⟩ hi.imm
  have r2 := r1.setT (d := 20) ⟨by omega, by omega⟩ w1
  have r3 := r2.setT (d := 21) ⟨by omega, by omega⟩ w3
  have r4 := r3.setT (d := 20) ⟨by omega, by omega⟩ w2
  obtain ⟨vs', a, b, c⟩ := ev_set (ats := ats) (k := k) (M := M) r4 hi.d (cut32_word (at_ + 4))
  refine ⟨vs', a, fun j h16 h19 => ?_, ?_⟩
  ·rw [b j h16, getV_set_ne (by omega) (by omega) (by omega), getV_set_ne (by omega) (by omega) (by omega), getV_set_ne (by omega) (by omega) (by omega), getV_set_ne (by omega) (by omega) (by omega)]
  ·have g1 : wordOp 3 (getV (vs.set (21 : Int).toNat i.imm) i.a) (getV (vs.set (21 : Int).toNat i.imm) 21) = (R i.a + i.imm) % 4294967296 := by
    rw [r1.regs _ hi.a.1 hi.a.2, getV_set h.vars ⟨by omega, by omega⟩]; rfl
   have g2 : wordOp 5 (getV (((vs.set (21 : Int).toNat i.imm).set (20 : Int).toNat ((R i.a + i.imm) % 4294967296)).set (21 : Int).toNat 4294967292) 20) (getV (((vs.set (21 : Int).toNat i.imm).set (20 : Int).toNat ((R i.a + i.imm) % 4294967296)).set (21 : Int).toNat 4294967292) 21) = (R i.a + i.imm) % 4294967296 / 4 * 4 := by
    rw [getV_set_ne (d := 21) (v := 20) (by omega) (by omega) (by omega), getV_set r1.vars ⟨by omega, by omega⟩, getV_set r2.vars ⟨by omega, by omega⟩]
    exact and_four w1
   show evalL ats (⟨1, 21, 0, 0, i.imm⟩ :: ⟨3, 20, i.a, 21, 0⟩ :: ⟨1, 21, 0, 0, 4294967292⟩ :: ⟨5, 20, 20, 21, 0⟩ :: (qSet i.d (cut32 (at_ + 4)) ++ [⟨25, 0, 20, 0, 0⟩])) k vs M = _
   rw [ev_const, ev_bin ⟨by omega, by omega⟩, g1, ev_const, ev_bin ⟨by omega, by omega⟩, g2, c, evalL_var rfl]
   rw [b 20 (by omega), getV_set r3.vars ⟨by omega, by omega⟩]
 by_cases h40 : i.op = 40
 ·have e2 : qBody i at_ = qSet i.d (cut32 (at_ + 4)) := by
   unfold qBody; rw [if_neg hc, if_neg h41, if_neg h23, if_neg h24, if_neg h25, if_neg h26, if_neg h27, if_pos h40]
  have e3 : qTail i at_ = some [⟨24, 0, 0, 0, cut32 (at_ + 4 * i.imm)⟩] := by unfold qTail; rw [if_neg hc, if_neg nt, if_neg h27, if_pos h40]
  have e1 : stepQ i at_ R M = some (updR R i.d (cut32 (at_ + 4)), cut32 (at_ + 4 * i.imm), M) := by
   unfold stepQ; rw [if_neg n10, if_neg hc, if_neg h41, if_neg h23, if_neg h24, if_neg h25, if_neg h26, if_neg h27, if_pos h40]
  rw [e1, e2, e3]
  obtain ⟨vs', a, b, c⟩ := ev_set (ats := ats) (k := k) (M := M) h hi.d (cut32_word (at_ + 4))
  refine ⟨vs', a, fun j h16 _ => b j h16, ?_⟩
  show evalL ats (qSet i.d (cut32 (at_ + 4)) ++ [⟨24, 0, 0, 0, cut32 (at_ + 4 * i.imm)⟩]) k vs M = _
  rw [c, evalL_exit (Or.inl rfl)]
 by_cases hbr : 32 ≤ i.op ∧ i.op ≤ 37
 ·have e2 : qBody i at_ = qTest i := by
   unfold qBody; rw [if_neg hc, if_neg h41, if_neg h23, if_neg h24, if_neg h25, if_neg h26, if_neg h27, if_neg h40, if_pos hbr]
  have e3 : qTail i at_ = some [⟨23, 0, 20, 0, cut32 (at_ + 4 * i.imm)⟩, ⟨24, 0, 0, 0, cut32 (at_ + 4)⟩] := by unfold qTail; rw [if_neg hc, if_neg nt, if_neg h27, if_neg h40, if_pos hbr]
  have e1 : stepQ i at_ R M = some (R, if takenQ i.op (R i.d) (R i.a) = true then cut32 (at_ + 4 * i.imm) else cut32 (at_ + 4), M) := by
   unfold stepQ; rw [if_neg n10, if_neg hc, if_neg h41, if_neg h23, if_neg h24, if_neg h25, if_neg h26, if_neg h27, if_neg h40, if_pos hbr]
  rw [e1, e2, e3]
  obtain ⟨vs', a, b, t, c⟩ := test_eval (ats := ats) (k := k) (M := M) hi h hbr
  refine ⟨vs', a, b, ?_⟩
  show evalL ats (qTest i ++ [⟨23, 0, 20, 0, cut32 (at_ + 4 * i.imm)⟩, ⟨24, 0, 0, 0, cut32 (at_ + 4)⟩]) k vs M = _
  rw [c]
  by_cases ht : takenQ i.op (R i.d) (R i.a) = true
  ·rw [if_pos ht, evalL_exit (Or.inr ⟨rfl, t.2 ht⟩)]
  ·have hz : getV vs' 20 = 0 := Classical.byContradiction fun hne => ht (t.1 hne)
   rw [if_neg ht, evalL_go (by dsimp only; rintro (e | ⟨_, e⟩) <;> first | omega | exact e hz) (by dsimp only; omega) rfl, evalL_exit (Or.inl rfl)]
   rfl
 ·have e2 : qBody i at_ = [] := by
   unfold qBody; rw [if_neg hc, if_neg h41, if_neg h23, if_neg h24, if_neg h25, if_neg h26, if_neg h27, if_neg h40, if_neg hbr]
  have e3 : qTail i at_ = some [⟨22, 0, 0, 0, 0⟩] := by unfold qTail; rw [if_neg hc, if_neg nt, if_neg h27, if_neg h40, if_neg hbr]
  have e1 : stepQ i at_ R M = none := by
   unfold stepQ; rw [if_neg n10, if_neg hc, if_neg h41, if_neg h23, if_neg h24, if_neg h25, if_neg h26, if_neg h27, if_neg h40, if_neg hbr]
  rw [e1, e2, e3]
  intro l
  show evalL ats [⟨22, 0, 0, 0, 0⟩] k vs M = _
  rw [evalL_leave (by dsimp only; omega) (by dsimp only; omega) rfl]
  rfl
end
end Go.Proofs.YtnhdcclpjildjaaGreat
namespace Go.Proofs.YtnhdcclpjildjaaGreat
open Go.RowKit

abbrev outL (x : Outc) : List Value := .bool x.leaves :: intV x.index :: intV x.done :: .int .u32 x.pc :: u32L x.vars
abbrev outV (x : Outc) : Value := .agg (outL x).toArray
def EvalR (b : Blk) (vs : List Int) (n p : Nat) (M : MemP) (g : Nat) (gs : List Nat) (w : World) : Ending → World → Prop := fun e w' => e = .returned (outV (evalBlk b vs M).out) ∧ ObjsAt w' (g :: gs) (memS 0 n p (evalBlk b vs M).mem) ∧ GrownBys w w' (g :: gs)
theorem slOld_at {w0 : World} {G : Gs} {S : List Ow} {r : Env} {w : World} (hR : Rel w0 G S r w) {A : Option Addr} {xs : List Value} (h : SlOld w0 G A xs) : SlAt w w.heap.size A xs := fun j u hj => by
 obtain ⟨b, off, e1, e2, e3, e4⟩ := h j u hj
 exact ⟨b, off, e1, Nat.lt_of_lt_of_le e2 hR.size, (hR.oldCell e2 e3 _).trans e4⟩
theorem slOld_cells {w0 : World} {G : Gs} {A : Option Addr} {l : List BOp} (h : SlOld w0 G A (l.flatMap opC)) {j : Nat} {o : BOp} (hj : l[j]? = some o) : ∃ b off, A = some ⟨b, off, none⟩ ∧ CellsAt w0 G b (off + (j : Int).toNat * 5) (opC o) := by
 have at_ : ∀ k, k < 5 → (l.flatMap opC)[j * 5 + k]? = (opC o)[k]? := fun k hk => by
  have := ops_cut hj
  rw [← this, List.getElem?_take, if_pos hk, List.getElem?_drop]
 obtain ⟨b, off, e1, e2, e3, e4⟩ := h (j * 5 + 0) (.int .i64 o.code) (by rw [at_ 0 (by omega)]; rfl)
 refine ⟨b, off, e1, e2, e3, fun k u hk => ?_⟩
 have hk5 : k < 5 := by
  rcases Nat.lt_or_ge k 5 with h1 | h1
  ·exact h1
  ·rw [List.getElem?_eq_none (by simpa [opC] using h1)] at hk; cases hk
 obtain ⟨b', off', f1, _, _, f4⟩ := h (j * 5 + k) u (by rw [at_ k hk5]; exact hk)
 rw [e1] at f1; injection f1 with f1; injection f1 with f1 f2
 subst f1; subst f2
 rw [Int.toNat_natCast, Nat.add_assoc]; exact f4
theorem slOld_one {w0 : World} {G : Gs} {A : Option Addr} {xs : List Value} (h : SlOld w0 G A xs) {i : Int} (_hi : 0 ≤ i) {x : Value} (hx : xs[i.toNat]? = some x) : ∃ b off, A = some ⟨b, off, none⟩ ∧ CellsAt w0 G b (off + i.toNat * 1) [x] := by
 obtain ⟨b, off, e1, e2, e3, e4⟩ := h i.toNat x hx
 exact ⟨b, off, e1, cells_one e2 e3 (by rw [Nat.mul_one]; exact e4)⟩
theorem grp_T4 (g g1 g2 g3 g4 g5 n p : Nat) (M : MemP) (t1 t2 t3 t4 : TypeId) (us1 us2 us3 us4 : List Value) : grpOk ⟨[g, g1, g2, g3, g4, g5], []⟩ (memL 0 n p M [.cells t1 (us1.map .v), .cells t2 (us2.map .v), .cells t3 (us3.map .v), .cells t4 (us4.map .v)]) = true :=
 grp_memT g g1 g2 g3 g4 g5 n p M _ (by simp only [sbnd, Ow.bnd, bndL_vals])
theorem avals_vars (vs : List Int) : avals [.p (.agg (varsC vs))] = some [varsV vs] := by
 simp only [avals, AV.val, Pc.val, valL_vals]
theorem avals_op_vars (o : BOp) (vs : List Int) : avals [.p (.agg ((opC o).map .v)), .p (.agg (varsC vs))] = some [opV o, varsV vs] := by
 simp only [avals, AV.val, Pc.val, valL_vals]; rfl
theorem out_put {vs : List Int} (h : VarsOk vs) (c0 c1 c2 c3 : CV) (Z : List CV) (hZ : Z.length = 28) : setAll (c0 :: c1 :: c2 :: c3 :: Z) 4 (varsC vs) = c0 :: c1 :: c2 :: c3 :: varsC vs := by
 have := setAll_all (p := [c0, c1, c2, c3]) (l := Z) (m := varsC vs) (by rw [hZ, varsC_length h])
 exact this
theorem fill_of {P : Program} {S : List Ow} {f : Fr} {place : Nat → Option (Nat × Nat)} {parts : List (Nat × Operand)} {cells : List CV} {K : List CV → Prop} (m : List CV) (h : fillK P S f place parts cells = some m) (hK : K m) : (match fillK P S f place parts cells with | some m => K m | none => False) := by
 rw [h]; exact hK
abbrev outC (x : Outc) : List CV := (outL x).map .v
theorem outC_length {x : Outc} (h : VarsOk x.vars) : (outC x).length = 32 := by simp [h.len]
theorem onesL_out (S : List Ow) (x : Outc) : onesL S (outC x) = true := onesL_u32 S x.vars
theorem out_all {x : Outc} (h : VarsOk x.vars) (Z : List CV) (hZ : Z.length = 32) : setAll Z 0 (outC x) = outC x := setAll_same (by rw [hZ, outC_length h])
set_option maxRecDepth 100000
theorem atq_ret_then {w0 : World} {G : Gs} {N : Nd} {f : Fr} {S : List Ow} {Q : Exit → Act → World → Prop} {Q' : Act → World → Prop} (h : AtQ w0 G N .ret f S Q) : AtQ w0 G N .ret f S (Exit.then Q' Q) := ⟨fun a w hg => h.out a w hg⟩
theorem out_ret {w0 : World} {gs : List Nat} {n p : Nat} {f : Fr} {S : List Ow} {x : Outc} {M : MemP} {R : Ending → World → Prop} (hgs : gs.length = 6) (hx : VarsOk x.vars) (h6 : f.get 6 = .p (.c (.ref 8 0))) (h8 : S[8]? = some (.cells 55 (outC x))) (hS : ∀ (i : Nat) (o : Ow), (memS 0 n p M)[i]? = some o → S[i]? = some o)
  (hR : ∀ w', ObjsAt w' gs (memS 0 n p M) → GrownBys w0 w' gs → R (.returned (outV x)) w') : resK Tryz.prog w0 ⟨gs, []⟩ S f [.cell 6 55] fun v => Fin w0 ⟨gs, []⟩ S v R := by
 unfold resK resL resV
 dsimp only
 rw [h6]
 unfold loadK
 dsimp only
 rw [h8]
 conv => whnf
 erw [cut_all (outC_length hx)]
 conv => whnf
 exact fin_objs (U := memS 0 n p M) (val_agg _) hgs.symm hS (by rw [hgs]; exact memS_ob n p M) hR
set_option maxRecDepth 100000 in
set_option maxHeartbeats 1000000 in
theorem eval_walk (b : Blk) (vs : List Int) (n p : Nat) (M : MemP) (A1 A2 A3 : Option Addr) (c1 c2 c3 : Nat) (w : World) (g : Nat) (gs : List Nat) (hU : ObjsAt w (g :: gs) (memS 0 n p M)) (hM : M.ok n p) (hb : b.ok) (hv : validB b = true) (hvs : VarsOk vs)
  (h1 : SlOld w ⟨g :: gs, []⟩ A1 (b.at_.map (.int .u32))) (h2 : SlOld w ⟨g :: gs, []⟩ A2 (b.pages.map (.int .i64))) (h3 : SlOld w ⟨g :: gs, []⟩ A3 (b.ops.flatMap opC)) :
  Calls Tryz.prog 29 #[.agg #[.slice A1 b.at_.length c1, .slice A2 b.pages.length c2, .slice A3 b.ops.length c3], varsV vs, .pointer (some ⟨g, 0, none⟩)] w (EvalR b vs n p M g gs w) := by
 obtain ⟨g0, g1, g2, g3, g4, g5, hg⟩ := six_blocks hU
 injection hg with hg0 hgs
 subst hgs; subst hg0
 have hvl := varsC_length hvs
 have hz := zeroC_length
 have hlen := hb.lops
 have hforms := valid_formed hv
 refine calls_objs_satq [.p (.agg [.v (.slice A1 b.at_.length c1), .v (.slice A2 b.pages.length c2), .v (.slice A3 b.ops.length c3)]), AV.of (varsV vs), .p (.c (.ref 0 0))] [.agg #[.slice A1 b.at_.length c1, .slice A2 b.pages.length c2, .slice A3 b.ops.length c3], varsV vs, .pointer (some ⟨g, 0, none⟩)] Tryz.func29 Tryz.ntmps29 rfl (by simp) hU ⟨_, _, rfl, AV.of_den _ (.agg #[.slice A1 b.at_.length c1, .slice A2 b.pages.length c2, .slice A3 b.ops.length c3]), _, _, rfl, AV.of_den _ _, _, _, rfl, den_mk_ref rfl, rfl⟩ ?_
 refine satq_seq ?_
 conv => whnf
 refine satq_seq ?_
 conv => whnf
 refine call_con rfl (by kernel_rfl) (fun r w' hR => valid_ref A1 A2 A3 c1 c2 c3 b w' hb (slOld_at hR h2) (slOld_at hR h3)) ?_
 rw [valid_same, hv]
 conv => whnf
 refine satq_seq ?_
 conv => whnf
 refine ⟨fun h => absurd h (by decide), fun _ => ?_⟩
 conv => whnf
 refine satq_seq ?_
 conv => whnf
 erw [cut_all hvl]
 conv => whnf
 erw [beq_len hvl, onesL_u32]
 conv => whnf
 erw [ble_of (hvl.trans hz.symm)]
 conv => whnf
 erw [vars_put hvs _ hz]
 conv => whnf
 refine satq_seq ?_
 conv => whnf
 refine satq_in ?_
 refine satq_seq ?_
 conv => whnf
 refine satq_block ?_
 refine satq_loop (α := { y : Nat × Int × List Int × MemP // y.1 ≤ b.ops.length ∧ VarsOk y.2.2.1 ∧ y.2.2.2.ok n p ∧ EvAt b.at_.length (b.ops.drop y.1) y.2.1 ∧ evalL b.at_ (b.ops.drop y.1) y.2.1 y.2.2.1 y.2.2.2 = evalBlk b vs M })
  (fun y => [(2, .p (.c (.ref 0 0))), (3, .p (.c (.ref 6 0))), (6, .p (.c (.ref 8 0))), (8, .p (.c (.ref 9 0))), (9, one (.int .i64 y.1.2.1)), (10, one (.int .i64 (y.1.1 : Int)))])
  (fun y => memL 0 n p y.1.2.2.2 [.cells 32 [.v (.slice A1 b.at_.length c1), .v (.slice A2 b.pages.length c2), .v (.slice A3 b.ops.length c3)], .cells 53 (varsC vs), .cells 55 ((outL Outc.zero).map .v), .cells 53 (varsC y.1.2.2.1)]) (fun y => b.ops.length - y.1.1)
  ⟨(0, 0, vs, M), by show 0 ≤ _; omega, hvs, hM, by show EvAt _ (b.ops.drop 0) 0; exact evAt_start hv, by show evalL b.at_ (b.ops.drop 0) 0 vs M = _; unfold evalBlk; rw [if_pos hv]; rfl⟩
  (ent_same rfl (aI rfl (aI rfl (aI rfl (aI rfl (aI rfl (aI rfl trivial)))))) (aI sM (aI sM (aI sM (aI sM (aI sM (aI sM (aI sM (aI sM (aI sM (aI sM trivial))))))))))) fun y => ?_
 obtain ⟨⟨j, i, us, Q⟩, hj, hus, hQ, hat, hev⟩ := y
 dsimp only at hj hus hQ hat hev ⊢
 have hul := varsC_length hus
 refine satq_seq ?_
 conv => whnf
 refine ⟨fun hc => ?_, fun hc => ?_⟩
 ·have hlt : j < b.ops.length := by simpa using hc
  obtain ⟨o, ho⟩ : ∃ o, b.ops[j]? = some o := ⟨_, List.getElem?_eq_getElem hlt⟩
  obtain ⟨bo, off, rfl, hcell⟩ := slOld_cells h3 ho
  have hfo := hforms o (List.mem_of_getElem? ho)
  have hoo := hb.ops o (List.mem_of_getElem? ho)
  rw [drop_at ho] at hat hev
  have hat2 := evAt_step hat
  conv => whnf
  refine satq_mid (α := { y : Int × List Int × MemP // VarsOk y.2.1 ∧ y.2.2.ok n p ∧ EvAt b.at_.length (b.ops.drop (j + 1)) y.1 ∧ evalL b.at_ (b.ops.drop (j + 1)) y.1 y.2.1 y.2.2 = evalBlk b vs M })
   (fun y => [(2, .p (.c (.ref 0 0))), (3, .p (.c (.ref 6 0))), (6, .p (.c (.ref 8 0))), (8, .p (.c (.ref 9 0))), (9, one (.int .i64 y.1.1)), (10, one (.int .i64 (j : Int)))])
   (fun y => memL 0 n p y.1.2.2 [.cells 32 [.v (.slice A1 b.at_.length c1), .v (.slice A2 b.pages.length c2), .v (.slice (some ⟨bo, off, none⟩) b.ops.length c3)], .cells 53 (varsC vs), .cells 55 ((outL Outc.zero).map .v), .cells 53 (varsC y.1.2.1)]) ?_ fun y => ?_
  ·refine satq_block ?_
   refine satq_seq ?_
   conv => whnf
   refine ⟨⟨by omega, by omega⟩, ?_⟩
   conv => whnf
   refine ⟨opC o, hcell, rfl, ?_⟩
   conv => whnf
   refine satq_mid (α := Unit) (fun _ => [(2, .p (.c (.ref 0 0))), (3, .p (.c (.ref 6 0))), (6, .p (.c (.ref 8 0))), (8, .p (.c (.ref 9 0))), (9, one (.int .i64 (markI o i))), (10, one (.int .i64 (j : Int))), (11, .p (.c (.ref 10 0)))])
    (fun _ => memL 0 n p Q [.cells 32 [.v (.slice A1 b.at_.length c1), .v (.slice A2 b.pages.length c2), .v (.slice (some ⟨bo, off, none⟩) b.ops.length c3)], .cells 53 (varsC vs), .cells 55 ((outL Outc.zero).map .v), .cells 53 (varsC us), .cells 45 ((opC o).map .v)]) ?_ fun _ => ?_
   ·refine satq_vc ?_
    conv => whnf
    refine ⟨fun h => ?_, fun h => ?_⟩
    ·have hm : markI o i = o.n := if_pos (by simpa using h)
     have hn : 0 ≤ o.n ∧ o.n < 4294967296 := hoo.n
     conv => whnf
     refine ⟨o.n, wr64 (by omega), ?_⟩
     conv => whnf
     exact atq_mid () (ent_same rfl (aI rfl (aI rfl (aI rfl (aI rfl (aI ((congrArg (fun z => one (.int .i64 z)) hm.symm)) (aI rfl (aI rfl trivial))))))) (aI sM (aI sM (aI sM (aI sM (aI sM (aI sM (aI sM (aI sM (aI sM (aI sM (aI sM trivial))))))))))))
    ·have hm : markI o i = i := if_neg (by simpa using h)
     conv => whnf
     exact atq_mid () (ent_same rfl (aI rfl (aI rfl (aI rfl (aI rfl (aI ((congrArg (fun z => one (.int .i64 z)) hm.symm)) (aI rfl (aI rfl trivial))))))) (aI sM (aI sM (aI sM (aI sM (aI sM (aI sM (aI sM (aI sM (aI sM (aI sM (aI sM trivial))))))))))))
   refine satq_in ?_
   refine satq_mid (α := Unit) (fun _ => [(2, .p (.c (.ref 0 0))), (3, .p (.c (.ref 6 0))), (6, .p (.c (.ref 8 0))), (8, .p (.c (.ref 9 0))), (9, one (.int .i64 (markI o i))), (10, one (.int .i64 (j : Int))), (11, .p (.c (.ref 10 0))), (52, one (.bool (o.code == 24 || (o.code == 23 && getV us o.a != 0))))]) (fun _ => memL 0 n p Q [.cells 32 [.v (.slice A1 b.at_.length c1), .v (.slice A2 b.pages.length c2), .v (.slice (some ⟨bo, off, none⟩) b.ops.length c3)], .cells 53 (varsC vs), .cells 55 ((outL Outc.zero).map .v), .cells 53 (varsC us), .cells 45 ((opC o).map .v)]) ?_ fun _ => ?_
   ·refine satq_regionU ?_
    conv => whnf
    cases h : (o.code == 24) with
    | true =>
     repeat (first | (refine ⟨fun _ => ?_, (fun h => absurd h (by decide))⟩; (conv=>whnf)) | (refine ⟨(fun h => absurd h (by decide)), fun _ => ?_⟩; (conv=>whnf)))
     exact atq_mid () (ent_same rfl (aI rfl (aI rfl (aI rfl (aI rfl (aI rfl (aI rfl (aI rfl (aI rfl trivial)))))))) (aI sM (aI sM (aI sM (aI sM (aI sM (aI sM (aI sM (aI sM (aI sM (aI sM (aI sM trivial))))))))))))
    | false =>
     repeat (first | (refine ⟨fun _ => ?_, (fun h => absurd h (by decide))⟩; (conv=>whnf)) | (refine ⟨(fun h => absurd h (by decide)), fun _ => ?_⟩; (conv=>whnf)))
     cases h2 : (o.code == 23) with
     | true =>
      repeat (first | (refine ⟨fun _ => ?_, (fun h => absurd h (by decide))⟩; (conv=>whnf)) | (refine ⟨(fun h => absurd h (by decide)), fun _ => ?_⟩; (conv=>whnf)))
      refine ⟨⟨(formed_a hfo).1, by have := (formed_a hfo).2; omega⟩, ?_⟩
      conv => whnf
      repeat (first | (refine ⟨fun _ => ?_, (fun h => absurd h (by decide))⟩; (conv=>whnf)) | (refine ⟨(fun h => absurd h (by decide)), fun _ => ?_⟩; (conv=>whnf)))
      erw [var_at hus (formed_a hfo)]
      conv => whnf
      repeat (first | (refine ⟨fun _ => ?_, (fun h => absurd h (by decide))⟩; (conv=>whnf)) | (refine ⟨(fun h => absurd h (by decide)), fun _ => ?_⟩; (conv=>whnf)))
      exact atq_mid () (ent_same rfl (aI rfl (aI rfl (aI rfl (aI rfl (aI rfl (aI rfl (aI rfl (aI rfl trivial)))))))) (aI sM (aI sM (aI sM (aI sM (aI sM (aI sM (aI sM (aI sM (aI sM (aI sM (aI sM trivial))))))))))))
     | false =>
      repeat (first | (refine ⟨fun _ => ?_, (fun h => absurd h (by decide))⟩; (conv=>whnf)) | (refine ⟨(fun h => absurd h (by decide)), fun _ => ?_⟩; (conv=>whnf)))
      exact atq_mid () (ent_same rfl (aI rfl (aI rfl (aI rfl (aI rfl (aI rfl (aI rfl (aI rfl (aI rfl trivial)))))))) (aI sM (aI sM (aI sM (aI sM (aI sM (aI sM (aI sM (aI sM (aI sM (aI sM (aI sM trivial))))))))))))
   have hgu := guests_ok hus
   have hgl := varsC_length hgu
   have hcond : (o.code == 24 || (o.code == 23 && getV us o.a != 0)) = true ↔ (o.code = 24 ∨ (o.code = 23 ∧ getV us o.a ≠ 0)) := by simp
   refine satq_cond rfl (fun ht => ?_) (fun ht => satq_skip (atq_on ?_))
   ·have hev2 := (evalL_exit (ats := b.at_) (l := b.ops.drop (j + 1)) (i := i) (M := Q) (hcond.1 ht)).symm.trans hev
    refine satq_vc ?_
    refine sat_tail 8 mixed (by kernel_rfl) ?_
    conv => whnf
    erw [cut_all hul]
    conv => whnf
    refine q_con (xs := [varsV us]) (x := varsV (guestsL us)) (avals_vars us) (by kernel_rfl) (fun r w' hR => guests_walk us w' hus.len) ?_
    conv => whnf
    refine fill_of (outC ⟨false, 0, b.at_.length, o.n, guestsL us⟩) ?_ ?_
    ·conv => lhs; whnf
     erw [beq_len hgl]
     conv => lhs; whnf
     exact congrArg some (out_put hgu _ _ _ _ _ rfl)
    conv => whnf
    erw [beq_len (outC_length (x := ⟨false, 0, b.at_.length, o.n, guestsL us⟩) hgu), onesL_out]
    conv => whnf
    erw [ble_of (outC_length (x := ⟨false, 0, b.at_.length, o.n, guestsL us⟩) hgu)]
    conv => whnf
    erw [out_all (x := ⟨false, 0, b.at_.length, o.n, guestsL us⟩) hgu _ rfl]
    refine atq_ret_then (atq_ret_block (atq_ret_mid (atq_ret_round (atq_ret_block (atq_ret_then (atq_ret (out_ret (x := ⟨false, 0, b.at_.length, o.n, guestsL us⟩) (M := Q) rfl hgu rfl rfl memL_sub fun w' k1 k2 => ?_)))))))
    unfold EvalR
    rw [← hev2]
    exact ⟨rfl, k1, k2⟩
   have hne : ¬ (o.code = 24 ∨ (o.code = 23 ∧ getV us o.a ≠ 0)) := fun h => by rw [hcond.2 h] at ht; cases ht
   refine satq_in ?_
   refine satq_seq ?_
   conv => whnf
   refine satq_cond rfl (fun h25 => ?_) (fun h25 => satq_skip (atq_on ?_))
   ·have hev2 := (evalL_var (ats := b.at_) (l := b.ops.drop (j + 1)) (i := i) (vs := us) (M := Q) (o := o) (by simpa using h25)).symm.trans hev
    refine satq_vc ?_
    refine sat_tail 10 mixed (by kernel_rfl) ?_
    conv => whnf
    refine ⟨⟨(formed_a hfo).1, by have := (formed_a hfo).2; omega⟩, ?_⟩
    conv => whnf
    erw [var_at hus (formed_a hfo)]
    conv => whnf
    erw [cut_all hul]
    conv => whnf
    refine q_con (xs := [varsV us]) (x := varsV (guestsL us)) (avals_vars us) (by kernel_rfl) (fun r w' hR => guests_walk us w' hus.len) ?_
    conv => whnf
    refine fill_of (outC ⟨false, 0, b.at_.length, getV us o.a, guestsL us⟩) ?_ ?_
    ·conv => lhs; whnf
     erw [beq_len hgl]
     conv => lhs; whnf
     exact congrArg some (out_put hgu _ _ _ _ _ rfl)
    conv => whnf
    erw [beq_len (outC_length (x := ⟨false, 0, b.at_.length, getV us o.a, guestsL us⟩) hgu), onesL_out]
    conv => whnf
    erw [ble_of (outC_length (x := ⟨false, 0, b.at_.length, getV us o.a, guestsL us⟩) hgu)]
    conv => whnf
    erw [out_all (x := ⟨false, 0, b.at_.length, getV us o.a, guestsL us⟩) hgu _ rfl]
    refine atq_ret_then (atq_ret_block (atq_ret_mid (atq_ret_round (atq_ret_block (atq_ret_then (atq_ret (out_ret (x := ⟨false, 0, b.at_.length, getV us o.a, guestsL us⟩) (M := Q) rfl hgu rfl rfl memL_sub fun w' k1 k2 => ?_)))))))
    unfold EvalR
    rw [← hev2]
    exact ⟨rfl, k1, k2⟩
   have hn25 : o.code ≠ 25 := by simpa using h25
   obtain ⟨⟨us2, st, Q2⟩, hA⟩ : ∃ r, r = applyP o us Q := ⟨_, rfl⟩
   have hus2 : VarsOk us2 := by have := applyP_ok (M := Q) hus hoo.n; rw [← hA] at this; exact this
   have hQ2 : Q2.ok n p := by have := applyP_mem (o := o) hQ hus; rw [← hA] at this; exact this
   have hul2 := varsC_length hus2
   refine satq_seq ?_
   conv => whnf
   erw [cut_all hul]
   conv => whnf
   refine call_memW (pre := [.p (.agg ((opC o).map .v)), .p (.agg (varsC us))]) (suf := []) 0 n p Q Q2 (.tuple #[varsV us2, .bool st]) memL_six (avals_op_vars o us) rfl (by kernel_rfl) (fun w' g gs hk hU => by
    have := apply_walk o us n p Q w' g gs hU hQ hfo hoo hus
    unfold ApplyR at this
    rw [← hA] at this
    exact this) ?_
   conv => whnf
   erw [beq_len hul2, onesL_u32]
   conv => whnf
   erw [ble_of (hul2.trans hz.symm)]
   conv => whnf
   erw [vars_put hus2 _ hz]
   conv => whnf
   refine satq_in ?_
   refine satq_seq ?_
   conv => whnf
   refine satq_cond rfl (fun hst => ?_) (fun hst => satq_skip (atq_on ?_))
   ·have hst' : st = false := by simpa using hst
    obtain ⟨hi0, hi1⟩ : 0 ≤ markI o i ∧ markI o i < b.at_.length := by obtain ⟨_, _, _, _, h0, h1⟩ := hat2; exact ⟨h0, h1⟩
    obtain ⟨y, hy⟩ : ∃ y, b.at_[(markI o i).toNat]? = some y := ⟨_, List.getElem?_eq_getElem (by omega)⟩
    obtain ⟨ba, offa, rfl, hca⟩ := slOld_one h1 hi0 (x := .int .u32 y) (by rw [List.getElem?_map, hy]; rfl)
    have hev2 := (evalL_leave (ats := b.at_) (l := b.ops.drop (j + 1)) (i := i) (vs := us) (M := Q) (o := o) hne hn25 (by rw [← hA]; exact hst')).symm.trans hev
    rw [← hA, hy] at hev2
    refine satq_vc ?_
    refine sat_tail 10 mixed (by kernel_rfl) ?_
    conv => whnf
    refine ⟨⟨hi0, hi1⟩, ?_⟩
    conv => whnf
    refine ⟨_, hca, ?_⟩
    conv => whnf
    erw [cut_all hul]
    conv => whnf
    refine q_con (xs := [varsV us]) (x := varsV (guestsL us)) (avals_vars us) (by kernel_rfl) (fun r w' hR => guests_walk us w' hus.len) ?_
    conv => whnf
    refine fill_of (outC ⟨true, markI o i, markI o i, y, guestsL us⟩) ?_ ?_
    ·conv => lhs; whnf
     erw [beq_len hgl]
     conv => lhs; whnf
     exact congrArg some (out_put hgu _ _ _ _ _ rfl)
    conv => whnf
    erw [beq_len (outC_length (x := ⟨true, markI o i, markI o i, y, guestsL us⟩) hgu), onesL_out]
    conv => whnf
    erw [ble_of (outC_length (x := ⟨true, markI o i, markI o i, y, guestsL us⟩) hgu)]
    conv => whnf
    erw [out_all (x := ⟨true, markI o i, markI o i, y, guestsL us⟩) hgu _ rfl]
    refine atq_ret_then (atq_ret_block (atq_ret_mid (atq_ret_round (atq_ret_block (atq_ret_then (atq_ret (out_ret (x := ⟨true, markI o i, markI o i, y, guestsL us⟩) (M := Q2) rfl hgu rfl rfl memL_sub fun w' k1 k2 => ?_)))))))
    unfold EvalR
    rw [← hev2]
    exact ⟨rfl, k1, k2⟩
   have hst' : st = true := by simpa using hst
   have hev2 := (evalL_go (ats := b.at_) (l := b.ops.drop (j + 1)) (i := i) (vs := us) (M := Q) (o := o) hne hn25 (by rw [← hA]; exact hst')).symm.trans hev
   rw [← hA] at hev2
   refine satq_vc ?_
   conv => whnf
   erw [cut_all hul2]
   conv => whnf
   erw [beq_len hul2, onesL_u32]
   conv => whnf
   erw [ble_of (hul2.trans hul.symm)]
   conv => whnf
   erw [vars_put hus2 _ hul]
   conv => whnf
   erw [var_ble8 hus]
   conv => whnf
   exact atq_block (atq_mid ⟨(markI o i, us2, Q2), hus2, hQ2, hat2, hev2⟩ (ent_drop (aI rfl (aI rfl (aI rfl (aI rfl (aI rfl (aI rfl trivial)))))) (aI sM (aI sM (aI sM (aI sM (aI sM (aI sM (aI sM (aI sM (aI sM (aI sM trivial)))))))))) rfl (grp_T4 _ _ _ _ _ _ _ _ _ _ _ _ _ [.slice A1 b.at_.length c1, .slice A2 b.pages.length c2, .slice (some ⟨bo, off, none⟩) b.ops.length c3] _ _ _)))
  ·obtain ⟨⟨i2, us2, Q2⟩, hus2, hQ2, hat3, hev2⟩ := y
   dsimp only at hus2 hQ2 hat3 hev2 ⊢
   refine satq_vc ?_
   conv => whnf
   refine ⟨_, wr64 (by omega), ?_⟩
   conv => whnf
   exact atq_next ⟨(j + 1, i2, us2, Q2), by show j + 1 ≤ _; omega, hus2, hQ2, hat3, hev2⟩ (ent_same rfl (aI rfl (aI rfl (aI rfl (aI rfl (aI rfl (aI rfl trivial)))))) (aI sM (aI sM (aI sM (aI sM (aI sM (aI sM (aI sM (aI sM (aI sM (aI sM trivial))))))))))) (by show b.ops.length - (j + 1) < b.ops.length - j; omega)
 ·have hje : j = b.ops.length := by simp at hc; omega
  rw [hje, List.drop_length] at hev
  conv => whnf
  refine atq_out (atq_exit (atq_on ?_))
  refine satq_vc ?_
  conv => whnf
  refine atq_ret (out_ret (x := Outc.zero) (M := Q) rfl ⟨rfl, fun x hx => by rw [List.eq_of_mem_replicate hx]; exact word0⟩ rfl rfl memL_sub fun w' k1 k2 => ?_)
  unfold EvalR
  rw [← hev]
  exact ⟨rfl, k1, k2⟩
end Go.Proofs.YtnhdcclpjildjaaGreat
namespace Go.Proofs.YtnhdcclpjildjaaGreat
open Go.RowKit

abbrev keepS (l l' : List Slt) : Prop := l'.length = l.length ∧ ∀ k : Nat, (l'[k]?).map (fun s => (s.r, s.oc)) = (l[k]?).map fun s => (s.r, s.oc)
theorem keepS.refl (l : List Slt) : keepS l l := ⟨rfl, fun _ => rfl⟩
theorem keepS.trans {l l' l2 : List Slt} (h : keepS l l') (k : keepS l' l2) : keepS l l2 := ⟨k.1.trans h.1, fun i => (k.2 i).trans (h.2 i)⟩
def FrameT (w w' : World) : Prop := ∀ (b : Nat) (us : Array Value) (t : TypeId), w.heap[b]? = some (.cells us t (0, 0)) → t ≠ 168 → t ≠ 166 → w'.heap[b]? = w.heap[b]?
theorem FrameT.of {w w' : World} (h : Below w.heap.size w w') : FrameT w w' := fun b _us _t hb _ _ => h.block b (heap_lt hb)
theorem FrameT.trans {a b c : World} (h : FrameT a b) (k : FrameT b c) : FrameT a c := fun i us t hi h1 h2 => by
 have e := h i us t hi h1 h2
 exact (k i us t (e.trans hi) h1 h2).trans e
theorem FrameT.grown {w w' : World} {g : Nat} {us : Array Value} {t : TypeId} (hg : w.grownBy w' (some g)) (h : w.heap[g]? = some (.cells us t (0, 0))) (ht : t = 168 ∨ t = 166) : FrameT w w' := fun b vs t' hb h1 h2 => hg.block b (heap_lt hb) (by
 intro e
 injection e with e
 subst e
 rw [h] at hb
 injection hb with hb
 injection hb with _ hb
 subst hb
 rcases ht with ht | ht
 ·exact h1 ht
 ·exact h2 ht)
section
variable {w w' : World} {B m sb : Nat} {l : List Slt} {img : Nat → List Int}
end
end Go.Proofs.YtnhdcclpjildjaaGreat
