/- Lists of operations, code, functions, over states that are known part by part. Plain: a list turned about in place; the dead operations. Plain: the operations of an instruction, checked one after the other. Plain: the program's check of validity and the reference's agree. Lists of operations with '&&' and '||'; code; loops; functions. The optimizer as plain functions: the passes until nothing changes. -/
import Derived.Test.YtmjfgnnefcimiaaM1
import Derived.Test.YtmjfgnnefcimiaaM14
import Derived.Test.YtmjfgnnefcimiaaM16
import Derived.Test.YtmjfgnnefcimiaaM17
import Derived.Test.YtmjfgnnefcimiaaM3
import Derived.Test.YtmjfgnnefcimiaaM4
import Derived.Test.YtmjfgnnefcimiaaM5
import Derived.Test.YtmjfgnnefcimiaaM6
import Derived.Test.YtmjfgnnefcimiaaM7
namespace Go.Proofs.Ytmjfgnnefcimiaa
open Go.RowKit

def slotOf (ops : Array Oper) (j : Nat) : Option Nat := (ops[j]?).bind (·.dst)
def sameG (j : Nat) (pol : Bool) (o : Oper) : Bool := match o.guard with
  | some (i, p) => (match Nat.beq i j with | true => p == pol | false => false)
  | none => false
def spanG (j : Nat) (pol : Bool) : List Oper → List Oper × List Oper
  | [] => ([], [])
  | o :: l => match sameG j pol o with | true => (o :: (spanG j pol l).1, (spanG j pol l).2) | false => ([], o :: l)
theorem spanG_append (j : Nat) (pol : Bool) : ∀ l : List Oper, (spanG j pol l).1 ++ (spanG j pol l).2 = l
  | [] => rfl
  | o :: l => by unfold spanG; split <;> simp [spanG_append j pol l]
theorem spanG_all (j : Nat) (pol : Bool) : ∀ (l : List Oper), ∀ o ∈ (spanG j pol l).1, o.guard = some (j, pol)
  | [], o, h => by cases h
  | x :: l, o, h => by
    unfold spanG at h
    split at h
    · rename_i hs
      rcases List.mem_cons.1 h with rfl | h
      · unfold sameG at hs
        split at hs
        · rename_i i p hg
          split at hs
          · rename_i hi
            have := Nat.eq_of_beq_eq_true hi
            rw [hg, this]; simp at hs; rw [hs]
          · cases hs
        · cases hs
      · exact spanG_all j pol l o h
    · cases h
/-- What closes '&&' and '||': the slot of the second operand. -/
def pickOf (p : Oper) (d : Nat) (pol : Bool) : Option Nat := match p.guard with
  | some _ => none
  | none => (match p.op with
    | .pick (.tmp c) (.tmp b) (.const (.bool false)) => (match Nat.beq c d with | true => (match pol with | true => some b | false => none) | false => none)
    | .pick (.tmp c) (.const (.bool true)) (.tmp b) => (match Nat.beq c d with | true => (match pol with | false => some b | true => none) | false => none)
    | _ => none)
def cmb (pol x y : Bool) : Bool := match pol with | true => x && y | false => x || y
def putsAny : List Oper → Fr → Fr
  | [], f => f
  | o :: l, f => putsAny l (f.put o.dst (.p (.c .any)))
def putsAnyK : List Oper → Fr → (Fr → Prop) → Prop
  | [], f, K => K f
  | o :: l, f, K => f.putK o.dst (.p (.c .any)) fun f' => putsAnyK l f' K
theorem putsAnyK_iff : ∀ {l : List Oper} {f : Fr} {K : Fr → Prop}, putsAnyK l f K ↔ K (putsAny l f)
  | [], _, _ => Iff.rfl
  | o :: l, f, K => by unfold putsAnyK; rw [putK_iff, putsAnyK_iff]; rfl
def dstsOf : List Oper → List Nat
  | [] => []
  | o :: l => match o.dst with | some d => d :: dstsOf l | none => dstsOf l
def memN (d : Nat) : List Nat → Bool
  | [] => false
  | x :: l => match Nat.beq x d with | true => true | false => memN d l
/-- f' is f with slots of the list put on top. -/
def onTop (ds : List Nat) (f : Fr) : Nat → Fr → Prop
  | 0, f' => f' = f
  | _n + 1, [] => False
  | n + 1, (d, _) :: f' => match memN d ds with | true => onTop ds f n f' | false => False
def allDst (N : Nat) : List Oper → Bool
  | [] => true
  | o :: l => match dstOk N o.dst with | true => allDst N l | false => false
def putN : List Oper → Nat
  | [] => 0
  | o :: l => match o.dst with | some _ => putN l + 1 | none => putN l

def Ow.bnd (n : Nat) : Ow → Bool
  | .cells _ l => bndL n l
  | _ => true
def sbnd (n : Nat) : List Ow → Bool
  | [] => true
  | o :: S => match o.bnd n with | true => sbnd n S | false => false
/-- The own entries name none but these, and the first ones are among them. -/
def grpOk (G : Gs) (S : List Ow) : Bool := match Nat.ble G.fix.length S.length with | true => sbnd S.length S | false => false
section
variable (P : Program) (w0 : World) (G : Gs) (N : Nd)
def seqK (d : Nat) (pol : Bool) : List Oper → Fr → List Ow → (Fr → List Ow → Prop) → Prop
  | [], f, S, K => K f S
  | o :: l, f, S, K => match f.get d with
    | .p (.c (.v (.bool y))) => (match y == pol with | true => opK P w0 G N o f S fun f' S' => seqK d pol l f' S' K | false => False)
    | _ => False
def opsK (ops : Array Oper) : Nat → List Oper → Fr → List Ow → (Fr → List Ow → Prop) → Prop
  | _, [], f, S, K => K f S
  | 0, _ :: _, _, _, _ => False
  | n + 1, o :: rest, f, S, K => match o.guard with
    | none => opK P w0 G N o f S fun f' S' => opsK ops n rest f' S' K
    | some (j, pol) => (match slotOf ops j with
      | none => False
      | some d => (match f.get d with
        | .p (.c (.v (.bool x))) => (match spanG j pol (o :: rest) with
          | (grp, p :: rem) => (match pickOf p d pol with
            | some b => (match allDst N.n grp, dstOk N.n p.dst, memN d (dstsOf grp) with
              | true, true, false => ∃ y : Bool, (x = pol → seqK P w0 G N d pol grp ((d, one (.bool pol)) :: f) S fun f' S' => onTop (dstsOf grp) ((d, one (.bool pol)) :: f) (putN grp) f' ∧ S'.take S.length = S ∧ f'.get b = one (.bool y) ∧ f.bnd S.length = true ∧ grpOk G S = true) ∧
                  putsAnyK grp f fun f' => f'.putK p.dst (one (.bool (cmb pol x y))) fun f' => opsK ops n rem f' S K
              | _, _, _ => False)
            | none => (x = pol → opK P w0 G N o ((d, one (.bool pol)) :: f) S fun f' S' => opsK ops n rest f' S' K) ∧
                (x = (!pol) → match dstOk N.n o.dst with | true => (Fr.putK ((d, one (.bool (!pol))) :: f) o.dst (.p (.c .any)) fun f' => opsK ops n rest f' S K) | false => False))
          | _ => (x = pol → opK P w0 G N o ((d, one (.bool pol)) :: f) S fun f' S' => opsK ops n rest f' S' K) ∧
                (x = (!pol) → match dstOk N.n o.dst with | true => (Fr.putK ((d, one (.bool (!pol))) :: f) o.dst (.p (.c .any)) fun f' => opsK ops n rest f' S K) | false => False))
        | _ => False))
end
section
variable {P : Program} {w0 : World} {G : Gs} {N : Nd} {ops : Array Oper}
theorem yielded_of {r : Env} {f : Fr} {a : Act} (hf : FDen r f a) {j d : Nat} (hs : slotOf ops j = some d) {x : Bool} (hx : f.get d = one (.bool x)) : yielded ops a.tmps j = some x := by
  have h := hf d
  rw [hx] at h
  have h := den_v h
  unfold yielded
  unfold slotOf at hs
  rw [hs]
  have : a.tmps[d]? = some (.bool x) := by
    rw [Array.getD_eq_getD_getElem?] at h
    cases hd : a.tmps[d]? with
    | none => rw [hd] at h; simp [undef] at h
    | some v => rw [hd] at h; simp at h; rw [h]
  simp [this]
theorem wanted_none {o : Oper} (h : o.guard = none) (y : Nat → Option Bool) : Region.wanted o y = true := by simp [Region.wanted, h]
theorem wanted_some {o : Oper} {j : Nat} {pol : Bool} (h : o.guard = some (j, pol)) (y : Nat → Option Bool) : Region.wanted o y = (y j == some pol) := by simp [Region.wanted, h]
theorem step_do {o : Oper} {rest : List Oper} {Q : Act → World → Prop} {a : Act} {w : World} (hw : Region.wanted o (yielded ops a.tmps) = true) (h : Oper.se P o a w (seL P ops Q rest)) : seL P ops Q (o :: rest) a w := by
  unfold seL; rw [if_pos hw]; exact h
theorem step_not {o : Oper} {rest : List Oper} {Q : Act → World → Prop} {a : Act} {w : World} (hw : Region.wanted o (yielded ops a.tmps) = false) (h : seL P ops Q rest (a.put o.dst undef) w) : seL P ops Q (o :: rest) a w := by
  unfold seL; rw [if_neg (by rw [hw]; simp)]; exact h
theorem get_cons_self (d : Nat) (x : AV) (f : Fr) : Fr.get ((d, x) :: f) d = x := by simp [Fr.get]
theorem Good.known {f : Fr} {S : List Ow} {a : Act} {w : World} (h : Good w0 G N f S a w) {d : Nat} {x : AV} (hx : f.get d = x) : Good w0 G N ((d, x) :: f) S a w := by
  obtain ⟨r, hR, hf, hN, hd⟩ := h
  refine ⟨r, hR, fun k => ?_, hN, hd⟩
  simp only [Fr.get]
  split
  · rename_i hk; have := Nat.eq_of_beq_eq_true hk; subst this; rw [← hx]; exact hf d
  · exact hf k
theorem seqK_sound {d : Nat} {pol : Bool} {j : Nat} (hs : slotOf ops j = some d) {Q : Act → World → Prop} {rest : List Oper} : ∀ (l : List Oper) (f : Fr) (S : List Ow) (K : Fr → List Ow → Prop), (∀ o ∈ l, o.guard = some (j, pol)) → seqK P w0 G N d pol l f S K →
    (∀ f' S' a' w', K f' S' → Good w0 G N f' S' a' w' → seL P ops Q rest a' w') → ∀ a w, Good w0 G N f S a w → seL P ops Q (l ++ rest) a w
  | [], f, S, K, _, h, hK, a, w, hg => hK _ _ _ _ h hg
  | o :: l, f, S, K, hgd, h, hK, a, w, hg => by
    unfold seqK at h
    split at h
    · rename_i y hy
      split at h
      · rename_i hyp
        have hyp : y = pol := by simpa using hyp
        subst hyp
        obtain ⟨r, hR, hf, hN, hd⟩ := hg
        refine step_do ?_ ((opK_sound h).out r a w hR hf hN hd _ (fun _ _ _ => True) fun f' S' a' w' hk hg' => seqK_sound hs l f' S' K (fun o ho => hgd o (List.mem_cons_of_mem _ ho)) hk hK a' w' hg')
        rw [wanted_some (hgd o (List.mem_cons_self ..)), yielded_of hf hs hy]; simp
      · exact h.elim
    · exact h.elim
theorem memN_not {d : Nat} : ∀ {l : List Nat}, memN d l = false → d ∉ l
  | [], _ => by simp
  | x :: l, h => by
    unfold memN at h
    split at h
    · cases h
    · rename_i hx
      intro hm
      rcases List.mem_cons.1 hm with rfl | hm
      · simp at hx
      · exact memN_not h hm
theorem memN_mem {d : Nat} : ∀ {l : List Nat}, memN d l = true → d ∈ l
  | [], h => by cases h
  | x :: l, h => by
    unfold memN at h
    split at h
    · rename_i hx; rw [Nat.eq_of_beq_eq_true hx]; exact List.mem_cons_self ..
    · exact List.mem_cons_of_mem _ (memN_mem h)
theorem onTop_get {ds : List Nat} {f : Fr} : ∀ (n : Nat) (f' : Fr), onTop ds f n f' → ∀ k, k ∉ ds → f'.get k = f.get k
  | 0, f', h, k, _ => by rw [show f' = f from h]
  | n + 1, [], h, k, _ => h.elim
  | n + 1, (d, x) :: f', h, k, hk => by
    simp only [onTop] at h
    split at h
    · rename_i hm
      simp only [Fr.get]
      split
      · rename_i hdk
        have := Nat.eq_of_beq_eq_true hdk; subst this
        exact absurd (memN_mem hm) hk
      · exact onTop_get n f' h k hk
    · exact h.elim
theorem putsAny_get : ∀ (l : List Oper) (f : Fr) (k : Nat), (putsAny l f).get k = .p (.c .any) ∨ ((putsAny l f).get k = f.get k ∧ k ∉ dstsOf l)
  | [], f, k => .inr ⟨rfl, by simp [dstsOf]⟩
  | o :: l, f, k => by
    simp only [putsAny, dstsOf]
    rcases putsAny_get l (f.put o.dst (.p (.c .any))) k with h | ⟨h1, h2⟩
    · exact .inl h
    · cases ho : o.dst with
      | none => rw [ho] at h1; simp only [Fr.put] at h1; right; exact ⟨by simpa only [ho, Fr.put] using h1, h2⟩
      | some d =>
        rw [ho] at h1
        simp only [Fr.put, Fr.get] at h1
        split at h1
        · left; simpa only [ho, Fr.put] using h1
        · rename_i hdk
          right
          refine ⟨by simpa only [ho, Fr.put] using h1, fun hm => ?_⟩
          rcases List.mem_cons.1 hm with rfl | hm
          · simp at hdk
          · exact h2 hm
theorem putsAny_far : ∀ (l : List Oper) (f : Fr) (k : Nat), k ∉ dstsOf l → (putsAny l f).get k = f.get k
  | [], f, k, _ => rfl
  | o :: l, f, k, h => by
    simp only [putsAny, dstsOf] at h ⊢
    cases ho : o.dst with
    | none => rw [ho] at h; rw [putsAny_far l _ k h]; rfl
    | some d =>
      rw [ho] at h
      rw [putsAny_far l _ k (fun hm => h (List.mem_cons_of_mem _ hm))]
      simp only [Fr.put, Fr.get]
      split
      · rename_i hd; exact absurd (Nat.eq_of_beq_eq_true hd).symm (fun e => h (by rw [e]; exact List.mem_cons_self ..))
      · rfl
/-- The environment cut off behind n entries. -/
def Env.upto (n : Nat) (r : Env) : Env := ⟨fun i => if i < n then r.blk i else none, fun i => if i < n then r.val i else none⟩
theorem Env.upto_blk (n : Nat) (r : Env) : ∀ k b, (r.upto n).blk k = some b → r.blk k = some b := fun k b h => by
  simp only [Env.upto] at h
  split at h
  · exact h
  · cases h
theorem Env.upto_agree (n : Nat) (r : Env) : r.agree n (r.upto n) := fun i hi => by simp [Env.upto, hi]
theorem Ow.holds_agree {n i : Nat} {r r' : Env} {w : World} {o : Ow} (h : o.holds r w i) (ha : r.agree n r') (hb : o.bnd n = true) (hi : i < n) (hs : ∀ k b, r'.blk k = some b → r.blk k = some b) : o.holds r' w i := by
  cases o with
  | cells t l => obtain ⟨b, us, h1, h2, h3⟩ := h; exact ⟨b, us, by rw [← (ha i hi).1]; exact h1, h2, denL_agree ha _ _ hb h3⟩
  | row e size m xs => obtain ⟨v, h1, h2, h3⟩ := h; exact ⟨v, by rw [← (ha i hi).2]; exact h1, by rw [← (ha i hi).1]; exact h2, h3⟩
  | ext φ => obtain ⟨b, h1, h2⟩ := h; exact ⟨b, by rw [← (ha i hi).1]; exact h1, h2⟩
  | view φ n xs =>
    obtain ⟨A, c, h1, h2, h3, h4, h5⟩ := h
    refine ⟨A, c, by rw [← (ha i hi).2]; exact h1, h2, h3, by rw [← (ha i hi).1]; exact h4, fun j u hj => ?_⟩
    obtain ⟨b, off, h6, h7, h8, h9⟩ := h5 j u hj
    exact ⟨b, off, h6, h7, fun k hk => h8 k (hs k b hk), h9⟩
  | gone => trivial
theorem Rel.upto {S S' : List Ow} {r : Env} {w : World} (h : Rel w0 G S r w) {n : Nat} (hn : S'.length = n) (_hnS : n ≤ S.length) (hG : G.fix.length ≤ n) (hS : ∀ (i : Nat) (o : Ow), S'[i]? = some o → o.holds (r.upto n) w i) : Rel w0 G S' (r.upto n) w := by
  refine ⟨h.os, h.tape, h.output, h.size, h.old, hS, fun i j b hi hj => ?_, fun i b hi => ?_, fun i hi => ?_, fun i hi => ?_, fun i g hg => ?_⟩
  · simp only [Env.upto] at hi hj
    split at hi <;> split at hj <;> first | cases hi | cases hj | exact h.inj i j b hi hj
  · simp only [Env.upto] at hi
    split at hi
    · exact h.new i b hi
    · cases hi
  · simp only [Env.upto]; rw [if_neg (by omega)]
  · simp only [Env.upto]; rw [if_neg (by omega)]
  · simp only [Env.upto]
    have : i < G.fix.length := by
      rcases Nat.lt_or_ge i G.fix.length with h1 | h1
      · exact h1
      · rw [List.getElem?_eq_none h1] at hg; cases hg
    rw [if_pos (by omega)]; exact h.first i g hg
theorem allDst_put : ∀ (l : List Oper), allDst N.n l = true → ∀ {f : Fr} {S : List Ow} {a : Act} {w : World} {j : Nat} {pol x : Bool} {Q : Act → World → Prop} {rest : List Oper} {d : Nat}, slotOf ops j = some d → (∀ o ∈ l, o.guard = some (j, pol)) → x ≠ pol → f.get d = one (.bool x) → d ∉ dstsOf l →
    Good w0 G N f S a w → (∀ a', Good w0 G N (putsAny l f) S a' w → seL P ops Q rest a' w) → seL P ops Q (l ++ rest) a w
  | [], _, f, S, a, w, j, pol, x, Q, rest, d, _, _, _, _, _, hg, h => h a hg
  | o :: l, hD, f, S, a, w, j, pol, x, Q, rest, d, hs, hgd, hx, hfx, hnd, hg, h => by
    simp only [allDst] at hD
    split at hD
    · rename_i ho
      obtain ⟨r, hR, hf, hN, hd⟩ := hg
      refine step_not ?_ ?_
      · rw [wanted_some (hgd o (List.mem_cons_self ..)), yielded_of hf hs hfx]; simpa using hx
      · have hnd' : d ∉ dstsOf l ∧ ∀ e, o.dst = some e → d ≠ e := by
          simp only [dstsOf] at hnd
          cases hod : o.dst with
          | none => rw [hod] at hnd; exact ⟨hnd, nofun⟩
          | some e => rw [hod] at hnd; exact ⟨fun h => hnd (List.mem_cons_of_mem _ h), fun e' he => by injection he with he; subst he; rintro rfl; exact hnd (List.mem_cons_self ..)⟩
        refine allDst_put l hD hs (fun o ho => hgd o (List.mem_cons_of_mem _ ho)) hx (f := f.put o.dst (.p (.c .any))) ?_ hnd'.1 ⟨r, hR, hf.putAny undef (by rw [hN]; exact ho), (put_size a _ _).trans hN, (put_defers a _ _).trans hd⟩ h
        cases hod : o.dst with
        | none => simpa [Fr.put, hod] using hfx
        | some e =>
          have := hnd'.2 e hod
          simp only [Fr.put, Fr.get]
          split
          · rename_i he; exact absurd (Nat.eq_of_beq_eq_true he).symm this
          · exact hfx
    · cases hD
theorem pick_run {p : Oper} {d b : Nat} {pol x y : Bool} (hp : pickOf p d pol = some b) {a : Act} (hd : a.eval (.tmp d) = .bool x) (hb : x = pol → a.eval (.tmp b) = .bool y) (w : World) : p.guard = none ∧ (execOp a.eval p).run P w = .ok (.value (.bool (cmb pol x y))) w := by
  unfold pickOf at hp
  split at hp
  · cases hp
  · rename_i hg
    refine ⟨hg, ?_⟩
    split at hp
    · rename_i c b' hop
      split at hp
      · rename_i hc
        have := Nat.eq_of_beq_eq_true hc; subst this
        split at hp
        · injection hp with hp; subst hp
          cases x
          · have e1 : a.eval (.const (.bool false)) = .bool false := rfl
            simp [execOp, hop, hd, asBool, cmb, e1]
          · simp [execOp, hop, hd, asBool, cmb, hb rfl]
        · cases hp
      · cases hp
    · rename_i c b' hop
      split at hp
      · rename_i hc
        have := Nat.eq_of_beq_eq_true hc; subst this
        split at hp
        · injection hp with hp; subst hp
          cases x
          · simp [execOp, hop, hd, asBool, cmb, hb rfl]
          · have e1 : a.eval (.const (.bool true)) = .bool true := rfl
            simp [execOp, hop, hd, asBool, cmb, e1]
        · cases hp
      · cases hp
    · cases hp
end
end Go.Proofs.Ytmjfgnnefcimiaa
namespace Go.Proofs.Ytmjfgnnefcimiaa

theorem ops_length (l : List BOp) : (l.flatMap opC).length = l.length * 5 := by
  induction l with
  | nil => rfl
  | cons o l ih => simp [List.flatMap_cons, ih, opC]; omega
theorem ops_cut : ∀ {l : List BOp} {k : Nat} {o : BOp}, l[k]? = some o → ((l.flatMap opC).drop (k * 5)).take 5 = opC o
  | [], k, o, h => by simp at h
  | x :: l, 0, o, h => by simp at h; subst h; simp [List.flatMap_cons, opC]
  | x :: l, k + 1, o, h => by
    rw [List.flatMap_cons, show (k + 1) * 5 = (opC x).length + k * 5 by simp [opC]; omega, ← List.drop_drop, List.drop_left]
    exact ops_cut (by simpa using h)
theorem set_right {α : Type} (p q : List α) (k : Nat) (u : α) : (p ++ q).set (p.length + k) u = p ++ q.set k u := by
  rw [List.set_append_right _ _ (by omega)]; congr 2; omega
theorem setAll_right {α : Type} : ∀ (us p q : List α) (k : Nat), setAll (p ++ q) (p.length + k) us = p ++ setAll q k us
  | [], p, q, k => rfl
  | u :: us, p, q, k => by
    simp only [setAll]
    rw [set_right]
    exact setAll_right us p (q.set k u) (k + 1)
theorem ops_set : ∀ {l : List BOp} {k : Nat} (o : BOp), k < l.length → setAll (l.flatMap opC) (k * 5) (opC o) = (l.set k o).flatMap opC
  | [], k, o, h => by simp at h
  | x :: l, 0, o, h => by simp [List.flatMap_cons, opC, setAll]
  | x :: l, k + 1, o, h => by
    rw [List.flatMap_cons, show (k + 1) * 5 = (opC x).length + k * 5 by simp [opC]; omega, setAll_right, ops_set o (by simpa using h)]
    simp [List.flatMap_cons]

theorem next_formed {s s2 : Ck} {o : BOp} {x y : Bool} (h : ckNext s o x y = some s2) : formedB o = true := by
  unfold ckNext at h
  by_cases hf : (formedB o && placedB s o x y) = true
  · simp only [Bool.and_eq_true] at hf; exact hf.1
  · rw [if_neg hf] at h; cases h
theorem run_formed : ∀ {l : List BOp} {s s' : Ck}, ckRun s l = some s' → ∀ o ∈ l, formedB o = true
  | [], _, _, _, o, ho => by cases ho
  | p :: l, s, s', h, o, ho => by
    unfold ckRun at h
    split at h
    · rename_i s2 h2
      rcases List.mem_cons.1 ho with rfl | ho
      · exact next_formed h2
      · exact run_formed h o ho
    · cases h
theorem valid_formed {b : Blk} (h : validB b = true) : ∀ o ∈ b.ops, formedB o = true := by
  unfold validB at h
  simp only [Bool.and_eq_true] at h
  have h2 := h.2
  split at h2
  · rename_i s hs; exact run_formed hs
  · cases h2
theorem beforeM_lt {o : BOp} {m : Nat} (hm : m < 4294967296) (hf : formedB o = true) : beforeM o m < 4294967296 := by
  unfold beforeM
  have h1 : (if 0 ≤ writes o then clrM m (writes o).toNat else m) < 4294967296 := by split; exact clrM_lt hm; exact hm
  have h2 := readsM_lt h1 (reads_var hf)
  split
  · exact Nat.or_lt_two_pow (n := 32) h2 (by decide)
  · exact h2

/-- Nothing that follows wants it. -/
def deadB (o : BOp) (m : Nat) : Bool := pureB o && !(m.testBit o.d.toNat)
/-- Passed over from the last: what is live, and what is left, the last first. -/
structure DeadS where
  live : Nat
  out : List BOp
def deadStep (s : DeadS) (o : BOp) : DeadS := if deadB o s.live then s else ⟨beforeM o s.live, s.out ++ [o]⟩
def deadRun (l : List BOp) : DeadS := l.foldl deadStep ⟨0, []⟩
def deadAll (b : Blk) : List BOp := if validB b then (deadRun b.ops.reverse).out.reverse else b.ops
theorem deadRun_snoc (l : List BOp) (o : BOp) : deadRun (l ++ [o]) = deadStep (deadRun l) o := by unfold deadRun; rw [List.foldl_append]; rfl
theorem deadStep_lt {s : DeadS} {o : BOp} (hs : s.live < 4294967296) (hf : formedB o = true) : (deadStep s o).live < 4294967296 := by
  unfold deadStep; split
  · exact hs
  · exact beforeM_lt hs hf
theorem deadFold_lt : ∀ {l : List BOp} {s : DeadS}, s.live < 4294967296 → (∀ o ∈ l, formedB o = true) → (l.foldl deadStep s).live < 4294967296
  | [], s, h, _ => h
  | o :: l, s, h, hf => deadFold_lt (l := l) (deadStep_lt h (hf o (by simp))) fun p hp => hf p (by simp [hp])
theorem deadRun_lt {l : List BOp} (hf : ∀ o ∈ l, formedB o = true) : (deadRun l).live < 4294967296 := deadFold_lt (by decide) hf
theorem deadFold_length : ∀ (l : List BOp) (s : DeadS), (l.foldl deadStep s).out.length ≤ s.out.length + l.length
  | [], s => Nat.le_refl _
  | o :: l, s => by
    have h1 := deadFold_length l (deadStep s o)
    have h2 : (deadStep s o).out.length ≤ s.out.length + 1 := by unfold deadStep; split <;> simp
    simp only [List.foldl_cons, List.length_cons]; omega
theorem deadRun_length (l : List BOp) : (deadRun l).out.length ≤ l.length := by have := deadFold_length l ⟨0, []⟩; simpa [deadRun] using this
/-- All places, the last first: the list turned about. -/
theorem ops_of_places {l : List BOp} : ∀ {xs : List BOp} {ps : List Nat}, xs.length = ps.length → (∀ (i j : Nat) (o : BOp), ps[i]? = some j → xs[i]? = some o → l[j]? = some o) → ps = (List.range l.length).reverse → xs = l.reverse := by
  intro xs ps hlen h hps
  subst hps
  simp only [List.length_reverse, List.length_range] at hlen
  refine List.ext_getElem? fun i => ?_
  rcases Nat.lt_or_ge i l.length with hi | hi
  · obtain ⟨o, ho⟩ : ∃ o, xs[i]? = some o := ⟨_, List.getElem?_eq_getElem (by omega)⟩
    have h1 := h i (l.length - 1 - i) o (by rw [List.getElem?_reverse (by simpa using hi), List.length_range, List.getElem?_range (by omega)]) ho
    rw [ho, List.getElem?_reverse hi, h1]
  · rw [List.getElem?_eq_none (by omega), List.getElem?_eq_none (by simpa using hi)]
end Go.Proofs.Ytmjfgnnefcimiaa
namespace Go.Proofs.Ytmjfgnnefcimiaa
open Go.RowKit

def ckL : Ck → List BOp → Option Ck
  | s, [] => some s
  | s, o :: l => match ckNext s o false false with | some s' => ckL s' l | none => none
theorem ckL_append : ∀ (l m : List BOp) (s : Ck), ckL s (l ++ m) = (ckL s l).bind fun s' => ckL s' m
  | [], m, s => rfl
  | o :: l, m, s => by
    simp only [List.cons_append, ckL]
    split
    · rename_i s' _; exact ckL_append l m s'
    · rfl
def bodyC (c : Int) : Bool := decide ((1 ≤ c ∧ c ≤ 19) ∨ c = 21)
/-- The operations of an instruction, behind its mark: what has been written; whether a guest variable or the memory has. -/
structure BodyOk (l : List BOp) (W : Nat) (ch : Bool) : Prop where
  run : ∀ m, ckL ⟨m, 0, false⟩ l = some ⟨m, W, ch⟩
  all : ∀ o ∈ l, o.ok ∧ bodyC o.code = true
theorem BodyOk.nil : BodyOk [] 0 false := ⟨fun _ => rfl, nofun⟩
def nextW (W : Nat) (o : BOp) : Nat := if 20 ≤ writes o then W ||| 2 ^ (writes o).toNat else W
def nextCh (ch : Bool) (o : BOp) : Bool := ch || (stores o.code || decide (0 ≤ writes o ∧ writes o < 20))
def srcI (W : Nat) (v : Int) : Prop := 0 ≤ v ∧ v < 28 ∧ v ≠ 19 ∧ (v < 20 ∨ W.testBit v.toNat = true)
theorem BodyOk.snoc {l : List BOp} {W : Nat} {ch : Bool} {o : BOp} (h : BodyOk l W ch) (ho : o.ok) (hc : bodyC o.code = true) (hf : formedB o = true) (hlv : leaves o.code = true → ch = false) (hr : ∀ v ∈ reads o, srcI W v) : BodyOk (l ++ [o]) (nextW W o) (nextCh ch o) := by
  refine ⟨fun m => ?_, fun p hp => ?_⟩
  · rw [ckL_append, h.run m]
    show (match ckNext ⟨m, W, ch⟩ o false false with | some s' => ckL s' [] | none => none) = _
    have hc' : (1 ≤ o.code ∧ o.code ≤ 19) ∨ o.code = 21 := by simpa [bodyC] using hc
    have hpl : placedB ⟨m, W, ch⟩ o false false = true := by
      unfold placedB
      have h1 : endsB o.code = false := by unfold endsB; rw [decide_eq_false_iff_not]; omega
      have h2 : (o.code == 23) = false := by rw [beq_eq_false_iff_ne]; omega
      rw [h1, h2]
      cases hl : leaves o.code
      · rfl
      · rw [hlv hl]; rfl
    have hrd : (reads o).all (readB ⟨m, W, ch⟩) = true := by
      rw [List.all_eq_true]
      intro v hv
      unfold readB
      rcases (hr v hv).2.2.2 with h1 | h1
      · simp [h1]
      · simp [h1]
    unfold ckNext
    rw [hf, hpl, hrd]
    have h20 : (o.code == 20) = false := by rw [beq_eq_false_iff_ne]; omega
    rw [h20]
    rfl
  · rcases List.mem_append.1 hp with hp | hp
    · exact h.all p hp
    · simp at hp; subst hp; exact ⟨ho, hc⟩
theorem mid_small {x : Int} (h : -1000 ≤ x ∧ x ≤ 1000) : mid x := by unfold mid; omega
theorem BodyOk.is {l : List BOp} {W W' : Nat} {ch ch' : Bool} (h : BodyOk l W ch) (hW : W = W') (hc : ch = ch') : BodyOk l W' ch' := by subst hW; subst hc; exact h
/-- The kinds of operations that the maker writes. -/
theorem BodyOk.const {l : List BOp} {W : Nat} {ch : Bool} (h : BodyOk l W ch) {d n : Int} (hd : 0 ≤ d ∧ d < 28 ∧ d ≠ 19) (hn : word n) : BodyOk (l ++ [⟨1, d, 0, 0, n⟩]) (if 20 ≤ d then W ||| 2 ^ d.toNat else W) (ch || decide (d < 20)) := by
  refine (h.snoc (o := ⟨1, d, 0, 0, n⟩) ⟨mid_small (by dsimp only; omega), mid_small (by dsimp only; omega), mid0, mid0, hn⟩ rfl ?_ (fun h => by cases h) (fun v hv => by cases hv)).is rfl ?_
  · show (isOp 1 && fieldB true d && fieldB false 0 && fieldB false 0 && (true || _)) = true
    have : fieldB true d = true := by unfold fieldB; rw [if_pos rfl, decide_eq_true_eq]; omega
    rw [this]; rfl
  · unfold nextCh
    show (ch || (false || decide (0 ≤ d ∧ d < 20))) = _
    rw [Bool.false_or]; congr 1; rw [decide_eq_decide]; omega
theorem src_field {W : Nat} {v : Int} (h : srcI W v) : fieldB true v = true := by unfold fieldB; rw [if_pos rfl, decide_eq_true_eq]; exact ⟨h.1, h.2.1, h.2.2.1⟩
theorem BodyOk.move {l : List BOp} {W : Nat} {ch : Bool} (h : BodyOk l W ch) {d a : Int} (hd : 0 ≤ d ∧ d < 28 ∧ d ≠ 19) (ha : srcI W a) : BodyOk (l ++ [⟨2, d, a, 0, 0⟩]) (if 20 ≤ d then W ||| 2 ^ d.toNat else W) (ch || decide (d < 20)) := by
  have ha' := ha
  obtain ⟨a1, a2, a3, a4⟩ := ha
  refine (h.snoc (o := ⟨2, d, a, 0, 0⟩) ⟨mid_small (by dsimp only; omega), mid_small (by dsimp only; omega), mid_small (by dsimp only; omega), mid0, word0⟩ rfl ?_ (fun h => by cases h) (fun v hv => ?_)).is rfl ?_
  · show (isOp 2 && fieldB true d && fieldB true a && fieldB false 0 && (false || true)) = true
    have : fieldB true d = true := by unfold fieldB; rw [if_pos rfl, decide_eq_true_eq]; omega
    rw [this, src_field ha']; rfl
  · have : v ∈ [a] := hv
    simp at this; subst this; exact ha'
  · unfold nextCh
    show (ch || (false || decide (0 ≤ d ∧ d < 20))) = _
    rw [Bool.false_or]; congr 1; rw [decide_eq_decide]; omega
theorem reads_two {c a b d n : Int} {v : Int} (h : v ∈ reads ⟨c, d, a, b, n⟩) : v = a ∨ v = b := by
  unfold reads at h
  rcases List.mem_append.1 h with h | h
  · split at h
    · left; simpa using h
    · cases h
  · split at h
    · right; simpa using h
    · cases h
theorem BodyOk.bin {l : List BOp} {W : Nat} {ch : Bool} (h : BodyOk l W ch) {c d a b : Int} (hc : 3 ≤ c ∧ c ≤ 15) (hd : 0 ≤ d ∧ d < 28 ∧ d ≠ 19) (ha : srcI W a) (hb : srcI W b) : BodyOk (l ++ [⟨c, d, a, b, 0⟩]) (if 20 ≤ d then W ||| 2 ^ d.toNat else W) (ch || decide (d < 20)) := by
  have ha' := ha
  have hb' := hb
  obtain ⟨a1, a2, a3, a4⟩ := ha
  obtain ⟨b1, b2, b3, b4⟩ := hb
  have hD : hasD c = true := by unfold hasD; rw [decide_eq_true_eq]; omega
  have hA : hasA c = true := by unfold hasA; rw [decide_eq_true_eq]; omega
  have hB : hasB c = true := by unfold hasB; rw [decide_eq_true_eq]; omega
  have hI : isOp c = true := by unfold isOp; rw [decide_eq_true_eq]; omega
  have hL : leaves c = false := by unfold leaves; rw [decide_eq_false_iff_not]; omega
  have hS : stores c = false := by unfold stores; rw [decide_eq_false_iff_not]; omega
  have hw : writes ⟨c, d, a, b, 0⟩ = d := by unfold writes; rw [if_pos hD]
  refine (h.snoc (o := ⟨c, d, a, b, 0⟩) ⟨mid_small (by dsimp only; omega), mid_small (by dsimp only; omega), mid_small (by dsimp only; omega), mid_small (by dsimp only; omega), word0⟩ (by unfold bodyC; rw [decide_eq_true_eq]; dsimp only; omega) ?_ (fun h => by rw [hL] at h; cases h) (fun v hv => ?_)).is ?_ ?_
  · unfold formedB
    dsimp only
    rw [hI, hD, hA, hB, src_field ha', src_field hb']
    have : fieldB true d = true := by unfold fieldB; rw [if_pos rfl, decide_eq_true_eq]; omega
    rw [this]; simp
  · rcases reads_two hv with rfl | rfl
    · exact ha'
    · exact hb'
  · unfold nextW; rw [hw]
  · unfold nextCh
    rw [hw]
    dsimp only
    rw [hS, Bool.false_or]; congr 1; rw [decide_eq_decide]; omega
theorem BodyOk.load {l : List BOp} {W : Nat} {ch : Bool} (h : BodyOk l W ch) {c d a n : Int} (hc : 16 ≤ c ∧ c ≤ 17) (hd : 20 ≤ d ∧ d < 28) (ha : srcI W a) (hn : word n) (hch : ch = false) : BodyOk (l ++ [⟨c, d, a, 0, n⟩]) (W ||| 2 ^ d.toNat) ch := by
  have ha' := ha
  obtain ⟨a1, a2, a3, a4⟩ := ha
  have hD : hasD c = true := by unfold hasD; rw [decide_eq_true_eq]; omega
  have hA : hasA c = true := by unfold hasA; rw [decide_eq_true_eq]; omega
  have hB : hasB c = false := by unfold hasB; rw [decide_eq_false_iff_not]; omega
  have hNn : hasN c = true := by unfold hasN; rw [decide_eq_true_eq]; omega
  have hI : isOp c = true := by unfold isOp; rw [decide_eq_true_eq]; omega
  have hS : stores c = false := by unfold stores; rw [decide_eq_false_iff_not]; omega
  have hw : writes ⟨c, d, a, 0, n⟩ = d := by unfold writes; rw [if_pos hD]
  refine (h.snoc (o := ⟨c, d, a, 0, n⟩) ⟨mid_small (by dsimp only; omega), mid_small (by dsimp only; omega), mid_small (by dsimp only; omega), mid0, hn⟩ (by unfold bodyC; rw [decide_eq_true_eq]; dsimp only; omega) ?_ (fun _ => hch) (fun v hv => ?_)).is ?_ ?_
  · unfold formedB
    dsimp only
    rw [hI, hD, hA, hB, src_field ha', hNn]
    have : fieldB true d = true := by unfold fieldB; rw [if_pos rfl, decide_eq_true_eq]; omega
    rw [this]; rfl
  · unfold reads at hv
    dsimp only at hv
    rw [hA, hB] at hv
    simp at hv; subst hv; exact ha'
  · unfold nextW; rw [hw, if_pos hd.1]
  · unfold nextCh
    rw [hw]
    dsimp only
    rw [hS, Bool.false_or]
    have : decide (0 ≤ d ∧ d < 20) = false := by rw [decide_eq_false_iff_not]; omega
    rw [this, Bool.or_false]
theorem BodyOk.guard {l : List BOp} {W : Nat} {ch : Bool} (h : BodyOk l W ch) {a : Int} (ha : srcI W a) (hch : ch = false) : BodyOk (l ++ [⟨21, 0, a, 0, 0⟩]) W ch := by
  have ha' := ha
  obtain ⟨a1, a2, a3, a4⟩ := ha
  refine (h.snoc (o := ⟨21, 0, a, 0, 0⟩) ⟨mid_small (by dsimp only; omega), mid0, mid_small (by dsimp only; omega), mid0, word0⟩ rfl ?_ (fun _ => hch) (fun v hv => ?_)).is rfl ?_
  · show (isOp 21 && fieldB false 0 && fieldB true a && fieldB false 0 && (false || true)) = true
    rw [src_field ha']; rfl
  · have : v ∈ [a] := hv
    simp at this; subst this; exact ha'
  · unfold nextCh
    show (ch || (false || false)) = _
    simp
theorem BodyOk.store {l : List BOp} {W : Nat} {ch : Bool} (h : BodyOk l W ch) {c a b n : Int} (hc : 18 ≤ c ∧ c ≤ 19) (ha : srcI W a) (hb : srcI W b) (hn : word n) (hch : ch = false) : BodyOk (l ++ [⟨c, 0, a, b, n⟩]) W true := by
  have ha' := ha
  have hb' := hb
  obtain ⟨a1, a2, a3, a4⟩ := ha
  obtain ⟨b1, b2, b3, b4⟩ := hb
  have hD : hasD c = false := by unfold hasD; rw [decide_eq_false_iff_not]; omega
  have hA : hasA c = true := by unfold hasA; rw [decide_eq_true_eq]; omega
  have hB : hasB c = true := by unfold hasB; rw [decide_eq_true_eq]; omega
  have hNn : hasN c = true := by unfold hasN; rw [decide_eq_true_eq]; omega
  have hI : isOp c = true := by unfold isOp; rw [decide_eq_true_eq]; omega
  have hS : stores c = true := by unfold stores; rw [decide_eq_true_eq]; omega
  have hw : writes ⟨c, 0, a, b, n⟩ = -1 := by unfold writes; rw [if_neg (by rw [hD]; decide)]
  refine (h.snoc (o := ⟨c, 0, a, b, n⟩) ⟨mid_small (by dsimp only; omega), mid0, mid_small (by dsimp only; omega), mid_small (by dsimp only; omega), hn⟩ (by unfold bodyC; rw [decide_eq_true_eq]; dsimp only; omega) ?_ (fun _ => hch) (fun v hv => ?_)).is ?_ ?_
  · unfold formedB
    dsimp only
    rw [hI, hD, hA, hB, src_field ha', src_field hb', hNn]; rfl
  · rcases reads_two hv with rfl | rfl
    · exact ha'
    · exact hb'
  · unfold nextW; rw [hw]; rfl
  · unfold nextCh
    dsimp only
    rw [hS]; simp
end Go.Proofs.Ytmjfgnnefcimiaa
namespace Go.Proofs.Ytmjfgnnefcimiaa
open Go.RowKit

/-- The operations of the instruction under way. -/
def segA (acc : List BOp) (o : BOp) : List BOp := if o.code = 20 then [o] else acc ++ [o]
def segF (l : List BOp) : List BOp := l.foldl segA []
def ordB (acc : List BOp) (o : BOp) : Bool := (reads o).all (knownB acc) && (!leaves o.code || freeB acc)
def run2 : Nat → List BOp → List BOp → Option Nat
  | m, _, [] => some m
  | m, acc, o :: l => match shapeStep m o l with | some m' => (if (o.code == 20 || ordB acc o) = true then run2 m' (segA acc o) l else none) | none => none
theorem take_succ_of {l : List BOp} {k : Nat} {o : BOp} (h : l[k]? = some o) : l.take (k + 1) = l.take k ++ [o] := by rw [List.take_add_one, h]; rfl
theorem seg_eq {l : List BOp} : ∀ (i : Nat) {o : BOp}, l[i]? = some o → o.code ≠ 20 → seg l i = segF (l.take i)
  | 0, o, h, hc => by simp [seg, segF]
  | k + 1, o, h, hc => by
    have hk : k < l.length := by
      rcases Nat.lt_or_ge (k + 1) l.length with h1 | h1
      · omega
      · rw [List.getElem?_eq_none h1] at h; cases h
    obtain ⟨p, hp⟩ : ∃ p, l[k]? = some p := ⟨_, List.getElem?_eq_getElem hk⟩
    have hlen : (l.take k).length = k := by rw [List.length_take]; omega
    have hf : firstI l (k + 1) = firstI l k := by
      show (if _ then _ else _) = _
      rw [if_neg (by rw [h]; simpa using hc)]
    have hs : segF (l.take (k + 1)) = segA (segF (l.take k)) p := by unfold segF; rw [take_succ_of hp, List.foldl_append]; rfl
    rw [hs]
    unfold seg
    rw [hf, take_succ_of hp]
    unfold segA
    by_cases hpc : p.code = 20
    · rw [if_pos hpc]
      have hfk : firstI l k = (k : Int) := by
        cases k with
        | zero => show (if _ then _ else _) = _; rw [if_pos (by rw [hp]; simp [hpc])]; rfl
        | succ k => show (if _ then _ else _) = _; rw [if_pos (by rw [hp]; simp [hpc])]
      rw [hfk, Int.toNat_natCast, List.drop_append, hlen, Nat.sub_self, List.drop_eq_nil_of_le (by omega)]; rfl
    · rw [if_neg hpc]
      have ih := seg_eq k hp hpc
      unfold seg at ih
      have hle := firstI_le l k
      rw [List.drop_append_of_le_length (by rw [hlen]; omega), ih]
theorem ordered_all {l : List BOp} : orderedAll l = true ↔ ∀ i o, l[i]? = some o → (o.code == 20 || ordB (segF (l.take i)) o) = true := by
  unfold orderedAll
  rw [List.all_eq_true]
  have key : ∀ i o, l[i]? = some o → orderedB l i o = (o.code == 20 || ordB (segF (l.take i)) o) := fun i o ho => by
    by_cases hc : o.code = 20
    · have h1 : (o.code == 20) = true := by simp [hc]
      rw [h1, Bool.true_or]
      unfold orderedB
      have e1 : reads o = [] := by unfold reads; rw [hc]; rfl
      have e2 : leaves o.code = false := by rw [hc]; rfl
      rw [e1, e2]; rfl
    · have h1 : (o.code == 20) = false := by simp [hc]
      rw [h1, Bool.false_or]
      unfold orderedB ordB
      rw [seg_eq i ho hc]
  constructor
  · intro h i o ho
    have hi : i < l.length := by
      rcases Nat.lt_or_ge i l.length with h1 | h1
      · exact h1
      · rw [List.getElem?_eq_none h1] at ho; cases ho
    have := h i (List.mem_range.2 hi)
    rw [ho] at this
    rw [← key i o ho]; exact this
  · intro h i hi
    cases ho : l[i]? with
    | none => rfl
    | some o => show orderedB l i o = true; rw [key i o ho]; exact h i o ho
open Classical in
theorem run2_eq : ∀ (l pre : List BOp) (m : Nat), run2 m (segF pre) l = if (∀ i o, l[i]? = some o → (o.code == 20 || ordB (segF (pre ++ l.take i)) o) = true) then shapeRun m l else none
  | [], pre, m => by rw [if_pos (by intro i o h; simp at h)]; rfl
  | o :: l, pre, m => by
    have ih := fun m' => run2_eq l (pre ++ [o]) m'
    have hseg : segF (pre ++ [o]) = segA (segF pre) o := by unfold segF; rw [List.foldl_append]; rfl
    show (match shapeStep m o l with | some m' => (if (o.code == 20 || ordB (segF pre) o) = true then run2 m' (segA (segF pre) o) l else none) | none => none) = _
    have hiff : (∀ i q, (o :: l)[i]? = some q → (q.code == 20 || ordB (segF (pre ++ (o :: l).take i)) q) = true) ↔ ((o.code == 20 || ordB (segF pre) o) = true ∧ ∀ i q, l[i]? = some q → (q.code == 20 || ordB (segF (pre ++ [o] ++ l.take i)) q) = true) := by
      constructor
      · intro h
        refine ⟨by simpa using h 0 o rfl, fun i q hq => ?_⟩
        have := h (i + 1) q (by simpa using hq)
        simpa using this
      · rintro ⟨h1, h2⟩ i q hq
        cases i with
        | zero => simp at hq; subst hq; simpa using h1
        | succ i => simpa using h2 i q (by simpa using hq)
    show _ = if _ then (match shapeStep m o l with | some m' => shapeRun m' l | none => none) else none
    cases hst : shapeStep m o l with
    | none => simp
    | some m' =>
      show (if _ then run2 m' (segA (segF pre) o) l else none) = if _ then shapeRun m' l else none
      rw [← hseg, ih m']
      by_cases h1 : (o.code == 20 || ordB (segF pre) o) = true
      · rw [if_pos h1]
        by_cases h2 : ∀ i q, l[i]? = some q → (q.code == 20 || ordB (segF (pre ++ [o] ++ l.take i)) q) = true
        · rw [if_pos h2, if_pos (hiff.2 ⟨h1, h2⟩)]
        · rw [if_neg h2, if_neg (fun h => h2 (hiff.1 h).2)]
      · rw [if_neg h1, if_neg (fun h => h1 (hiff.1 h).1)]
/-- The state of the check, and the instruction under way. -/
structure CkRel (s : Ck) (m : Nat) (acc : List BOp) : Prop where
  marks : s.marks = m
  bits : ∀ v : Nat, 20 ≤ v → v < 28 → s.written.testBit v = acc.any fun p => writes p == (v : Int)
  ch : s.changed = !freeB acc
theorem reads_all {s : Ck} {m : Nat} {acc : List BOp} (h : CkRel s m acc) {o : BOp} (hf : formedB o = true) : (reads o).all (readB s) = (reads o).all (knownB acc) := by
  have : ∀ v ∈ reads o, readB s v = knownB acc v := fun v hv => by
    obtain ⟨v0, v1⟩ := reads_var hf v hv
    unfold readB knownB
    by_cases h20 : v < 20
    · simp [h20]
    · have := h.bits v.toNat (by omega) (by omega)
      rw [this, show ((v.toNat : Nat) : Int) = v by omega]
  rw [Bool.eq_iff_iff, List.all_eq_true, List.all_eq_true]
  exact ⟨fun h v hv => by rw [← this v hv]; exact h v hv, fun h v hv => by rw [this v hv]; exact h v hv⟩
theorem ck_run2 : ∀ (l : List BOp) (s : Ck) (m : Nat) (acc : List BOp), CkRel s m acc → (ckRun s l).map (·.marks) = run2 m acc l
  | [], s, m, acc, h => by show some s.marks = some m; rw [h.marks]
  | o :: l, s, m, acc, h => by
    have ihl := ck_run2 l
    show Option.map _ (match ckNext s o l.isEmpty (exitNext l) with | some s' => ckRun s' l | none => none) = match shapeStep m o l with | some m' => (if (o.code == 20 || ordB acc o) = true then run2 m' (segA acc o) l else none) | none => none
    by_cases hf' : formedB o = false
    · unfold ckNext shapeStep
      rw [hf']; rfl
    have hf : formedB o = true := by simpa using hf'
    by_cases hp' : ((endsB o.code == l.isEmpty) && !(o.code == 23 && !exitNext l)) = false
    · unfold ckNext shapeStep placedB
      rw [hp', hf, Bool.false_and, Bool.and_false]
      have : (true && (endsB o.code == l.isEmpty) && !(o.code == 23 && !exitNext l)) = false := by rw [Bool.true_and]; exact hp'
      rw [this]; rfl
    have hp : ((endsB o.code == l.isEmpty) && !(o.code == 23 && !exitNext l)) = true := by rwa [Bool.not_eq_false] at hp'
    have hsh : shapeStep m o l = if o.code == 20 then (if o.n == (m : Int) then some (m + 1) else none) else some m := by
      unfold shapeStep
      rw [if_pos (by rw [hf, Bool.true_and]; exact hp)]
    rw [hsh]
    by_cases hc : o.code = 20
    · have hc' : (o.code == 20) = true := by simp [hc]
      have hl : leaves o.code = false := by rw [hc]; rfl
      have hck : ckNext s o l.isEmpty (exitNext l) = if o.n == (s.marks : Int) then some ⟨s.marks + 1, 0, false⟩ else none := by
        unfold ckNext placedB
        rw [hf, hp, hl, hc']; rfl
      rw [hck, h.marks, hc']
      simp only [if_true, Bool.true_or]
      by_cases hn : (o.n == (m : Int)) = true
      · rw [if_pos hn, if_pos hn]
        refine ihl _ _ _ ⟨rfl, fun v v0 v1 => ?_, ?_⟩
        · unfold segA
          rw [if_pos hc]
          have hw : writes o = -1 := by unfold writes; rw [hc]; rfl
          have : (writes o == (v : Int)) = false := by rw [hw, beq_eq_false_iff_ne]; omega
          simp [this]
        · unfold segA freeB
          rw [if_pos hc]
          have hw : writes o = -1 := by unfold writes; rw [hc]; rfl
          simp [hw, hc]
      · rw [if_neg hn, if_neg hn]; rfl
    · have hc' : (o.code == 20) = false := by simp [hc]
      rw [hc']
      simp only [Bool.false_eq_true, if_false, Bool.false_or]
      have hck : ckNext s o l.isEmpty (exitNext l) = if ordB acc o = true then some ⟨s.marks, if 20 ≤ writes o then s.written ||| 2 ^ (writes o).toNat else s.written, s.changed || (stores o.code || decide (0 ≤ writes o ∧ writes o < 20))⟩ else none := by
        unfold ckNext placedB ordB
        rw [hf, hp, hc', reads_all h hf, h.ch]
        cases leaves o.code <;> cases freeB acc <;> cases (reads o).all (knownB acc) <;> rfl
      rw [hck]
      by_cases ho : ordB acc o = true
      · rw [if_pos ho, if_pos ho]
        refine ihl _ _ _ ⟨h.marks, fun v v0 v1 => ?_, ?_⟩
        · unfold segA
          rw [if_neg hc, List.any_append, ← h.bits v v0 v1]
          simp only [List.any_cons, List.any_nil, Bool.or_false]
          split
          · rename_i hw
            rw [Nat.testBit_or, Nat.testBit_two_pow]
            congr 1
            rw [Bool.eq_iff_iff]; simp; omega
          · rename_i hw
            have : (writes o == (v : Int)) = false := by rw [beq_eq_false_iff_ne]; omega
            rw [this, Bool.or_false]
        · unfold segA
          rw [if_neg hc]
          show (s.changed || _) = !(List.all (acc ++ [o]) _)
          rw [List.all_append, h.ch]
          have h19 : writes o ≠ 19 := by
            unfold writes
            split
            · rename_i hD
              unfold formedB at hf
              simp only [Bool.and_eq_true] at hf
              have hd := hf.1.1.1.2
              rw [hD] at hd
              unfold fieldB at hd
              rw [if_pos rfl, decide_eq_true_eq] at hd
              exact hd.2.2
            · omega
          have e : (stores o.code || decide (0 ≤ writes o ∧ writes o < 20)) = (decide (0 ≤ writes o ∧ writes o ≤ 18) || o.code == 18 || o.code == 19) := by
            unfold stores
            rw [Bool.eq_iff_iff]
            simp
            omega
          rw [e]
          unfold freeB
          simp only [List.all_cons, List.all_nil, Bool.and_true, Bool.not_and, Bool.not_not]
      · rw [if_neg ho, if_neg ho]; rfl
/-- The two checks agree. -/
theorem valid_same (b : Blk) : validR b = validB b := by
  unfold validR validB
  cases headerB b
  · rfl
  have h1 := ck_run2 b.ops ⟨0, 0, false⟩ 0 [] ⟨rfl, fun v _ _ => by simp, rfl⟩
  have h2 := run2_eq b.ops [] 0
  have h3 := ordered_all (l := b.ops)
  rw [show segF [] = [] from rfl] at h2
  rw [h2] at h1
  simp only [List.nil_append] at h1
  by_cases ho : orderedAll b.ops = true
  · rw [if_pos (h3.1 ho)] at h1
    rw [ho]
    cases hs : ckRun ⟨0, 0, false⟩ b.ops with
    | none => rw [hs] at h1; rw [← h1]; rfl
    | some s => rw [hs] at h1; rw [← h1]; rfl
  · rw [if_neg (fun h => ho (h3.2 h))] at h1
    have ho' : orderedAll b.ops = false := by simpa using ho
    rw [ho']
    cases hs : ckRun ⟨0, 0, false⟩ b.ops with
    | none => cases shapeRun 0 b.ops <;> rfl
    | some s => rw [hs] at h1; cases h1
end Go.Proofs.Ytmjfgnnefcimiaa
namespace Go.Proofs.Ytmjfgnnefcimiaa
open Go.RowKit

section
variable {P : Program} {w0 : World} {G : Gs} {N : Nd} {ops : Array Oper}
theorem onTop_agree {n : Nat} {r : Env} {f f' : Fr} {grp : List Oper} {d : Nat} {x : Bool} {a : Act} (hfx : f.get d = one (.bool x)) (htop : onTop (dstsOf grp) ((d, one (.bool x)) :: f) (putN grp) f') (hf : FDen r f' a) (hb : f.bnd n = true) : FDen (r.upto n) (putsAny grp f) a := by
  intro k
  rcases putsAny_get grp f k with h | ⟨h1, h2⟩
  · rw [h]; simp [AV.den, Pc.den, CV.den]
  · rw [h1]
    have e1 := onTop_get _ _ htop k h2
    have e2 := hf k
    rw [e1] at e2
    simp only [Fr.get] at e2
    split at e2
    · rename_i hk
      have := Nat.eq_of_beq_eq_true hk; subst this
      rw [hfx]
      exact AV.den_agree (Env.upto_agree n r) _ _ rfl e2
    · exact AV.den_agree (Env.upto_agree n r) _ _ (Fr.bnd_get k hb) e2
end
theorem sbnd_get {n : Nat} : ∀ {S : List Ow} {i : Nat} {o : Ow}, sbnd n S = true → S[i]? = some o → o.bnd n = true
  | [], i, o, _, h => by simp at h
  | x :: S, i, o, hb, h => by
    simp only [sbnd] at hb
    split at hb
    · rename_i hx
      cases i with
      | zero => simp at h; subst h; exact hx
      | succ i => exact sbnd_get hb (by simpa using h)
    · cases hb
section
variable {P : Program} {w0 : World} {G : Gs} {N : Nd} {ops : Array Oper}
theorem opsK_sound {Q : Act → World → Prop} : ∀ (n : Nat) (l : List Oper) (f : Fr) (S : List Ow) (K : Fr → List Ow → Prop), opsK P w0 G N ops n l f S K → (∀ f' S' a' w', K f' S' → Good w0 G N f' S' a' w' → Q a' w') →
    ∀ a w, Good w0 G N f S a w → seL P ops Q l a w
  | _, [], f, S, K, h, hK, a, w, hg => by cases ‹Nat› <;> exact hK _ _ _ _ h hg
  | 0, o :: l, f, S, K, h, hK, a, w, hg => h.elim
  | n + 1, o :: l, f, S, K, h, hK, a, w, hg => by
    unfold opsK at h
    have hsplit : ∀ {j d : Nat} {pol x : Bool}, o.guard = some (j, pol) → slotOf ops j = some d → f.get d = one (.bool x) →
        ((x = pol → opK P w0 G N o ((d, one (.bool pol)) :: f) S fun f' S' => opsK P w0 G N ops n l f' S' K) ∧
          (x = (!pol) → match dstOk N.n o.dst with | true => (Fr.putK ((d, one (.bool (!pol))) :: f) o.dst (.p (.c .any)) fun f' => opsK P w0 G N ops n l f' S K) | false => False)) → seL P ops Q (o :: l) a w := by
      intro j d pol x hg' hs hfx ⟨h1, h2⟩
      by_cases hx : x = pol
      · obtain ⟨r, hR, hf, hN, hd⟩ := hg.known (d := d) (x := one (.bool pol)) (by rw [hfx, hx])
        refine step_do ?_ ((opK_sound (h1 hx)).out r a w hR hf hN hd _ (fun _ _ _ => True) fun f' S' a' w' hk hgd => opsK_sound n l f' S' K hk hK a' w' hgd)
        rw [wanted_some hg', yielded_of hf hs (get_cons_self d _ f)]; simp
      · have hx' : x = !pol := by cases x <;> cases pol <;> simp_all
        have h2 := h2 hx'
        obtain ⟨r, hR, hf, hN, hd⟩ := hg.known (d := d) (x := one (.bool (!pol))) (by rw [hfx, hx'])
        split at h2
        · rename_i hdst
          refine step_not ?_ (opsK_sound n l _ S K (putK_iff.1 h2) hK _ _ ⟨r, hR, hf.putAny undef (by rw [hN]; exact hdst), (put_size a _ _).trans hN, (put_defers a _ _).trans hd⟩)
          rw [wanted_some hg', yielded_of hf hs (get_cons_self d _ f)]; cases pol <;> simp
        · exact h2.elim
    split at h
    · rename_i hgd
      obtain ⟨r, hR, hf, hN, hd⟩ := hg
      exact step_do (wanted_none hgd _) ((opK_sound h).out r a w hR hf hN hd _ (fun _ _ _ => True) fun f' S' a' w' hk hg' => opsK_sound n l f' S' K hk hK a' w' hg')
    · rename_i j pol hgd
      split at h
      · exact h.elim
      · rename_i d hs
        split at h
        · rename_i x hfx
          split at h
          · rename_i grp p rem hspan
            split at h
            · rename_i b hpick
              split at h
              · rename_i hD hpd hmem
                have hmem := memN_not hmem
                obtain ⟨y, hy, hrest⟩ := h
                rw [putsAnyK_iff, putK_iff] at hrest
                have hall : ∀ o ∈ grp, o.guard = some (j, pol) := fun o' ho' => spanG_all j pol (o :: l) o' (by rw [hspan]; exact ho')
                have happ : grp ++ p :: rem = o :: l := by have := spanG_append j pol (o :: l); rw [hspan] at this; exact this
                rw [← happ]
                by_cases hx : x = pol
                · have h1 := hy hx
                  refine seqK_sound hs grp _ S _ hall h1 ?_ a w (hg.known (d := d) (x := one (.bool pol)) (by rw [hfx, hx]))
                  rintro f' S' a' w' ⟨htop, htake, hb, hbnd, hgrp⟩ ⟨r', hR', hf', hN', hd'⟩
                  subst hx
                  have hS : S.length ≤ S'.length := by
                    have := congrArg List.length htake
                    simp at this; omega
                  have hfd := onTop_agree (grp := grp) hfx htop hf' hbnd
                  have hR2 : Rel w0 G S' r' w' := hR'
                  have eb : a'.eval (.tmp b) = .bool y := by have := hf' b; rw [hb] at this; exact den_v this
                  have ed : a'.eval (.tmp d) = .bool x := by
                    have h2 := hf' d
                    rw [onTop_get _ _ htop d hmem, get_cons_self] at h2
                    exact den_v h2
                  obtain ⟨hpg, hprun⟩ := pick_run (P := P) hpick (a := a') ed (fun _ => eb) w'
                  refine step_do (wanted_none hpg _) (wp_of_value hprun ?_)
                  refine opsK_sound n rem _ S K hrest hK _ _ ⟨r'.upto S.length, ?_, hfd.put (den_one _ _) (by rw [hN']; exact hpd), (put_size a' _ _).trans hN', (put_defers a' _ _).trans hd'⟩
                  unfold grpOk at hgrp
                  split at hgrp
                  · rename_i hG
                    refine hR2.upto rfl hS (Nat.le_of_ble_eq_true hG) fun i o' ho' => ?_
                    have hil : i < S.length := by
                      rcases Nat.lt_or_ge i S.length with h1 | h1
                      · exact h1
                      · rw [List.getElem?_eq_none h1] at ho'; cases ho'
                    have ho2 : S'[i]? = some o' := by rw [← htake, List.getElem?_take] at ho'; rw [if_pos hil] at ho'; exact ho'
                    exact Ow.holds_agree (hR2.own i o' ho2) (Env.upto_agree _ _) (sbnd_get hgrp ho') hil (Env.upto_blk _ _)
                  · cases hgrp
                · refine allDst_put grp hD hs hall hx hfx hmem hg fun a' hg' => ?_
                  obtain ⟨r', hR', hf', hN', hd'⟩ := hg'
                  have ed : a'.eval (.tmp d) = .bool x := by
                    have h2 := hf' d
                    rw [putsAny_far grp f d hmem, hfx] at h2
                    exact den_v h2
                  obtain ⟨hpg, hprun⟩ := pick_run (P := P) (y := y) hpick (a := a') ed (fun e => absurd e hx) w
                  refine step_do (wanted_none hpg _) (wp_of_value hprun ?_)
                  exact opsK_sound n rem _ S K hrest hK _ _ ⟨r', hR', hf'.put (den_one _ _) (by rw [hN']; exact hpd), (put_size a' _ _).trans hN', (put_defers a' _ _).trans hd'⟩
              · exact h.elim
            · exact hsplit hgd hs hfx h
          · exact hsplit hgd hs hfx h
        · exact h.elim
end
end Go.Proofs.Ytmjfgnnefcimiaa
namespace Go.Proofs.Ytmjfgnnefcimiaa
open Go.RowKit

theorem foldRun_ok : ∀ {l : List BOp} {f : Int → Option Int}, wordsF f → (∀ o ∈ l, o.ok) → ∀ p ∈ foldRun f l, p.ok
  | [], f, _, _, p, hp => by cases hp
  | o :: l, f, hf, hl, p, hp => by
    have h1 := foldB_ok (foldMark_words (o := o) hf) (hl o (by simp))
    have h2 := foldMark_words (o := o) hf
    have hl2 : ∀ q ∈ l, q.ok := fun q hq => hl q (by simp [hq])
    unfold foldRun at hp
    split at hp
    · rcases List.mem_cons.1 hp with rfl | hp
      · exact h1
      · split at hp
        · cases hp
        · exact foldRun_ok (foldUpd_words h2 h1) hl2 p hp
    · exact foldRun_ok h2 hl2 p hp
theorem copyRun_ok : ∀ {l : List BOp} {f : Int → Option Int}, midF f → (∀ o ∈ l, o.ok) → ∀ p ∈ copyRun f l, p.ok
  | [], f, _, _, p, hp => by cases hp
  | o :: l, f, hf, hl, p, hp => by
    have h2 := midF_mark hf o
    have h1 := copyOp_ok h2 (hl o (by simp))
    have hl2 : ∀ q ∈ l, q.ok := fun q hq => hl q (by simp [hq])
    unfold copyRun at hp
    split at hp
    · exact copyRun_ok h2 hl2 p hp
    · rcases List.mem_cons.1 hp with rfl | hp
      · exact h1
      · exact copyRun_ok (midF_upd h2 h1) hl2 p hp
theorem deadFold_mem : ∀ {l : List BOp} {s : DeadS} {p : BOp}, p ∈ (l.foldl deadStep s).out → p ∈ s.out ∨ p ∈ l
  | [], s, p, h => .inl h
  | o :: l, s, p, h => by
    rcases deadFold_mem (l := l) h with h | h
    · unfold deadStep at h
      split at h
      · exact .inl h
      · rcases List.mem_append.1 h with h | h
        · exact .inl h
        · right; simp at h; simp [h]
    · right; simp [h]
theorem deadAll_mem {b : Blk} {p : BOp} (h : p ∈ deadAll b) : p ∈ b.ops := by
  unfold deadAll at h
  split at h
  · have := deadFold_mem (List.mem_reverse.1 h)
    simpa using this
  · exact h
def foldP (b : Blk) : Blk := ⟨b.at_, b.pages, foldAll b⟩
def copyP (b : Blk) : Blk := ⟨b.at_, b.pages, copyAll b⟩
def deadP (b : Blk) : Blk := ⟨b.at_, b.pages, deadAll b⟩
theorem foldAll_length (b : Blk) : (foldAll b).length ≤ b.ops.length := by
  unfold foldAll; split
  · exact foldRun_length _ _
  · exact Nat.le_refl _
theorem copyAll_length (b : Blk) : (copyAll b).length ≤ b.ops.length := by
  unfold copyAll; split
  · exact copyRun_length _ _
  · exact Nat.le_refl _
theorem deadAll_length (b : Blk) : (deadAll b).length ≤ b.ops.length := by
  unfold deadAll; split
  · have := deadRun_length b.ops.reverse; simpa using this
  · exact Nat.le_refl _
theorem foldP_ok {b : Blk} (h : b.ok) : (foldP b).ok := ⟨h.at_, h.pages, fun o ho => by
  simp only [foldP, foldAll] at ho
  split at ho
  · exact foldRun_ok wordsF_none h.ops o ho
  · exact h.ops o ho, h.lat, h.lpages, Nat.le_trans (foldAll_length b) h.lops⟩
theorem copyP_ok {b : Blk} (h : b.ok) : (copyP b).ok := ⟨h.at_, h.pages, fun o ho => by
  simp only [copyP, copyAll] at ho
  split at ho
  · exact copyRun_ok midF_none h.ops o ho
  · exact h.ops o ho, h.lat, h.lpages, Nat.le_trans (copyAll_length b) h.lops⟩
theorem deadP_ok {b : Blk} (h : b.ok) : (deadP b).ok := ⟨h.at_, h.pages, fun o ho => h.ops o (deadAll_mem ho), h.lat, h.lpages, Nat.le_trans (deadAll_length b) h.lops⟩
theorem fold_nil {b : Blk} (h : b.ops = []) : foldAll b = [] := List.eq_nil_of_length_eq_zero (by have := foldAll_length b; rw [h] at this; simpa using this)
theorem copy_nil {b : Blk} (h : b.ops = []) : copyAll b = [] := List.eq_nil_of_length_eq_zero (by have := copyAll_length b; rw [h] at this; simpa using this)
theorem dead_nil {b : Blk} (h : b.ops = []) : deadAll b = [] := List.eq_nil_of_length_eq_zero (by have := deadAll_length b; rw [h] at this; simpa using this)
def onceP (b : Blk) : Blk := deadP (copyP (foldP b))
theorem onceP_ok {b : Blk} (h : b.ok) : (onceP b).ok := deadP_ok (copyP_ok (foldP_ok h))
/-- The passes in turn, n rounds at most, until nothing changes. -/
def optN : Nat → Blk → Blk
  | 0, b => b
  | n + 1, b => if (onceP b).ops = b.ops then b else optN n (onceP b)
theorem optN_same {b : Blk} (h : (onceP b).ops = b.ops) (n : Nat) : optN n b = b := by
  cases n with
  | zero => rfl
  | succ n => exact if_pos h
theorem optN_fuel {mu : Blk → Nat} (hmu : ∀ b, b.ok → (onceP b).ops ≠ b.ops → mu (onceP b) < mu b) : ∀ (n m : Nat) {b : Blk}, b.ok → mu b ≤ n → mu b ≤ m → optN n b = optN m b
  | n, m, b, hb, hn, hm => by
    by_cases h : (onceP b).ops = b.ops
    · rw [optN_same h, optN_same h]
    · have hlt := hmu b hb h
      obtain ⟨n, rfl⟩ : ∃ k, n = k + 1 := ⟨n - 1, by omega⟩
      obtain ⟨m, rfl⟩ : ∃ k, m = k + 1 := ⟨m - 1, by omega⟩
      show (if _ then _ else optN n (onceP b)) = (if _ then _ else optN m (onceP b))
      rw [if_neg h, if_neg h]
      exact optN_fuel hmu n m (onceP_ok hb) (by omega) (by omega)
theorem optN_step {mu : Blk → Nat} (hmu : ∀ b, b.ok → (onceP b).ops ≠ b.ops → mu (onceP b) < mu b) {b : Blk} (hb : b.ok) (h : (onceP b).ops ≠ b.ops) : optN (mu b) b = optN (mu (onceP b)) (onceP b) := by
  have hlt := hmu b hb h
  obtain ⟨n, hn⟩ : ∃ k, mu b = k + 1 := ⟨mu b - 1, by omega⟩
  rw [hn]
  show (if _ then _ else optN n (onceP b)) = _
  rw [if_neg h]
  exact optN_fuel hmu _ _ (onceP_ok hb) (by omega) (by omega)
def passN : Nat → Blk → Blk
  | 0, b => b
  | 1, b => foldP b
  | 2, b => copyP (foldP b)
  | _, b => onceP b
end Go.Proofs.Ytmjfgnnefcimiaa
