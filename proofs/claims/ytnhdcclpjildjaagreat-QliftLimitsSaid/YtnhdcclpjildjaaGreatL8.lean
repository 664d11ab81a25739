/- Plain: copies, as the reference finds them; in the result of Copies nothing reads a copy. Lists of operations, code, functions, over states that are known part by part. Plain: the block that a lifter of Q makes is valid, and writes neither variable 0 nor the variables of the flags. Plain: the words of the instructions of Q; what is encoded is decoded again. Lists of operations with '&&' and '||'; code; loops; functions. Plain: the pages of a lifted block, in increasing order, each once. Code and functions, over states that are known part by part. -/
import Derived.Test.YtnhdcclpjildjaaGreatL1
import Derived.Test.YtnhdcclpjildjaaGreatL3
import Derived.Test.YtnhdcclpjildjaaGreatL4
import Derived.Test.YtnhdcclpjildjaaGreatL5
import Derived.Test.YtnhdcclpjildjaaGreatL6
import Derived.Test.YtnhdcclpjildjaaGreatL7
namespace Go.Proofs.YtnhdcclpjildjaaGreat
open Go.RowKit

/-- The variable of which v is a copy behind these operations, the last first; or -1. m: a mark has been passed; sk: what has been passed. -/
def copyF : Bool → List BOp → List BOp → Int → Int
  | _, [], _, _ => -1
  | m, o :: r, sk, v => if writes o = v then (if o.code ≠ 2 ∨ o.a = v then -1 else if m = true ∧ (20 ≤ v ∨ 20 ≤ o.a) then -1 else if (sk.any fun p => writes p == o.a) = true then -1 else o.a) else copyF (m || o.code == 20) r (o :: sk) v
def copyR (r : List BOp) (v : Int) : Int := copyF false r [] v
/-- The map says what is a copy; its values are no copies. -/
structure CopyIs (s : Int → Option Int) (r : List BOp) : Prop where
  fm : ∀ o ∈ r, o.code = 2 → 0 ≤ o.a
  some_ : ∀ v w, 0 ≤ v → v < 28 → s v = some w → copyR r v = w ∧ 0 ≤ w ∧ w < 28
  none_ : ∀ v, 0 ≤ v → v < 28 → s v = none → copyR r v < 0
  flat : ∀ v w, s v = some w → s w = none
end Go.Proofs.YtnhdcclpjildjaaGreat
namespace Go.Proofs.YtnhdcclpjildjaaGreat
open Go.RowKit

def slotOf (ops : Array Oper) (j : Nat) : Option Nat := (ops[j]?).bind (·.dst)
def sameG (j : Nat) (pol : Bool) (o : Oper) : Bool := match o.guard with
  | some (i, p) => (match Nat.beq i j with | true => p == pol | false => false)
  | none => false
def spanG (j : Nat) (pol : Bool) : List Oper → List Oper × List Oper
  | [] => ([], [])
  | o :: l => match sameG j pol o with | true => (o :: (spanG j pol l).1, (spanG j pol l).2) | false => ([], o :: l)
theorem spanG_append (j : Nat) (pol : Bool) : ∀ l : List Oper, (spanG j pol l).1 ++ (spanG j pol l).2 = l
  | [] => rfl
  | o :: l => by unfold spanG; split <;> simp [spanG_append j pol l]
theorem spanG_all (j : Nat) (pol : Bool) : ∀ (l : List Oper), ∀ o ∈ (spanG j pol l).1, o.guard = some (j, pol)
  | [], o, h => by cases h
  | x :: l, o, h => by
    unfold spanG at h
    split at h
    · rename_i hs
      rcases List.mem_cons.1 h with rfl | h
      · unfold sameG at hs
        split at hs
        · rename_i i p hg
          split at hs
          · rename_i hi
            have := Nat.eq_of_beq_eq_true hi
            rw [hg, this]; simp at hs; rw [hs]
          · cases hs
        · cases hs
      · exact spanG_all j pol l o h
    · cases h
/-- What closes '&&' and '||': the slot of the second operand. -/
def pickOf (p : Oper) (d : Nat) (pol : Bool) : Option Nat := match p.guard with
  | some _ => none
  | none => (match p.op with
    | .pick (.tmp c) (.tmp b) (.const (.bool false)) => (match Nat.beq c d with | true => (match pol with | true => some b | false => none) | false => none)
    | .pick (.tmp c) (.const (.bool true)) (.tmp b) => (match Nat.beq c d with | true => (match pol with | false => some b | true => none) | false => none)
    | _ => none)
def cmb (pol x y : Bool) : Bool := match pol with | true => x && y | false => x || y
def putsAny : List Oper → Fr → Fr
  | [], f => f
  | o :: l, f => putsAny l (f.put o.dst (.p (.c .any)))
def putsAnyK : List Oper → Fr → (Fr → Prop) → Prop
  | [], f, K => K f
  | o :: l, f, K => f.putK o.dst (.p (.c .any)) fun f' => putsAnyK l f' K
theorem putsAnyK_iff : ∀ {l : List Oper} {f : Fr} {K : Fr → Prop}, putsAnyK l f K ↔ K (putsAny l f)
  | [], _, _ => Iff.rfl
  | o :: l, f, K => by unfold putsAnyK; rw [putK_iff, putsAnyK_iff]; rfl
def dstsOf : List Oper → List Nat
  | [] => []
  | o :: l => match o.dst with | some d => d :: dstsOf l | none => dstsOf l
def memN (d : Nat) : List Nat → Bool
  | [] => false
  | x :: l => match Nat.beq x d with | true => true | false => memN d l
/-- f' is f with slots of the list put on top. -/
def onTop (ds : List Nat) (f : Fr) : Nat → Fr → Prop
  | 0, f' => f' = f
  | _n + 1, [] => False
  | n + 1, (d, _) :: f' => match memN d ds with | true => onTop ds f n f' | false => False
def allDst (N : Nat) : List Oper → Bool
  | [] => true
  | o :: l => match dstOk N o.dst with | true => allDst N l | false => false
def putN : List Oper → Nat
  | [] => 0
  | o :: l => match o.dst with | some _ => putN l + 1 | none => putN l

def Ow.bnd (n : Nat) : Ow → Bool
  | .cells _ l => bndL n l
  | _ => true
def sbnd (n : Nat) : List Ow → Bool
  | [] => true
  | o :: S => match o.bnd n with | true => sbnd n S | false => false
/-- The own entries name none but these, and the first ones are among them. -/
def grpOk (G : Gs) (S : List Ow) : Bool := match Nat.ble G.fix.length S.length with | true => sbnd S.length S | false => false
section
variable (P : Program) (w0 : World) (G : Gs) (N : Nd)
def seqK (d : Nat) (pol : Bool) : List Oper → Fr → List Ow → (Fr → List Ow → Prop) → Prop
  | [], f, S, K => K f S
  | o :: l, f, S, K => match f.get d with
    | .p (.c (.v (.bool y))) => (match y == pol with | true => opK P w0 G N o f S fun f' S' => seqK d pol l f' S' K | false => False)
    | _ => False
def opsK (ops : Array Oper) : Nat → List Oper → Fr → List Ow → (Fr → List Ow → Prop) → Prop
  | _, [], f, S, K => K f S
  | 0, _ :: _, _, _, _ => False
  | n + 1, o :: rest, f, S, K => match o.guard with
    | none => opK P w0 G N o f S fun f' S' => opsK ops n rest f' S' K
    | some (j, pol) => (match slotOf ops j with
      | none => False
      | some d => (match f.get d with
        | .p (.c (.v (.bool x))) => (match spanG j pol (o :: rest) with
          | (grp, p :: rem) => (match pickOf p d pol with
            | some b => (match allDst N.n grp, dstOk N.n p.dst, memN d (dstsOf grp) with
              | true, true, false => ∃ y : Bool, (x = pol → seqK P w0 G N d pol grp ((d, one (.bool pol)) :: f) S fun f' S' => onTop (dstsOf grp) ((d, one (.bool pol)) :: f) (putN grp) f' ∧ S'.take S.length = S ∧ f'.get b = one (.bool y) ∧ f.bnd S.length = true ∧ grpOk G S = true) ∧
                  putsAnyK grp f fun f' => f'.putK p.dst (one (.bool (cmb pol x y))) fun f' => opsK ops n rem f' S K
              | _, _, _ => False)
            | none => (x = pol → opK P w0 G N o ((d, one (.bool pol)) :: f) S fun f' S' => opsK ops n rest f' S' K) ∧
                (x = (!pol) → match dstOk N.n o.dst with | true => (Fr.putK ((d, one (.bool (!pol))) :: f) o.dst (.p (.c .any)) fun f' => opsK ops n rest f' S K) | false => False))
          | _ => (x = pol → opK P w0 G N o ((d, one (.bool pol)) :: f) S fun f' S' => opsK ops n rest f' S' K) ∧
                (x = (!pol) → match dstOk N.n o.dst with | true => (Fr.putK ((d, one (.bool (!pol))) :: f) o.dst (.p (.c .any)) fun f' => opsK ops n rest f' S K) | false => False))
        | _ => False))
end
section
variable {P : Program} {w0 : World} {G : Gs} {N : Nd} {ops : Array Oper}
theorem yielded_of {r : Env} {f : Fr} {a : Act} (hf : FDen r f a) {j d : Nat} (hs : slotOf ops j = some d) {x : Bool} (hx : f.get d = one (.bool x)) : yielded ops a.tmps j = some x := by
  have h := hf d
  rw [hx] at h
  have h := den_v h
  unfold yielded
  unfold slotOf at hs
  rw [hs]
  have : a.tmps[d]? = some (.bool x) := by
    rw [Array.getD_eq_getD_getElem?] at h
    cases hd : a.tmps[d]? with
    | none => rw [hd] at h; simp [undef] at h
    | some v => rw [hd] at h; simp at h; rw [h]
  simp [this]
theorem wanted_none {o : Oper} (h : o.guard = none) (y : Nat → Option Bool) : Region.wanted o y = true := by simp [Region.wanted, h]
theorem wanted_some {o : Oper} {j : Nat} {pol : Bool} (h : o.guard = some (j, pol)) (y : Nat → Option Bool) : Region.wanted o y = (y j == some pol) := by simp [Region.wanted, h]
theorem step_do {o : Oper} {rest : List Oper} {Q : Act → World → Prop} {a : Act} {w : World} (hw : Region.wanted o (yielded ops a.tmps) = true) (h : Oper.se P o a w (seL P ops Q rest)) : seL P ops Q (o :: rest) a w := by
  unfold seL; rw [if_pos hw]; exact h
theorem step_not {o : Oper} {rest : List Oper} {Q : Act → World → Prop} {a : Act} {w : World} (hw : Region.wanted o (yielded ops a.tmps) = false) (h : seL P ops Q rest (a.put o.dst undef) w) : seL P ops Q (o :: rest) a w := by
  unfold seL; rw [if_neg (by rw [hw]; simp)]; exact h
theorem get_cons_self (d : Nat) (x : AV) (f : Fr) : Fr.get ((d, x) :: f) d = x := by simp [Fr.get]
theorem Good.known {f : Fr} {S : List Ow} {a : Act} {w : World} (h : Good w0 G N f S a w) {d : Nat} {x : AV} (hx : f.get d = x) : Good w0 G N ((d, x) :: f) S a w := by
  obtain ⟨r, hR, hf, hN, hd⟩ := h
  refine ⟨r, hR, fun k => ?_, hN, hd⟩
  simp only [Fr.get]
  split
  · rename_i hk; have := Nat.eq_of_beq_eq_true hk; subst this; rw [← hx]; exact hf d
  · exact hf k
theorem seqK_sound {d : Nat} {pol : Bool} {j : Nat} (hs : slotOf ops j = some d) {Q : Act → World → Prop} {rest : List Oper} : ∀ (l : List Oper) (f : Fr) (S : List Ow) (K : Fr → List Ow → Prop), (∀ o ∈ l, o.guard = some (j, pol)) → seqK P w0 G N d pol l f S K →
    (∀ f' S' a' w', K f' S' → Good w0 G N f' S' a' w' → seL P ops Q rest a' w') → ∀ a w, Good w0 G N f S a w → seL P ops Q (l ++ rest) a w
  | [], f, S, K, _, h, hK, a, w, hg => hK _ _ _ _ h hg
  | o :: l, f, S, K, hgd, h, hK, a, w, hg => by
    unfold seqK at h
    split at h
    · rename_i y hy
      split at h
      · rename_i hyp
        have hyp : y = pol := by simpa using hyp
        subst hyp
        obtain ⟨r, hR, hf, hN, hd⟩ := hg
        refine step_do ?_ ((opK_sound h).out r a w hR hf hN hd _ (fun _ _ _ => True) fun f' S' a' w' hk hg' => seqK_sound hs l f' S' K (fun o ho => hgd o (List.mem_cons_of_mem _ ho)) hk hK a' w' hg')
        rw [wanted_some (hgd o (List.mem_cons_self ..)), yielded_of hf hs hy]; simp
      · exact h.elim
    · exact h.elim
theorem memN_not {d : Nat} : ∀ {l : List Nat}, memN d l = false → d ∉ l
  | [], _ => by simp
  | x :: l, h => by
    unfold memN at h
    split at h
    · cases h
    · rename_i hx
      intro hm
      rcases List.mem_cons.1 hm with rfl | hm
      · simp at hx
      · exact memN_not h hm
theorem memN_mem {d : Nat} : ∀ {l : List Nat}, memN d l = true → d ∈ l
  | [], h => by cases h
  | x :: l, h => by
    unfold memN at h
    split at h
    · rename_i hx; rw [Nat.eq_of_beq_eq_true hx]; exact List.mem_cons_self ..
    · exact List.mem_cons_of_mem _ (memN_mem h)
theorem onTop_get {ds : List Nat} {f : Fr} : ∀ (n : Nat) (f' : Fr), onTop ds f n f' → ∀ k, k ∉ ds → f'.get k = f.get k
  | 0, f', h, k, _ => by rw [show f' = f from h]
  | n + 1, [], h, k, _ => h.elim
  | n + 1, (d, x) :: f', h, k, hk => by
    simp only [onTop] at h
    split at h
    · rename_i hm
      simp only [Fr.get]
      split
      · rename_i hdk
        have := Nat.eq_of_beq_eq_true hdk; subst this
        exact absurd (memN_mem hm) hk
      · exact onTop_get n f' h k hk
    · exact h.elim
theorem putsAny_get : ∀ (l : List Oper) (f : Fr) (k : Nat), (putsAny l f).get k = .p (.c .any) ∨ ((putsAny l f).get k = f.get k ∧ k ∉ dstsOf l)
  | [], f, k => .inr ⟨rfl, by simp [dstsOf]⟩
  | o :: l, f, k => by
    simp only [putsAny, dstsOf]
    rcases putsAny_get l (f.put o.dst (.p (.c .any))) k with h | ⟨h1, h2⟩
    · exact .inl h
    · cases ho : o.dst with
      | none => rw [ho] at h1; simp only [Fr.put] at h1; right; exact ⟨by simpa only [ho, Fr.put] using h1, h2⟩
      | some d =>
        rw [ho] at h1
        simp only [Fr.put, Fr.get] at h1
        split at h1
        · left; simpa only [ho, Fr.put] using h1
        · rename_i hdk
          right
          refine ⟨by simpa only [ho, Fr.put] using h1, fun hm => ?_⟩
          rcases List.mem_cons.1 hm with rfl | hm
          · simp at hdk
          · exact h2 hm
theorem putsAny_far : ∀ (l : List Oper) (f : Fr) (k : Nat), k ∉ dstsOf l → (putsAny l f).get k = f.get k
  | [], f, k, _ => rfl
  | o :: l, f, k, h => by
    simp only [putsAny, dstsOf] at h ⊢
    cases ho : o.dst with
    | none => rw [ho] at h; rw [putsAny_far l _ k h]; rfl
    | some d =>
      rw [ho] at h
      rw [putsAny_far l _ k (fun hm => h (List.mem_cons_of_mem _ hm))]
      simp only [Fr.put, Fr.get]
      split
      · rename_i hd; exact absurd (Nat.eq_of_beq_eq_true hd).symm (fun e => h (by rw [e]; exact List.mem_cons_self ..))
      · rfl
/-- The environment cut off behind n entries. -/
def Env.upto (n : Nat) (r : Env) : Env := ⟨fun i => if i < n then r.blk i else none, fun i => if i < n then r.val i else none⟩
theorem Env.upto_blk (n : Nat) (r : Env) : ∀ k b, (r.upto n).blk k = some b → r.blk k = some b := fun k b h => by
  simp only [Env.upto] at h
  split at h
  · exact h
  · cases h
theorem Env.upto_agree (n : Nat) (r : Env) : r.agree n (r.upto n) := fun i hi => by simp [Env.upto, hi]
theorem Ow.holds_agree {n i : Nat} {r r' : Env} {w : World} {o : Ow} (h : o.holds r w i) (ha : r.agree n r') (hb : o.bnd n = true) (hi : i < n) (hs : ∀ k b, r'.blk k = some b → r.blk k = some b) : o.holds r' w i := by
  cases o with
  | cells t l => obtain ⟨b, us, h1, h2, h3⟩ := h; exact ⟨b, us, by rw [← (ha i hi).1]; exact h1, h2, denL_agree ha _ _ hb h3⟩
  | row e size m xs => obtain ⟨v, h1, h2, h3⟩ := h; exact ⟨v, by rw [← (ha i hi).2]; exact h1, by rw [← (ha i hi).1]; exact h2, h3⟩
  | ext φ => obtain ⟨b, h1, h2⟩ := h; exact ⟨b, by rw [← (ha i hi).1]; exact h1, h2⟩
  | view φ n xs =>
    obtain ⟨A, c, h1, h2, h3, h4, h5⟩ := h
    refine ⟨A, c, by rw [← (ha i hi).2]; exact h1, h2, h3, by rw [← (ha i hi).1]; exact h4, fun j u hj => ?_⟩
    obtain ⟨b, off, h6, h7, h8, h9⟩ := h5 j u hj
    exact ⟨b, off, h6, h7, fun k hk => h8 k (hs k b hk), h9⟩
  | gone => trivial
theorem Rel.upto {S S' : List Ow} {r : Env} {w : World} (h : Rel w0 G S r w) {n : Nat} (hn : S'.length = n) (_hnS : n ≤ S.length) (hG : G.fix.length ≤ n) (hS : ∀ (i : Nat) (o : Ow), S'[i]? = some o → o.holds (r.upto n) w i) : Rel w0 G S' (r.upto n) w := by
  refine ⟨h.os, h.tape, h.output, h.size, h.old, hS, fun i j b hi hj => ?_, fun i b hi => ?_, fun i hi => ?_, fun i hi => ?_, fun i g hg => ?_⟩
  · simp only [Env.upto] at hi hj
    split at hi <;> split at hj <;> first | cases hi | cases hj | exact h.inj i j b hi hj
  · simp only [Env.upto] at hi
    split at hi
    · exact h.new i b hi
    · cases hi
  · simp only [Env.upto]; rw [if_neg (by omega)]
  · simp only [Env.upto]; rw [if_neg (by omega)]
  · simp only [Env.upto]
    have : i < G.fix.length := by
      rcases Nat.lt_or_ge i G.fix.length with h1 | h1
      · exact h1
      · rw [List.getElem?_eq_none h1] at hg; cases hg
    rw [if_pos (by omega)]; exact h.first i g hg
theorem allDst_put : ∀ (l : List Oper), allDst N.n l = true → ∀ {f : Fr} {S : List Ow} {a : Act} {w : World} {j : Nat} {pol x : Bool} {Q : Act → World → Prop} {rest : List Oper} {d : Nat}, slotOf ops j = some d → (∀ o ∈ l, o.guard = some (j, pol)) → x ≠ pol → f.get d = one (.bool x) → d ∉ dstsOf l →
    Good w0 G N f S a w → (∀ a', Good w0 G N (putsAny l f) S a' w → seL P ops Q rest a' w) → seL P ops Q (l ++ rest) a w
  | [], _, f, S, a, w, j, pol, x, Q, rest, d, _, _, _, _, _, hg, h => h a hg
  | o :: l, hD, f, S, a, w, j, pol, x, Q, rest, d, hs, hgd, hx, hfx, hnd, hg, h => by
    simp only [allDst] at hD
    split at hD
    · rename_i ho
      obtain ⟨r, hR, hf, hN, hd⟩ := hg
      refine step_not ?_ ?_
      · rw [wanted_some (hgd o (List.mem_cons_self ..)), yielded_of hf hs hfx]; simpa using hx
      · have hnd' : d ∉ dstsOf l ∧ ∀ e, o.dst = some e → d ≠ e := by
          simp only [dstsOf] at hnd
          cases hod : o.dst with
          | none => rw [hod] at hnd; exact ⟨hnd, nofun⟩
          | some e => rw [hod] at hnd; exact ⟨fun h => hnd (List.mem_cons_of_mem _ h), fun e' he => by injection he with he; subst he; rintro rfl; exact hnd (List.mem_cons_self ..)⟩
        refine allDst_put l hD hs (fun o ho => hgd o (List.mem_cons_of_mem _ ho)) hx (f := f.put o.dst (.p (.c .any))) ?_ hnd'.1 ⟨r, hR, hf.putAny undef (by rw [hN]; exact ho), (put_size a _ _).trans hN, (put_defers a _ _).trans hd⟩ h
        cases hod : o.dst with
        | none => simpa [Fr.put, hod] using hfx
        | some e =>
          have := hnd'.2 e hod
          simp only [Fr.put, Fr.get]
          split
          · rename_i he; exact absurd (Nat.eq_of_beq_eq_true he).symm this
          · exact hfx
    · cases hD
theorem pick_run {p : Oper} {d b : Nat} {pol x y : Bool} (hp : pickOf p d pol = some b) {a : Act} (hd : a.eval (.tmp d) = .bool x) (hb : x = pol → a.eval (.tmp b) = .bool y) (w : World) : p.guard = none ∧ (execOp a.eval p).run P w = .ok (.value (.bool (cmb pol x y))) w := by
  unfold pickOf at hp
  split at hp
  · cases hp
  · rename_i hg
    refine ⟨hg, ?_⟩
    split at hp
    · rename_i c b' hop
      split at hp
      · rename_i hc
        have := Nat.eq_of_beq_eq_true hc; subst this
        split at hp
        · injection hp with hp; subst hp
          cases x
          · have e1 : a.eval (.const (.bool false)) = .bool false := rfl
            simp [execOp, hop, hd, asBool, cmb, e1]
          · simp [execOp, hop, hd, asBool, cmb, hb rfl]
        · cases hp
      · cases hp
    · rename_i c b' hop
      split at hp
      · rename_i hc
        have := Nat.eq_of_beq_eq_true hc; subst this
        split at hp
        · injection hp with hp; subst hp
          cases x
          · simp [execOp, hop, hd, asBool, cmb, hb rfl]
          · have e1 : a.eval (.const (.bool true)) = .bool true := rfl
            simp [execOp, hop, hd, asBool, cmb, e1]
        · cases hp
      · cases hp
    · cases hp
end
end Go.Proofs.YtnhdcclpjildjaaGreat
namespace Go.Proofs.YtnhdcclpjildjaaGreat
open Go.RowKit

/-- The instruction at an address, as the lifter takes it. -/
def qAt (F : Int → Option QI) (a : Int) : QI := (F a).getD ⟨0, 0, 0, 0, 0⟩
def qAddr (pc : Int) (k : Nat) : Int := cut32 (pc + 4 * k)
/-- The operations of the instructions from number k on, n at most. -/
def liftOps (F : Int → Option QI) (pc : Int) (n : Nat) : Nat → Nat → List BOp
  | 0, _ => []
  | fuel + 1, k =>
    ⟨20, 0, 0, 0, (k : Int)⟩ :: (qBody (qAt F (qAddr pc k)) (qAddr pc k) ++
      (match qTail (qAt F (qAddr pc k)) (qAddr pc k) with
        | some t => t
        | none => if k + 1 = n then [⟨24, 0, 0, 0, cut32 (qAddr pc k + 4)⟩] else liftOps F pc n fuel (k + 1)))
/-- How many instructions there are. -/
def liftLen (F : Int → Option QI) (pc : Int) (n : Nat) : Nat → Nat → Nat
  | 0, k => k
  | fuel + 1, k =>
    (match qTail (qAt F (qAddr pc k)) (qAddr pc k) with
      | some _ => k + 1
      | none => if k + 1 = n then k + 1 else liftLen F pc n fuel (k + 1))
theorem liftOps_succ (F : Int → Option QI) (pc : Int) (n fuel k : Nat) : liftOps F pc n (fuel + 1) k = ⟨20, 0, 0, 0, (k : Int)⟩ :: (qBody (qAt F (qAddr pc k)) (qAddr pc k) ++
      (match qTail (qAt F (qAddr pc k)) (qAddr pc k) with
        | some t => t
        | none => if k + 1 = n then [⟨24, 0, 0, 0, cut32 (qAddr pc k + 4)⟩] else liftOps F pc n fuel (k + 1))) := rfl
theorem liftLen_succ (F : Int → Option QI) (pc : Int) (n fuel k : Nat) : liftLen F pc n (fuel + 1) k = (match qTail (qAt F (qAddr pc k)) (qAddr pc k) with
      | some _ => k + 1
      | none => if k + 1 = n then k + 1 else liftLen F pc n fuel (k + 1)) := rfl
theorem qAt_ok {F : Int → Option QI} (hF : ∀ a i, F a = some i → i.ok) (a : Int) : (qAt F a).ok := by
  unfold qAt
  cases h : F a with
  | none => exact ⟨by constructor <;> decide, by constructor <;> decide, by constructor <;> decide, by constructor <;> decide, by unfold word; constructor <;> decide⟩
  | some i => exact hF a i h
theorem qBody_length (i : QI) (a : Int) : (qBody i a).length ≤ 5 := by
  have hs : ∀ d n, (qSet d n).length ≤ 1 := fun d n => by unfold qSet; split <;> simp
  have ha : (qArith i).length ≤ 5 := by unfold qArith; split <;> split <;> (try split) <;> simp
  have ht : (qTest i).length ≤ 5 := by unfold qTest; split <;> simp
  have h1 := hs i.d (cut32 (i.imm * 1024))
  have h2 := hs i.d (cut32 (a + 4))
  unfold qBody
  repeat' split
  all_goals first | assumption | omega | simp [h2]
theorem qTail_length {i : QI} {a : Int} {t : List BOp} (h : qTail i a = some t) : t.length ≤ 2 := by
  unfold qTail at h
  repeat' split at h
  all_goals (cases h <;> simp)
theorem lift_run {F : Int → Option QI} (hF : ∀ a i, F a = some i → i.ok) (pc : Int) {n : Nat} (hn : n ≤ 64) : ∀ (fuel k : Nat) (pre : List BOp) (W : Nat) (ch : Bool), PreOk pre k W ch → k < n → n ≤ k + fuel →
    (∃ W' ch', ckRun ⟨0, 0, false⟩ (pre ++ liftOps F pc n fuel k) = some ⟨liftLen F pc n fuel k, W', ch'⟩) ∧ (∀ o ∈ liftOps F pc n fuel k, o.ok ∧ clean o) ∧ k < liftLen F pc n fuel k ∧ liftLen F pc n fuel k ≤ n ∧ (liftOps F pc n fuel k).length ≤ 8 * (n - k) ∧ ∃ l, liftOps F pc n fuel k = ⟨20, 0, 0, 0, (k : Int)⟩ :: l
  | 0, k, pre, W, ch, h, hk, hf => by omega
  | fuel + 1, k, pre, W, ch, h, hk, hf => by
    have hi := qAt_ok hF (qAddr pc k)
    obtain ⟨i, hi0⟩ : ∃ i, qAt F (qAddr pc k) = i := ⟨_, rfl⟩
    rw [liftOps_succ, liftLen_succ]
    rw [hi0] at hi ⊢
    obtain ⟨W1, ch1, hb, ht⟩ := qins_ok hi (qAddr pc k)
    have hm : mid 0 := mid0
    have hmark := h.mark (by omega)
    have hpre := hmark.body hb.body (by omega)
    have hbl := qBody_length i (qAddr pc k)
    have hmok : BOp.ok ⟨20, 0, 0, 0, (k : Int)⟩ ∧ clean ⟨20, 0, 0, 0, (k : Int)⟩ := ⟨⟨mid_small (by dsimp only; omega), mid0, mid0, mid0, by unfold word; dsimp only; omega⟩, clean_none (by omega)⟩
    have hbo : ∀ o ∈ qBody i (qAddr pc k), o.ok ∧ clean o := fun o ho => ⟨(hb.body.all o ho).1, hb.clean o ho⟩
    have fin : ∀ t, TailW t W1 ch1 → t.length ≤ 2 → (∃ W' ch', ckRun ⟨0, 0, false⟩ (pre ++ (⟨20, 0, 0, 0, (k : Int)⟩ :: (qBody i (qAddr pc k) ++ t))) = some ⟨k + 1, W', ch'⟩) ∧ (∀ o ∈ (⟨20, 0, 0, 0, (k : Int)⟩ : BOp) :: (qBody i (qAddr pc k) ++ t), o.ok ∧ clean o) ∧ k < k + 1 ∧ k + 1 ≤ n ∧ ((⟨20, 0, 0, 0, (k : Int)⟩ : BOp) :: (qBody i (qAddr pc k) ++ t)).length ≤ 8 * (n - k) ∧ ∃ l, (⟨20, 0, 0, 0, (k : Int)⟩ : BOp) :: (qBody i (qAddr pc k) ++ t) = ⟨20, 0, 0, 0, (k : Int)⟩ :: l := by
      intro t htw htl
      obtain ⟨W', ch', hr⟩ := htw.run (k + 1)
      refine ⟨⟨W', ch', ?_⟩, fun o ho => ?_, by omega, by omega, by simp; omega, _, rfl⟩
      · rw [show pre ++ ((⟨20, 0, 0, 0, (k : Int)⟩ : BOp) :: (qBody i (qAddr pc k) ++ t)) = (pre ++ [⟨20, 0, 0, 0, (k : Int)⟩] ++ qBody i (qAddr pc k)) ++ t by simp]
        rw [ckRun_pre hpre.run (fun o ho => (hpre.all o ho).2) htw.ne]
        exact hr
      · rcases List.mem_cons.1 ho with rfl | ho
        · exact hmok
        · rcases List.mem_append.1 ho with ho | ho
          · exact hbo o ho
          · exact htw.all o ho
    cases hq : qTail i (qAddr pc k) with
    | some t => exact fin t (ht t hq) (qTail_length hq)
    | none =>
      by_cases hkn : k + 1 = n
      · simp only [if_pos hkn]
        exact fin _ (tailW_exit (cut32_word _) W1 ch1) (by simp)
      · simp only [if_neg hkn]
        obtain ⟨⟨W', ch', r1⟩, r2, r3, r4, r5, _⟩ := lift_run hF pc hn fuel (k + 1) _ W1 ch1 hpre (by omega) (by omega)
        refine ⟨⟨W', ch', ?_⟩, fun o ho => ?_, by omega, r4, ?_, _, rfl⟩
        · rw [← r1]
          congr 1
          simp
        · rcases List.mem_cons.1 ho with rfl | ho
          · exact hmok
          · rcases List.mem_append.1 ho with ho | ho
            · exact hbo o ho
            · exact r2 o ho
        · simp only [List.length_cons, List.length_append]
          omega
/-- The addresses of the instructions. -/
def liftAts (pc : Int) (m : Nat) : List Int := (List.range m).map (qAddr pc)
/-- The block of n instructions at most. -/
def liftB (F : Int → Option QI) (pc : Int) (n : Nat) (pages : List Int) : Blk := ⟨liftAts pc (liftLen F pc n n 0), pages, liftOps F pc n n 0⟩
theorem pages_small : ∀ {l : List Int} {q : Option Int}, pagesFrom q l = true → ∀ x ∈ l, 0 ≤ x ∧ x < 4096
  | [], _, _, x, hx => by cases hx
  | p :: l, q, h, x, hx => by
    simp only [pagesFrom, Bool.and_eq_true] at h
    rcases List.mem_cons.1 hx with rfl | hx
    · simpa using h.1.1
    · exact pages_small h.2 x hx
/-- P14.2. -/
theorem lift_valid {F : Int → Option QI} (hF : ∀ a i, F a = some i → i.ok) (pc : Int) {n : Nat} (h1 : 1 ≤ n) (hn : n ≤ 64) {pages : List Int} (hp : pagesFrom none pages = true) (hpl : pages.length ≤ 1000) :
    (liftB F pc n pages).ok ∧ validB (liftB F pc n pages) = true ∧ (∀ o ∈ (liftB F pc n pages).ops, clean o) ∧ 1 ≤ (liftB F pc n pages).at_.length ∧ (liftB F pc n pages).at_.length ≤ n ∧ (liftB F pc n pages).ops.length ≤ 512 := by
  obtain ⟨⟨W, ch, hr⟩, hall, hlo, hhi, hlen, l, hl⟩ := lift_run hF pc hn n 0 [] 0 false PreOk.nil (by omega) (by omega)
  have hal : (liftAts pc (liftLen F pc n n 0)).length = liftLen F pc n n 0 := by simp [liftAts]
  have hops : (liftOps F pc n n 0).length ≤ 512 := by omega
  rw [List.nil_append] at hr
  refine ⟨⟨fun x hx => ?_, fun x hx => ?_, fun o ho => (hall o ho).1, ?_, ?_, ?_⟩, ?_, fun o ho => (hall o ho).2, ?_, ?_, hops⟩
  · obtain ⟨k, _, rfl⟩ := List.mem_map.1 hx
    exact cut32_word _
  · have := pages_small hp x hx
    unfold mid; omega
  · show (liftAts _ _).length ≤ _; omega
  · show pages.length ≤ _; omega
  · show (liftOps _ _ _ _ _).length ≤ _; omega
  · unfold validB liftB
    dsimp only
    rw [hr]
    have e2 : decide (1 ≤ (liftAts pc (liftLen F pc n n 0)).length ∧ (liftAts pc (liftLen F pc n n 0)).length ≤ 64) = true := by rw [decide_eq_true_eq]; omega
    have e3 : decide (1 ≤ (liftOps F pc n n 0).length ∧ (liftOps F pc n n 0).length ≤ 2000) = true := by rw [decide_eq_true_eq]; rw [hl] at hops ⊢; simp at hops ⊢; omega
    have hh : headerB ⟨liftAts pc (liftLen F pc n n 0), pages, liftOps F pc n n 0⟩ = true := by
      unfold headerB
      dsimp only
      rw [hp, e2, e3, hl]
      rfl
    rw [hh]
    simp [hal]
  · show 1 ≤ (liftAts _ _).length; omega
  · show (liftAts _ _).length ≤ n; omega
end Go.Proofs.YtnhdcclpjildjaaGreat
namespace Go.Proofs.YtnhdcclpjildjaaGreat
open Go.RowKit

/-- The sign extension of the lowest bits of a word. -/
def sgnW (n : Int) (bits : Nat) : Int := if 2 ^ (bits - 1) ≤ n % 2 ^ bits then n % 2 ^ bits + (4294967296 - 2 ^ bits) else n % 2 ^ bits
structure QForm where
  is : Bool
  d : Bool
  a : Bool
  b : Bool
  signed : Bool
  bits : Nat
  most : Int
def qForm (op : Int) : QForm :=
  if 1 ≤ op ∧ op ≤ 12 then ⟨true, true, true, true, false, 0, 0⟩
  else if 17 ≤ op ∧ op ≤ 19 then ⟨true, true, true, false, false, 18, 0⟩
  else if (16 ≤ op ∧ op ≤ 27) ∨ (32 ≤ op ∧ op ≤ 37) then ⟨true, true, true, false, true, 18, 0⟩
  else if op = 40 then ⟨true, true, false, false, true, 22, 0⟩
  else if op = 41 then ⟨true, true, false, false, false, 22, 0⟩
  else if op = 48 then ⟨true, false, false, false, false, 18, 0⟩
  else if 49 ≤ op ∧ op ≤ 51 then ⟨true, false, false, false, false, 0, 0⟩
  else if op = 52 then ⟨true, false, true, false, false, 0, 0⟩
  else if op = 53 then ⟨true, true, false, false, false, 18, 3⟩
  else if op = 54 then ⟨true, false, true, false, false, 18, 4⟩
  else ⟨false, false, false, false, false, 0, 0⟩
theorem qForm_cases (op : Int) : ((qForm op).bits = 0 ∨ (qForm op).bits = 18 ∨ (qForm op).bits = 22) ∧ 0 ≤ (qForm op).most ∧ (qForm op).most ≤ 4 ∧ ((qForm op).signed = true → 0 < (qForm op).bits ∧ (qForm op).most = 0) ∧ ((qForm op).is = true → 1 ≤ op ∧ op ≤ 54) ∧ ((qForm op).b = true → (qForm op).bits = 0) ∧ ((qForm op).bits = 22 → (qForm op).a = false) ∧ (0 < (qForm op).most → (qForm op).bits = 18) := by
  unfold qForm
  repeat' split
  all_goals refine ⟨?_, ?_, ?_, ?_, ?_, ?_, ?_, ?_⟩
  all_goals first | omega | (intro h; cases h; done) | (dsimp only; omega) | simp | (intro h; first | cases h | omega | (dsimp only at h ⊢; omega))
def regB (n : Int) (used : Bool) : Bool := decide (n = 0) || (used && decide (0 < n) && decide (n < 16))
def immB (f : QForm) (n : Int) : Bool :=
  if f.bits = 0 then decide (n = 0) else if f.signed then decide (sgnW n f.bits = n) else if 0 < f.most then decide (n ≤ f.most) else decide (n < 2 ^ f.bits)
def validQ (i : QI) : Bool := (qForm i.op).is && regB i.d (qForm i.op).d && regB i.a (qForm i.op).a && regB i.b (qForm i.op).b && immB (qForm i.op) i.imm
def wordQ (i : QI) : Int := i.op * 67108864 + i.d * 4194304 + i.a * 262144 + i.b * 16384 + i.imm % 2 ^ (qForm i.op).bits
def encQ (i : QI) : Option Int := if validQ i then some (wordQ i) else none
def fieldsQ (w : Int) : QI :=
  ⟨w / 67108864, if (qForm (w / 67108864)).d then w / 4194304 % 16 else 0, if (qForm (w / 67108864)).a then w / 262144 % 16 else 0, if (qForm (w / 67108864)).b then w / 16384 % 16 else 0,
    if (qForm (w / 67108864)).signed then sgnW (w % 2 ^ (qForm (w / 67108864)).bits) (qForm (w / 67108864)).bits else w % 2 ^ (qForm (w / 67108864)).bits⟩
def decQ (w : Int) : Option QI := if encQ (fieldsQ w) = some w then some (fieldsQ w) else none
theorem sgn18 (n : Int) : sgnW n 18 = if 131072 ≤ n % 262144 then n % 262144 + 4294705152 else n % 262144 := rfl
theorem sgn22 (n : Int) : sgnW n 22 = if 2097152 ≤ n % 4194304 then n % 4194304 + 4290772992 else n % 4194304 := rfl
theorem sgnW_word (n : Int) {bits : Nat} (h : bits = 0 ∨ bits = 18 ∨ bits = 22) (h0 : 0 < bits) : word (sgnW n bits) := by
  unfold word
  rcases h with rfl | rfl | rfl
  · omega
  · rw [sgn18]; split <;> omega
  · rw [sgn22]; split <;> omega
theorem sgnW_low (n : Int) {bits : Nat} (_h : bits = 0 ∨ bits = 18 ∨ bits = 22) (_h0 : 0 < bits) : sgnW (n % 2 ^ bits) bits = sgnW n bits := by
  unfold sgnW
  rw [Int.emod_emod_of_dvd n (Int.dvd_refl _)]
theorem low_range (n : Int) {bits : Nat} (h : bits = 0 ∨ bits = 18 ∨ bits = 22) : 0 ≤ n % 2 ^ bits ∧ n % 2 ^ bits < 2 ^ bits := by
  rcases h with rfl | rfl | rfl
  · exact ⟨by show 0 ≤ n % 1; omega, by show n % 1 < 1; omega⟩
  · exact ⟨by show 0 ≤ n % 262144; omega, by show n % 262144 < 262144; omega⟩
  · exact ⟨by show 0 ≤ n % 4194304; omega, by show n % 4194304 < 4194304; omega⟩
theorem decQ_fields {w : Int} {i : QI} (h : decQ w = some i) : i = fieldsQ w ∧ encQ i = some w := by
  unfold decQ at h
  split at h
  · rename_i he
    injection h with h
    subst h
    exact ⟨rfl, he⟩
  · cases h
theorem decQ_valid {w : Int} {i : QI} (h : decQ w = some i) : validQ i = true ∧ wordQ i = w := by
  have h2 := (decQ_fields h).2
  unfold encQ at h2
  split at h2
  · rename_i hv
    injection h2 with h2
    exact ⟨hv, h2⟩
  · cases h2
theorem regB_range {n : Int} {u : Bool} (h : regB n u = true) : 0 ≤ n ∧ n < 16 ∧ (u = false → n = 0) := by
  unfold regB at h
  cases u <;> simp at h <;> (refine ⟨by omega, by omega, fun hu => ?_⟩) <;> first | omega | cases hu
theorem validQ_parts {i : QI} (h : validQ i = true) : (qForm i.op).is = true ∧ regB i.d (qForm i.op).d = true ∧ regB i.a (qForm i.op).a = true ∧ regB i.b (qForm i.op).b = true ∧ immB (qForm i.op) i.imm = true := by
  unfold validQ at h
  simp only [Bool.and_eq_true] at h
  exact ⟨h.1.1.1.1, h.1.1.1.2, h.1.1.2, h.1.2, h.2⟩
theorem decQ_ok {w : Int} {i : QI} (_hw : word w) (h : decQ w = some i) : i.ok := by
  obtain ⟨hv, _⟩ := decQ_valid h
  obtain ⟨he, _⟩ := decQ_fields h
  obtain ⟨h1, h2, h3, h4, h5⟩ := validQ_parts hv
  obtain ⟨q1, q2, q3, q4, q5, _⟩ := qForm_cases i.op
  have r2 := regB_range h2
  have r3 := regB_range h3
  have r4 := regB_range h4
  have r1 := q5 h1
  refine ⟨by omega, ⟨r2.1, r2.2.1⟩, ⟨r3.1, r3.2.1⟩, ⟨r4.1, r4.2.1⟩, ?_⟩
  have hop : i.op = w / 67108864 := by rw [he]; rfl
  have himm : i.imm = if (qForm (w / 67108864)).signed then sgnW (w % 2 ^ (qForm (w / 67108864)).bits) (qForm (w / 67108864)).bits else w % 2 ^ (qForm (w / 67108864)).bits := by rw [he]; rfl
  rw [← hop] at himm
  rw [himm]
  split
  · rename_i hs
    exact sgnW_word _ q1 (q4 hs).1
  · have := low_range w q1
    unfold word
    rcases q1 with q | q | q
    · rw [q] at this ⊢; have h2 : (2 : Int) ^ 0 = 1 := rfl; omega
    · rw [q] at this ⊢; have h2 : (2 : Int) ^ 18 = 262144 := rfl; omega
    · rw [q] at this ⊢; have h2 : (2 : Int) ^ 22 = 4194304 := rfl; omega
/-- What is encoded is decoded again. -/
theorem decQ_word {i : QI} (hv : validQ i = true) (him : word i.imm) : decQ (wordQ i) = some i ∧ word (wordQ i) := by
  obtain ⟨h1, h2, h3, h4, h5⟩ := validQ_parts hv
  obtain ⟨q1, q2, q2', q4, q5, q6, q7, q8⟩ := qForm_cases i.op
  have r2 := regB_range h2
  have r3 := regB_range h3
  have r4 := regB_range h4
  have r1 := q5 h1
  have lo := low_range i.imm q1
  have hw0 : wordQ i = i.op * 67108864 + i.d * 4194304 + i.a * 262144 + i.b * 16384 + i.imm % 2 ^ (qForm i.op).bits := rfl
  have key : wordQ i / 67108864 = i.op ∧ word (wordQ i) ∧ ((qForm i.op).d = true → wordQ i / 4194304 % 16 = i.d) ∧ ((qForm i.op).a = true → wordQ i / 262144 % 16 = i.a) ∧ ((qForm i.op).b = true → wordQ i / 16384 % 16 = i.b) ∧ wordQ i % 2 ^ (qForm i.op).bits = i.imm % 2 ^ (qForm i.op).bits := by
    rw [hw0]
    unfold word
    rcases q1 with q | q | q
    · rw [q] at lo ⊢
      have e : (2 : Int) ^ 0 = 1 := rfl
      rw [e] at lo ⊢
      refine ⟨by omega, by omega, fun _ => by omega, fun _ => by omega, fun _ => by omega, by omega⟩
    · have hb := r4.2.2 (by cases hb : (qForm i.op).b with | false => rfl | true => rw [q6 hb] at q; cases q)
      rw [q] at lo ⊢
      have e : (2 : Int) ^ 18 = 262144 := rfl
      rw [e] at lo ⊢
      refine ⟨by omega, by omega, fun _ => by omega, fun _ => by omega, fun h => ?_, by omega⟩
      have := q6 h; omega
    · have hb := r4.2.2 (by cases hb : (qForm i.op).b with | false => rfl | true => rw [q6 hb] at q; cases q)
      have ha := r3.2.2 (q7 q)
      have ha2 := q7 q
      rw [q] at lo ⊢
      have e : (2 : Int) ^ 22 = 4194304 := rfl
      rw [e] at lo ⊢
      refine ⟨by omega, by omega, fun _ => by omega, fun h => ?_, fun h => ?_, by omega⟩
      · rw [ha2] at h; cases h
      · have := q6 h; omega
  obtain ⟨k1, k2, k3, k4, k5, k6⟩ := key
  have hf : fieldsQ (wordQ i) = i := by
    unfold fieldsQ
    rw [k1, k6]
    have e1 : (if (qForm i.op).d then wordQ i / 4194304 % 16 else 0) = i.d := by
      cases hd : (qForm i.op).d with
      | true => exact k3 hd
      | false => exact (r2.2.2 hd).symm
    have e2 : (if (qForm i.op).a then wordQ i / 262144 % 16 else 0) = i.a := by
      cases hd : (qForm i.op).a with
      | true => exact k4 hd
      | false => exact (r3.2.2 hd).symm
    have e3 : (if (qForm i.op).b then wordQ i / 16384 % 16 else 0) = i.b := by
      cases hd : (qForm i.op).b with
      | true => exact k5 hd
      | false => exact (r4.2.2 hd).symm
    have e4 : (if (qForm i.op).signed then sgnW (i.imm % 2 ^ (qForm i.op).bits) (qForm i.op).bits else i.imm % 2 ^ (qForm i.op).bits) = i.imm := by
      unfold immB at h5
      cases hs : (qForm i.op).signed with
      | true =>
        have hpos := (q4 hs).1
        rw [hs, if_neg (by omega)] at h5
        rw [if_pos rfl, sgnW_low _ q1 hpos]
        simpa using h5
      | false =>
        rw [hs] at h5
        rw [if_neg (by decide)]
        unfold word at him
        rcases q1 with q | q | q
        · rw [q] at h5 ⊢
          have h0 : i.imm = 0 := by simpa using h5
          rw [h0]; rfl
        · rw [q, if_neg (by decide), if_neg (by decide)] at h5
          rw [q]
          have e : (2 : Int) ^ 18 = 262144 := rfl
          rw [e] at h5 ⊢
          split at h5
          · have := of_decide_eq_true h5; omega
          · have := of_decide_eq_true h5; omega
        · rw [q, if_neg (by decide), if_neg (by decide)] at h5
          rw [q]
          have e : (2 : Int) ^ 22 = 4194304 := rfl
          rw [e] at h5 ⊢
          split at h5
          · have := of_decide_eq_true h5; omega
          · have := of_decide_eq_true h5; omega
    rw [e1, e2, e3, e4]
  refine ⟨?_, k2⟩
  unfold decQ
  rw [hf]
  unfold encQ
  rw [if_pos hv, if_pos rfl]
end Go.Proofs.YtnhdcclpjildjaaGreat
namespace Go.Proofs.YtnhdcclpjildjaaGreat
open Go.RowKit

section
variable {P : Program} {w0 : World} {G : Gs} {N : Nd} {ops : Array Oper}
theorem onTop_agree {n : Nat} {r : Env} {f f' : Fr} {grp : List Oper} {d : Nat} {x : Bool} {a : Act} (hfx : f.get d = one (.bool x)) (htop : onTop (dstsOf grp) ((d, one (.bool x)) :: f) (putN grp) f') (hf : FDen r f' a) (hb : f.bnd n = true) : FDen (r.upto n) (putsAny grp f) a := by
  intro k
  rcases putsAny_get grp f k with h | ⟨h1, h2⟩
  · rw [h]; simp [AV.den, Pc.den, CV.den]
  · rw [h1]
    have e1 := onTop_get _ _ htop k h2
    have e2 := hf k
    rw [e1] at e2
    simp only [Fr.get] at e2
    split at e2
    · rename_i hk
      have := Nat.eq_of_beq_eq_true hk; subst this
      rw [hfx]
      exact AV.den_agree (Env.upto_agree n r) _ _ rfl e2
    · exact AV.den_agree (Env.upto_agree n r) _ _ (Fr.bnd_get k hb) e2
end
theorem sbnd_get {n : Nat} : ∀ {S : List Ow} {i : Nat} {o : Ow}, sbnd n S = true → S[i]? = some o → o.bnd n = true
  | [], i, o, _, h => by simp at h
  | x :: S, i, o, hb, h => by
    simp only [sbnd] at hb
    split at hb
    · rename_i hx
      cases i with
      | zero => simp at h; subst h; exact hx
      | succ i => exact sbnd_get hb (by simpa using h)
    · cases hb
section
variable {P : Program} {w0 : World} {G : Gs} {N : Nd} {ops : Array Oper}
theorem opsK_sound {Q : Act → World → Prop} : ∀ (n : Nat) (l : List Oper) (f : Fr) (S : List Ow) (K : Fr → List Ow → Prop), opsK P w0 G N ops n l f S K → (∀ f' S' a' w', K f' S' → Good w0 G N f' S' a' w' → Q a' w') →
    ∀ a w, Good w0 G N f S a w → seL P ops Q l a w
  | _, [], f, S, K, h, hK, a, w, hg => by cases ‹Nat› <;> exact hK _ _ _ _ h hg
  | 0, o :: l, f, S, K, h, hK, a, w, hg => h.elim
  | n + 1, o :: l, f, S, K, h, hK, a, w, hg => by
    unfold opsK at h
    have hsplit : ∀ {j d : Nat} {pol x : Bool}, o.guard = some (j, pol) → slotOf ops j = some d → f.get d = one (.bool x) →
        ((x = pol → opK P w0 G N o ((d, one (.bool pol)) :: f) S fun f' S' => opsK P w0 G N ops n l f' S' K) ∧
          (x = (!pol) → match dstOk N.n o.dst with | true => (Fr.putK ((d, one (.bool (!pol))) :: f) o.dst (.p (.c .any)) fun f' => opsK P w0 G N ops n l f' S K) | false => False)) → seL P ops Q (o :: l) a w := by
      intro j d pol x hg' hs hfx ⟨h1, h2⟩
      by_cases hx : x = pol
      · obtain ⟨r, hR, hf, hN, hd⟩ := hg.known (d := d) (x := one (.bool pol)) (by rw [hfx, hx])
        refine step_do ?_ ((opK_sound (h1 hx)).out r a w hR hf hN hd _ (fun _ _ _ => True) fun f' S' a' w' hk hgd => opsK_sound n l f' S' K hk hK a' w' hgd)
        rw [wanted_some hg', yielded_of hf hs (get_cons_self d _ f)]; simp
      · have hx' : x = !pol := by cases x <;> cases pol <;> simp_all
        have h2 := h2 hx'
        obtain ⟨r, hR, hf, hN, hd⟩ := hg.known (d := d) (x := one (.bool (!pol))) (by rw [hfx, hx'])
        split at h2
        · rename_i hdst
          refine step_not ?_ (opsK_sound n l _ S K (putK_iff.1 h2) hK _ _ ⟨r, hR, hf.putAny undef (by rw [hN]; exact hdst), (put_size a _ _).trans hN, (put_defers a _ _).trans hd⟩)
          rw [wanted_some hg', yielded_of hf hs (get_cons_self d _ f)]; cases pol <;> simp
        · exact h2.elim
    split at h
    · rename_i hgd
      obtain ⟨r, hR, hf, hN, hd⟩ := hg
      exact step_do (wanted_none hgd _) ((opK_sound h).out r a w hR hf hN hd _ (fun _ _ _ => True) fun f' S' a' w' hk hg' => opsK_sound n l f' S' K hk hK a' w' hg')
    · rename_i j pol hgd
      split at h
      · exact h.elim
      · rename_i d hs
        split at h
        · rename_i x hfx
          split at h
          · rename_i grp p rem hspan
            split at h
            · rename_i b hpick
              split at h
              · rename_i hD hpd hmem
                have hmem := memN_not hmem
                obtain ⟨y, hy, hrest⟩ := h
                rw [putsAnyK_iff, putK_iff] at hrest
                have hall : ∀ o ∈ grp, o.guard = some (j, pol) := fun o' ho' => spanG_all j pol (o :: l) o' (by rw [hspan]; exact ho')
                have happ : grp ++ p :: rem = o :: l := by have := spanG_append j pol (o :: l); rw [hspan] at this; exact this
                rw [← happ]
                by_cases hx : x = pol
                · have h1 := hy hx
                  refine seqK_sound hs grp _ S _ hall h1 ?_ a w (hg.known (d := d) (x := one (.bool pol)) (by rw [hfx, hx]))
                  rintro f' S' a' w' ⟨htop, htake, hb, hbnd, hgrp⟩ ⟨r', hR', hf', hN', hd'⟩
                  subst hx
                  have hS : S.length ≤ S'.length := by
                    have := congrArg List.length htake
                    simp at this; omega
                  have hfd := onTop_agree (grp := grp) hfx htop hf' hbnd
                  have hR2 : Rel w0 G S' r' w' := hR'
                  have eb : a'.eval (.tmp b) = .bool y := by have := hf' b; rw [hb] at this; exact den_v this
                  have ed : a'.eval (.tmp d) = .bool x := by
                    have h2 := hf' d
                    rw [onTop_get _ _ htop d hmem, get_cons_self] at h2
                    exact den_v h2
                  obtain ⟨hpg, hprun⟩ := pick_run (P := P) hpick (a := a') ed (fun _ => eb) w'
                  refine step_do (wanted_none hpg _) (wp_of_value hprun ?_)
                  refine opsK_sound n rem _ S K hrest hK _ _ ⟨r'.upto S.length, ?_, hfd.put (den_one _ _) (by rw [hN']; exact hpd), (put_size a' _ _).trans hN', (put_defers a' _ _).trans hd'⟩
                  unfold grpOk at hgrp
                  split at hgrp
                  · rename_i hG
                    refine hR2.upto rfl hS (Nat.le_of_ble_eq_true hG) fun i o' ho' => ?_
                    have hil : i < S.length := by
                      rcases Nat.lt_or_ge i S.length with h1 | h1
                      · exact h1
                      · rw [List.getElem?_eq_none h1] at ho'; cases ho'
                    have ho2 : S'[i]? = some o' := by rw [← htake, List.getElem?_take] at ho'; rw [if_pos hil] at ho'; exact ho'
                    exact Ow.holds_agree (hR2.own i o' ho2) (Env.upto_agree _ _) (sbnd_get hgrp ho') hil (Env.upto_blk _ _)
                  · cases hgrp
                · refine allDst_put grp hD hs hall hx hfx hmem hg fun a' hg' => ?_
                  obtain ⟨r', hR', hf', hN', hd'⟩ := hg'
                  have ed : a'.eval (.tmp d) = .bool x := by
                    have h2 := hf' d
                    rw [putsAny_far grp f d hmem, hfx] at h2
                    exact den_v h2
                  obtain ⟨hpg, hprun⟩ := pick_run (P := P) (y := y) hpick (a := a') ed (fun e => absurd e hx) w
                  refine step_do (wanted_none hpg _) (wp_of_value hprun ?_)
                  exact opsK_sound n rem _ S K hrest hK _ _ ⟨r', hR', hf'.put (den_one _ _) (by rw [hN']; exact hpd), (put_size a' _ _).trans hN', (put_defers a' _ _).trans hd'⟩
              · exact h.elim
            · exact hsplit hgd hs hfx h
          · exact hsplit hgd hs hfx h
        · exact h.elim
end
end Go.Proofs.YtnhdcclpjildjaaGreat
namespace Go.Proofs.YtnhdcclpjildjaaGreat
open Go.RowKit

/-- In increasing order, each once. -/
def Inc (l : List Int) : Prop := l.Pairwise (· < ·)
/-- A page is put in its place, if it is not there. -/
def putP : List Int → Int → List Int
  | [], p => [p]
  | x :: l, p => if x = p then x :: l else if p < x then p :: x :: l else x :: putP l p
theorem mem_putP {l : List Int} {p x : Int} : x ∈ putP l p ↔ x = p ∨ x ∈ l := by
  induction l with
  | nil => simp [putP]
  | cons y l ih =>
    unfold putP
    split
    · rename_i h; subst h; simp
    · split
      · simp
      · simp only [List.mem_cons, ih]
        constructor
        · rintro (h | h | h) <;> simp [h]
        · rintro (h | h | h) <;> simp [h]
theorem putP_inc {l : List Int} {p : Int} (h : Inc l) : Inc (putP l p) := by
  induction l with
  | nil => simp [putP, Inc]
  | cons y l ih =>
    unfold Inc at h
    rw [List.pairwise_cons] at h
    unfold putP
    split
    · unfold Inc; rw [List.pairwise_cons]; exact h
    · split
      · rename_i h1 h2
        unfold Inc
        rw [List.pairwise_cons, List.pairwise_cons]
        refine ⟨fun x hx => ?_, h⟩
        rcases List.mem_cons.1 hx with rfl | hx
        · exact h2
        · exact Int.lt_trans h2 (h.1 x hx)
      · rename_i h1 h2
        unfold Inc
        rw [List.pairwise_cons]
        refine ⟨fun x hx => ?_, ih h.2⟩
        rcases mem_putP.1 hx with rfl | hx
        · omega
        · exact h.1 x hx
theorem pagesFrom_inc : ∀ {l : List Int} {q : Option Int}, Inc l → (∀ x ∈ l, 0 ≤ x ∧ x < 4096) → (∀ p, q = some p → ∀ x ∈ l, p < x) → pagesFrom q l = true
  | [], _, _, _, _ => rfl
  | x :: l, q, hi, hr, hq => by
    unfold Inc at hi
    rw [List.pairwise_cons] at hi
    have h1 : decide (0 ≤ x ∧ x < 4096) = true := decide_eq_true (hr x (by simp))
    have h2 : (match q with | none => true | some q => decide (q < x)) = true := by
      cases q with
      | none => rfl
      | some p => exact decide_eq_true (hq p rfl x (by simp))
    have h3 : pagesFrom (some x) l = true := pagesFrom_inc hi.2 (fun y hy => hr y (by simp [hy])) (fun p hp y hy => by injection hp with hp; subst hp; exact hi.1 y hy)
    unfold pagesFrom
    rw [h1, h3]
    cases q with
    | none => rfl
    | some p => simpa using h2
/-- The page of an address. -/
def pageOf (a : Int) : Int := cut32 a / 256
def addPage (l : List Int) (a : Int) : List Int := if pageOf a < 4096 then putP l (pageOf a) else l
def addPages (l : List Int) (a : Int) : List Int := addPage (addPage (addPage (addPage l a) (a + 1)) (a + 2)) (a + 3)
/-- The pages of the first m instructions. -/
def liftPages (pc : Int) : Nat → List Int
  | 0 => []
  | m + 1 => addPages (liftPages pc m) (qAddr pc m)
structure PagesIn (l : List Int) : Prop where
  inc : Inc l
  range : ∀ x ∈ l, 0 ≤ x ∧ x < 4096
theorem addPage_in {l : List Int} (h : PagesIn l) (a : Int) : PagesIn (addPage l a) := by
  unfold addPage
  split
  · rename_i hp
    refine ⟨putP_inc h.inc, fun x hx => ?_⟩
    rcases mem_putP.1 hx with rfl | hx
    · refine ⟨?_, hp⟩
      have := cut32_word a
      unfold word at this
      unfold pageOf
      omega
    · exact h.range x hx
  · exact h
theorem addPages_in {l : List Int} (h : PagesIn l) (a : Int) : PagesIn (addPages l a) := addPage_in (addPage_in (addPage_in (addPage_in h a) _) _) _
theorem liftPages_in (pc : Int) : ∀ m, PagesIn (liftPages pc m)
  | 0 => ⟨List.Pairwise.nil, nofun⟩
  | m + 1 => addPages_in (liftPages_in pc m) _
theorem putP_length (l : List Int) (p : Int) : (putP l p).length ≤ l.length + 1 := by
  induction l with
  | nil => simp [putP]
  | cons y l ih => unfold putP; split <;> (try split) <;> simp <;> omega
theorem addPage_length (l : List Int) (a : Int) : (addPage l a).length ≤ l.length + 1 := by
  unfold addPage; split
  · exact putP_length _ _
  · omega
theorem addPages_length (l : List Int) (a : Int) : (addPages l a).length ≤ l.length + 4 := by
  have h1 := addPage_length l a
  have h2 := addPage_length (addPage l a) (a + 1)
  have h3 := addPage_length (addPage (addPage l a) (a + 1)) (a + 2)
  have h4 := addPage_length (addPage (addPage (addPage l a) (a + 1)) (a + 2)) (a + 3)
  unfold addPages; omega
theorem liftPages_length (pc : Int) : ∀ m, (liftPages pc m).length ≤ 4 * m
  | 0 => by simp [liftPages]
  | m + 1 => by have := liftPages_length pc m; have := addPages_length (liftPages pc m) (qAddr pc m); unfold liftPages; omega
/-- The block that the lifter makes. -/
def liftQ (F : Int → Option QI) (pc : Int) (n : Nat) : Blk := liftB F pc n (liftPages pc (liftLen F pc n n 0))
theorem liftQ_valid {F : Int → Option QI} (hF : ∀ a i, F a = some i → i.ok) (pc : Int) {n : Nat} (h1 : 1 ≤ n) (hn : n ≤ 64) : (liftQ F pc n).ok ∧ validB (liftQ F pc n) = true ∧ ∀ o ∈ (liftQ F pc n).ops, clean o := by
  have hin := liftPages_in pc (liftLen F pc n n 0)
  have hlen := liftPages_length pc (liftLen F pc n n 0)
  obtain ⟨_, _, _, hhi, _⟩ := lift_run hF pc hn n 0 [] 0 false PreOk.nil (by omega) (by omega)
  obtain ⟨a, b, c, _⟩ := lift_valid hF pc h1 hn (pagesFrom_inc hin.inc hin.range nofun) (by omega)
  exact ⟨a, b, c⟩
end Go.Proofs.YtnhdcclpjildjaaGreat
namespace Go.Proofs.YtnhdcclpjildjaaGreat
open Go.RowKit

section
variable (ro : Option Nat) (P : Program) (w0 : World) (G : Gs) (N : Nd)
def PostK (K : Exit → Fr → List Ow → Prop) : Exit → Act → World → Prop := fun e a w => ∃ f S, K e f S ∧ Good w0 G N f S a w
/-- What is to be shown of a piece of code, whatever world and frame of this kind. -/
structure Sat (c : Code) (f : Fr) (S : List Ow) (K : Exit → Fr → List Ow → Prop) : Prop where
  out : ∀ n a w, Good w0 G N f S a w → c.wpIn (fenceR ro) n P (PostK w0 G N K) a w
/-- The one state is a state of the other kind. -/
structure Ent (f : Fr) (S : List Ow) (f' : Fr) (S' : List Ow) : Prop where
  out : ∀ a w, Good w0 G N f S a w → Good w0 G N f' S' a w
def LoopS (vcb : Fr → List Ow → (Exit → Fr → List Ow → Prop) → Prop) (f : Fr) (S : List Ow) (K : Exit → Fr → List Ow → Prop) : Prop :=
  ∃ (α : Type) (T : α → Fr) (U : α → List Ow) (m : α → Nat), (∃ x, Ent w0 G N f S (T x) (U x)) ∧
    ∀ x, vcb (T x) (U x) fun e f' S' => match e with | .normal => ∃ y, Ent w0 G N f' S' (T y) (U y) ∧ m y < m x | e => ∃ f2 S2, Ent w0 G N f' S' f2 S2 ∧ K e f2 S2
def vc : Code → Fr → List Ow → (Exit → Fr → List Ow → Prop) → Prop
  | .skip, f, S, K => K .normal f S
  | .region id ops draw, f, S, K => (match draw with
    | false => opsK P w0 G N ops ops.toList.length ops.toList f S (K .normal)
    | true => Sat ro P w0 G N (.region id ops true) f S K)
  | .seq a b, f, S, K => vc a f S fun e f' S' => match e with | .normal => vc b f' S' K | e => K e f' S'
  | .cond c x y, f, S, K => (match f.ev c with
    | .p (.c (.v (.bool t))) => (t = true → vc x f S K) ∧ (t = false → vc y f S K)
    | _ => False)
  | .block id body, f, S, K => vc body f S fun e f' S' => match e with
    | .exit id' => (match Nat.beq id' id with | true => K .normal f' S' | false => K (.exit id') f' S')
    | e => K e f' S'
  | .loop body, f, S, K => LoopS w0 G N (vc body) f S K
  | .exit id, f, S, K => K (.exit id) f S
  | .ret, f, S, K => K .ret f S
  | c, f, S, K => Sat ro P w0 G N c f S K
end
section
variable {ro : Option Nat} {P : Program} {w0 : World} {G : Gs} {N : Nd}
theorem vc_sound : ∀ (c : Code) (f : Fr) (S : List Ow) (K : Exit → Fr → List Ow → Prop), vc ro P w0 G N c f S K → Sat ro P w0 G N c f S K
  | .skip, f, S, K, h => ⟨fun n a w hg => wpIn_skip ⟨f, S, h, hg⟩⟩
  | .region id ops draw, f, S, K, h => by
    cases draw with
    | false => exact ⟨fun n a w hg => wpIn_region_list (seL_wpIn ro n (opsK_sound _ _ f S _ h (fun f' S' a' w' hk hg' => ⟨f', S', hk, hg'⟩) a w hg))⟩
    | true => exact h
  | .seq x y, f, S, K, h => ⟨fun n a w hg => wpIn_seq (wpIn_mono ((vc_sound x f S _ h).out n a w hg) (fun e a' w' ⟨f', S', hk, hg'⟩ => by
      cases e with
      | normal => exact (vc_sound y f' S' K hk).out n a' w' hg'
      | exit id => exact ⟨f', S', hk, hg'⟩
      | goto l => exact ⟨f', S', hk, hg'⟩
      | ret => exact ⟨f', S', hk, hg'⟩
      | panic ch => exact ⟨f', S', hk, hg'⟩
      | outgrown => exact ⟨f', S', hk, hg'⟩))⟩
  | .cond c x y, f, S, K, h => ⟨fun n a w hg => by
      unfold vc at h
      split at h
      · rename_i t ht
        obtain ⟨r, hR, hf, hN, hd⟩ := hg
        have hc := hf.ev c
        rw [ht] at hc
        have hc := den_v hc
        refine wpIn_cond_split hc (fun e => (vc_sound x f S K (h.1 e)).out n a w ⟨r, hR, hf, hN, hd⟩) (fun e => (vc_sound y f S K (h.2 e)).out n a w ⟨r, hR, hf, hN, hd⟩)
      · exact h.elim⟩
  | .block id c, f, S, K, h => ⟨fun n a w hg => wpIn_block (wpIn_mono ((vc_sound c f S _ h).out n a w hg) (fun e a' w' ⟨f', S', hk, hg'⟩ => by
      cases e with
      | exit id' =>
        simp only [Exit.inBlock]
        by_cases hi : id' = id
        · subst hi; simp only [Nat.beq_refl] at hk; rw [if_pos rfl]; exact ⟨f', S', hk, hg'⟩
        · have hb : Nat.beq id' id = false := by
            cases h2 : Nat.beq id' id
            · rfl
            · exact absurd (Nat.eq_of_beq_eq_true h2) hi
          simp only [hb] at hk; rw [if_neg hi]; exact ⟨f', S', hk, hg'⟩
      | normal => exact ⟨f', S', hk, hg'⟩
      | goto l => exact ⟨f', S', hk, hg'⟩
      | ret => exact ⟨f', S', hk, hg'⟩
      | panic ch => exact ⟨f', S', hk, hg'⟩
      | outgrown => exact ⟨f', S', hk, hg'⟩))⟩
  | .loop c, f, S, K, h => ⟨fun nn a w hg => by
      obtain ⟨α, T, U, m, ⟨x0, h0⟩, hround⟩ := h
      intro b k cs hro hb hr
      have key : ∀ (n : Nat) (x : α), m x = n → ∀ a w, Good w0 G N (T x) (U x) a w → ∃ e a' w', PostK w0 G N K e a' w' ∧ ArrivesIn (Machine.fenced P (fenceR ro)) P (lone (b.atR a (.code c :: .inLoop c :: k)) cs w) b k cs e a' w' := by
        intro n
        induction n using Nat.strongRecOn with
        | _ n ih =>
          intro x hx a w hg
          obtain ⟨e, a', w', ⟨f', S', hk, hg'⟩, harr⟩ := (vc_sound c (T x) (U x) _ (hround x)).out nn a w hg b (.inLoop c :: k) cs hro hb hr
          cases e with
          | normal =>
            obtain ⟨y, hent, hlt⟩ := hk
            obtain ⟨e2, a2, w2, hq2, harr2⟩ := ih (m y) (by omega) y rfl a' w' (hent.out a' w' hg')
            exact ⟨e2, a2, w2, hq2, .of_steps (StepsIn.trans harr (.one (fenced_calm hb hr rfl) stepR_inLoop)) harr2⟩
          | exit id => obtain ⟨f2, S2, hent, hk2⟩ := hk; exact ⟨_, a', w', ⟨f2, S2, hk2, hent.out a' w' hg'⟩, .pass (x := .inLoop c) rfl (fun _ _ => .inl (by simp)) harr⟩
          | goto l => obtain ⟨f2, S2, hent, hk2⟩ := hk; exact ⟨_, a', w', ⟨f2, S2, hk2, hent.out a' w' hg'⟩, .pass (x := .inLoop c) rfl (fun _ _ => .inl (by simp)) harr⟩
          | ret => obtain ⟨f2, S2, hent, hk2⟩ := hk; exact ⟨_, a', w', ⟨f2, S2, hk2, hent.out a' w' hg'⟩, .pass (x := .inLoop c) rfl (fun _ _ => .inl (by simp)) harr⟩
          | panic ch => obtain ⟨f2, S2, hent, hk2⟩ := hk; exact ⟨_, a', w', ⟨f2, S2, hk2, hent.out a' w' hg'⟩, .pass (x := .inLoop c) rfl (fun _ _ => .inl (by simp)) harr⟩
          | outgrown => obtain ⟨f2, S2, hent, hk2⟩ := hk; exact ⟨_, a', w', ⟨f2, S2, hk2, hent.out a' w' hg'⟩, .pass (x := .inLoop c) rfl (fun _ _ => .inl (by simp)) harr⟩
      obtain ⟨e, a', w', hq, harr⟩ := key _ x0 rfl a w (h0.out a w hg)
      exact ⟨e, a', w', hq, .of_steps (.one (fenced_calm hb hr rfl) stepR_loop) harr⟩⟩
  | .exit id, f, S, K, h => ⟨fun n a w hg => wpIn_exit ⟨f, S, h, hg⟩⟩
  | .ret, f, S, K, h => ⟨fun n a w hg => wpIn_ret ⟨f, S, h, hg⟩⟩
  | .rangeFunc _ _ _ _, f, S, K, h => h
  | .scope _, f, S, K, h => h
  | .label _, f, S, K, h => h
  | .goto _, f, S, K, h => h
  | .refuse _, f, S, K, h => h
end
end Go.Proofs.YtnhdcclpjildjaaGreat
