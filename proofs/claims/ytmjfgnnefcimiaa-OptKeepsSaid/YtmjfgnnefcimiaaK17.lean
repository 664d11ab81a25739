/- Lists of operations, code, functions, over states that are known part by part. Lists of operations with '&&' and '||'; code; loops; functions. Code and functions, over states that are known part by part. How one state is seen as another; how a function's walk begins and ends; calls by contract. -/
import Derived.Test.YtmjfgnnefcimiaaK1
import Derived.Test.YtmjfgnnefcimiaaK11
import Derived.Test.YtmjfgnnefcimiaaK15
import Derived.Test.YtmjfgnnefcimiaaK16
import Derived.Test.YtmjfgnnefcimiaaK3
import Derived.Test.YtmjfgnnefcimiaaK4
namespace Go.Proofs.Ytmjfgnnefcimiaa
open Go.RowKit

def slotOf (ops : Array Oper) (j : Nat) : Option Nat := (ops[j]?).bind (·.dst)
def sameG (j : Nat) (pol : Bool) (o : Oper) : Bool := match o.guard with
  | some (i, p) => (match Nat.beq i j with | true => p == pol | false => false)
  | none => false
def spanG (j : Nat) (pol : Bool) : List Oper → List Oper × List Oper
  | [] => ([], [])
  | o :: l => match sameG j pol o with | true => (o :: (spanG j pol l).1, (spanG j pol l).2) | false => ([], o :: l)
theorem spanG_append (j : Nat) (pol : Bool) : ∀ l : List Oper, (spanG j pol l).1 ++ (spanG j pol l).2 = l
  | [] => rfl
  | o :: l => by unfold spanG; split <;> simp [spanG_append j pol l]
theorem spanG_all (j : Nat) (pol : Bool) : ∀ (l : List Oper), ∀ o ∈ (spanG j pol l).1, o.guard = some (j, pol)
  | [], o, h => by cases h
  | x :: l, o, h => by
    unfold spanG at h
    split at h
    · rename_i hs
      rcases List.mem_cons.1 h with rfl | h
      · unfold sameG at hs
        split at hs
        · rename_i i p hg
          split at hs
          · rename_i hi
            have := Nat.eq_of_beq_eq_true hi
            rw [hg, this]; simp at hs; rw [hs]
          · cases hs
        · cases hs
      · exact spanG_all j pol l o h
    · cases h
/-- What closes '&&' and '||': the slot of the second operand. -/
def pickOf (p : Oper) (d : Nat) (pol : Bool) : Option Nat := match p.guard with
  | some _ => none
  | none => (match p.op with
    | .pick (.tmp c) (.tmp b) (.const (.bool false)) => (match Nat.beq c d with | true => (match pol with | true => some b | false => none) | false => none)
    | .pick (.tmp c) (.const (.bool true)) (.tmp b) => (match Nat.beq c d with | true => (match pol with | false => some b | true => none) | false => none)
    | _ => none)
def cmb (pol x y : Bool) : Bool := match pol with | true => x && y | false => x || y
def putsAny : List Oper → Fr → Fr
  | [], f => f
  | o :: l, f => putsAny l (f.put o.dst (.p (.c .any)))
def putsAnyK : List Oper → Fr → (Fr → Prop) → Prop
  | [], f, K => K f
  | o :: l, f, K => f.putK o.dst (.p (.c .any)) fun f' => putsAnyK l f' K
theorem putsAnyK_iff : ∀ {l : List Oper} {f : Fr} {K : Fr → Prop}, putsAnyK l f K ↔ K (putsAny l f)
  | [], _, _ => Iff.rfl
  | o :: l, f, K => by unfold putsAnyK; rw [putK_iff, putsAnyK_iff]; rfl
def dstsOf : List Oper → List Nat
  | [] => []
  | o :: l => match o.dst with | some d => d :: dstsOf l | none => dstsOf l
def memN (d : Nat) : List Nat → Bool
  | [] => false
  | x :: l => match Nat.beq x d with | true => true | false => memN d l
/-- f' is f with slots of the list put on top. -/
def onTop (ds : List Nat) (f : Fr) : Nat → Fr → Prop
  | 0, f' => f' = f
  | _n + 1, [] => False
  | n + 1, (d, _) :: f' => match memN d ds with | true => onTop ds f n f' | false => False
def allDst (N : Nat) : List Oper → Bool
  | [] => true
  | o :: l => match dstOk N o.dst with | true => allDst N l | false => false
def putN : List Oper → Nat
  | [] => 0
  | o :: l => match o.dst with | some _ => putN l + 1 | none => putN l

def Ow.bnd (n : Nat) : Ow → Bool
  | .cells _ l => bndL n l
  | _ => true
def sbnd (n : Nat) : List Ow → Bool
  | [] => true
  | o :: S => match o.bnd n with | true => sbnd n S | false => false
/-- The own entries name none but these, and the first ones are among them. -/
def grpOk (G : Gs) (S : List Ow) : Bool := match Nat.ble G.fix.length S.length with | true => sbnd S.length S | false => false
section
variable (P : Program) (w0 : World) (G : Gs) (N : Nd)
def seqK (d : Nat) (pol : Bool) : List Oper → Fr → List Ow → (Fr → List Ow → Prop) → Prop
  | [], f, S, K => K f S
  | o :: l, f, S, K => match f.get d with
    | .p (.c (.v (.bool y))) => (match y == pol with | true => opK P w0 G N o f S fun f' S' => seqK d pol l f' S' K | false => False)
    | _ => False
def opsK (ops : Array Oper) : Nat → List Oper → Fr → List Ow → (Fr → List Ow → Prop) → Prop
  | _, [], f, S, K => K f S
  | 0, _ :: _, _, _, _ => False
  | n + 1, o :: rest, f, S, K => match o.guard with
    | none => opK P w0 G N o f S fun f' S' => opsK ops n rest f' S' K
    | some (j, pol) => (match slotOf ops j with
      | none => False
      | some d => (match f.get d with
        | .p (.c (.v (.bool x))) => (match spanG j pol (o :: rest) with
          | (grp, p :: rem) => (match pickOf p d pol with
            | some b => (match allDst N.n grp, dstOk N.n p.dst, memN d (dstsOf grp) with
              | true, true, false => ∃ y : Bool, (x = pol → seqK P w0 G N d pol grp ((d, one (.bool pol)) :: f) S fun f' S' => onTop (dstsOf grp) ((d, one (.bool pol)) :: f) (putN grp) f' ∧ S'.take S.length = S ∧ f'.get b = one (.bool y) ∧ f.bnd S.length = true ∧ grpOk G S = true) ∧
                  putsAnyK grp f fun f' => f'.putK p.dst (one (.bool (cmb pol x y))) fun f' => opsK ops n rem f' S K
              | _, _, _ => False)
            | none => (x = pol → opK P w0 G N o ((d, one (.bool pol)) :: f) S fun f' S' => opsK ops n rest f' S' K) ∧
                (x = (!pol) → match dstOk N.n o.dst with | true => (Fr.putK ((d, one (.bool (!pol))) :: f) o.dst (.p (.c .any)) fun f' => opsK ops n rest f' S K) | false => False))
          | _ => (x = pol → opK P w0 G N o ((d, one (.bool pol)) :: f) S fun f' S' => opsK ops n rest f' S' K) ∧
                (x = (!pol) → match dstOk N.n o.dst with | true => (Fr.putK ((d, one (.bool (!pol))) :: f) o.dst (.p (.c .any)) fun f' => opsK ops n rest f' S K) | false => False))
        | _ => False))
end
section
variable {P : Program} {w0 : World} {G : Gs} {N : Nd} {ops : Array Oper}
theorem yielded_of {r : Env} {f : Fr} {a : Act} (hf : FDen r f a) {j d : Nat} (hs : slotOf ops j = some d) {x : Bool} (hx : f.get d = one (.bool x)) : yielded ops a.tmps j = some x := by
  have h := hf d
  rw [hx] at h
  have h := den_v h
  unfold yielded
  unfold slotOf at hs
  rw [hs]
  have : a.tmps[d]? = some (.bool x) := by
    rw [Array.getD_eq_getD_getElem?] at h
    cases hd : a.tmps[d]? with
    | none => rw [hd] at h; simp [undef] at h
    | some v => rw [hd] at h; simp at h; rw [h]
  simp [this]
theorem wanted_none {o : Oper} (h : o.guard = none) (y : Nat → Option Bool) : Region.wanted o y = true := by simp [Region.wanted, h]
theorem wanted_some {o : Oper} {j : Nat} {pol : Bool} (h : o.guard = some (j, pol)) (y : Nat → Option Bool) : Region.wanted o y = (y j == some pol) := by simp [Region.wanted, h]
theorem step_do {o : Oper} {rest : List Oper} {Q : Act → World → Prop} {a : Act} {w : World} (hw : Region.wanted o (yielded ops a.tmps) = true) (h : Oper.se P o a w (seL P ops Q rest)) : seL P ops Q (o :: rest) a w := by
  unfold seL; rw [if_pos hw]; exact h
theorem step_not {o : Oper} {rest : List Oper} {Q : Act → World → Prop} {a : Act} {w : World} (hw : Region.wanted o (yielded ops a.tmps) = false) (h : seL P ops Q rest (a.put o.dst undef) w) : seL P ops Q (o :: rest) a w := by
  unfold seL; rw [if_neg (by rw [hw]; simp)]; exact h
theorem get_cons_self (d : Nat) (x : AV) (f : Fr) : Fr.get ((d, x) :: f) d = x := by simp [Fr.get]
theorem Good.known {f : Fr} {S : List Ow} {a : Act} {w : World} (h : Good w0 G N f S a w) {d : Nat} {x : AV} (hx : f.get d = x) : Good w0 G N ((d, x) :: f) S a w := by
  obtain ⟨r, hR, hf, hN, hd⟩ := h
  refine ⟨r, hR, fun k => ?_, hN, hd⟩
  simp only [Fr.get]
  split
  · rename_i hk; have := Nat.eq_of_beq_eq_true hk; subst this; rw [← hx]; exact hf d
  · exact hf k
theorem seqK_sound {d : Nat} {pol : Bool} {j : Nat} (hs : slotOf ops j = some d) {Q : Act → World → Prop} {rest : List Oper} : ∀ (l : List Oper) (f : Fr) (S : List Ow) (K : Fr → List Ow → Prop), (∀ o ∈ l, o.guard = some (j, pol)) → seqK P w0 G N d pol l f S K →
    (∀ f' S' a' w', K f' S' → Good w0 G N f' S' a' w' → seL P ops Q rest a' w') → ∀ a w, Good w0 G N f S a w → seL P ops Q (l ++ rest) a w
  | [], f, S, K, _, h, hK, a, w, hg => hK _ _ _ _ h hg
  | o :: l, f, S, K, hgd, h, hK, a, w, hg => by
    unfold seqK at h
    split at h
    · rename_i y hy
      split at h
      · rename_i hyp
        have hyp : y = pol := by simpa using hyp
        subst hyp
        obtain ⟨r, hR, hf, hN, hd⟩ := hg
        refine step_do ?_ ((opK_sound h).out r a w hR hf hN hd _ (fun _ _ _ => True) fun f' S' a' w' hk hg' => seqK_sound hs l f' S' K (fun o ho => hgd o (List.mem_cons_of_mem _ ho)) hk hK a' w' hg')
        rw [wanted_some (hgd o (List.mem_cons_self ..)), yielded_of hf hs hy]; simp
      · exact h.elim
    · exact h.elim
theorem memN_not {d : Nat} : ∀ {l : List Nat}, memN d l = false → d ∉ l
  | [], _ => by simp
  | x :: l, h => by
    unfold memN at h
    split at h
    · cases h
    · rename_i hx
      intro hm
      rcases List.mem_cons.1 hm with rfl | hm
      · simp at hx
      · exact memN_not h hm
theorem memN_mem {d : Nat} : ∀ {l : List Nat}, memN d l = true → d ∈ l
  | [], h => by cases h
  | x :: l, h => by
    unfold memN at h
    split at h
    · rename_i hx; rw [Nat.eq_of_beq_eq_true hx]; exact List.mem_cons_self ..
    · exact List.mem_cons_of_mem _ (memN_mem h)
theorem onTop_get {ds : List Nat} {f : Fr} : ∀ (n : Nat) (f' : Fr), onTop ds f n f' → ∀ k, k ∉ ds → f'.get k = f.get k
  | 0, f', h, k, _ => by rw [show f' = f from h]
  | n + 1, [], h, k, _ => h.elim
  | n + 1, (d, x) :: f', h, k, hk => by
    simp only [onTop] at h
    split at h
    · rename_i hm
      simp only [Fr.get]
      split
      · rename_i hdk
        have := Nat.eq_of_beq_eq_true hdk; subst this
        exact absurd (memN_mem hm) hk
      · exact onTop_get n f' h k hk
    · exact h.elim
theorem putsAny_get : ∀ (l : List Oper) (f : Fr) (k : Nat), (putsAny l f).get k = .p (.c .any) ∨ ((putsAny l f).get k = f.get k ∧ k ∉ dstsOf l)
  | [], f, k => .inr ⟨rfl, by simp [dstsOf]⟩
  | o :: l, f, k => by
    simp only [putsAny, dstsOf]
    rcases putsAny_get l (f.put o.dst (.p (.c .any))) k with h | ⟨h1, h2⟩
    · exact .inl h
    · cases ho : o.dst with
      | none => rw [ho] at h1; simp only [Fr.put] at h1; right; exact ⟨by simpa only [ho, Fr.put] using h1, h2⟩
      | some d =>
        rw [ho] at h1
        simp only [Fr.put, Fr.get] at h1
        split at h1
        · left; simpa only [ho, Fr.put] using h1
        · rename_i hdk
          right
          refine ⟨by simpa only [ho, Fr.put] using h1, fun hm => ?_⟩
          rcases List.mem_cons.1 hm with rfl | hm
          · simp at hdk
          · exact h2 hm
theorem putsAny_far : ∀ (l : List Oper) (f : Fr) (k : Nat), k ∉ dstsOf l → (putsAny l f).get k = f.get k
  | [], f, k, _ => rfl
  | o :: l, f, k, h => by
    simp only [putsAny, dstsOf] at h ⊢
    cases ho : o.dst with
    | none => rw [ho] at h; rw [putsAny_far l _ k h]; rfl
    | some d =>
      rw [ho] at h
      rw [putsAny_far l _ k (fun hm => h (List.mem_cons_of_mem _ hm))]
      simp only [Fr.put, Fr.get]
      split
      · rename_i hd; exact absurd (Nat.eq_of_beq_eq_true hd).symm (fun e => h (by rw [e]; exact List.mem_cons_self ..))
      · rfl
/-- The environment cut off behind n entries. -/
def Env.upto (n : Nat) (r : Env) : Env := ⟨fun i => if i < n then r.blk i else none, fun i => if i < n then r.val i else none⟩
theorem Env.upto_blk (n : Nat) (r : Env) : ∀ k b, (r.upto n).blk k = some b → r.blk k = some b := fun k b h => by
  simp only [Env.upto] at h
  split at h
  · exact h
  · cases h
theorem Env.upto_agree (n : Nat) (r : Env) : r.agree n (r.upto n) := fun i hi => by simp [Env.upto, hi]
theorem Ow.holds_agree {n i : Nat} {r r' : Env} {w : World} {o : Ow} (h : o.holds r w i) (ha : r.agree n r') (hb : o.bnd n = true) (hi : i < n) (hs : ∀ k b, r'.blk k = some b → r.blk k = some b) : o.holds r' w i := by
  cases o with
  | cells t l => obtain ⟨b, us, h1, h2, h3⟩ := h; exact ⟨b, us, by rw [← (ha i hi).1]; exact h1, h2, denL_agree ha _ _ hb h3⟩
  | row e size m xs => obtain ⟨v, h1, h2, h3⟩ := h; exact ⟨v, by rw [← (ha i hi).2]; exact h1, by rw [← (ha i hi).1]; exact h2, h3⟩
  | ext φ => obtain ⟨b, h1, h2⟩ := h; exact ⟨b, by rw [← (ha i hi).1]; exact h1, h2⟩
  | view φ n xs =>
    obtain ⟨A, c, h1, h2, h3, h4, h5⟩ := h
    refine ⟨A, c, by rw [← (ha i hi).2]; exact h1, h2, h3, by rw [← (ha i hi).1]; exact h4, fun j u hj => ?_⟩
    obtain ⟨b, off, h6, h7, h8, h9⟩ := h5 j u hj
    exact ⟨b, off, h6, h7, fun k hk => h8 k (hs k b hk), h9⟩
  | gone => trivial
theorem Rel.upto {S S' : List Ow} {r : Env} {w : World} (h : Rel w0 G S r w) {n : Nat} (hn : S'.length = n) (_hnS : n ≤ S.length) (hG : G.fix.length ≤ n) (hS : ∀ (i : Nat) (o : Ow), S'[i]? = some o → o.holds (r.upto n) w i) : Rel w0 G S' (r.upto n) w := by
  refine ⟨h.os, h.tape, h.output, h.size, h.old, hS, fun i j b hi hj => ?_, fun i b hi => ?_, fun i hi => ?_, fun i hi => ?_, fun i g hg => ?_⟩
  · simp only [Env.upto] at hi hj
    split at hi <;> split at hj <;> first | cases hi | cases hj | exact h.inj i j b hi hj
  · simp only [Env.upto] at hi
    split at hi
    · exact h.new i b hi
    · cases hi
  · simp only [Env.upto]; rw [if_neg (by omega)]
  · simp only [Env.upto]; rw [if_neg (by omega)]
  · simp only [Env.upto]
    have : i < G.fix.length := by
      rcases Nat.lt_or_ge i G.fix.length with h1 | h1
      · exact h1
      · rw [List.getElem?_eq_none h1] at hg; cases hg
    rw [if_pos (by omega)]; exact h.first i g hg
theorem allDst_put : ∀ (l : List Oper), allDst N.n l = true → ∀ {f : Fr} {S : List Ow} {a : Act} {w : World} {j : Nat} {pol x : Bool} {Q : Act → World → Prop} {rest : List Oper} {d : Nat}, slotOf ops j = some d → (∀ o ∈ l, o.guard = some (j, pol)) → x ≠ pol → f.get d = one (.bool x) → d ∉ dstsOf l →
    Good w0 G N f S a w → (∀ a', Good w0 G N (putsAny l f) S a' w → seL P ops Q rest a' w) → seL P ops Q (l ++ rest) a w
  | [], _, f, S, a, w, j, pol, x, Q, rest, d, _, _, _, _, _, hg, h => h a hg
  | o :: l, hD, f, S, a, w, j, pol, x, Q, rest, d, hs, hgd, hx, hfx, hnd, hg, h => by
    simp only [allDst] at hD
    split at hD
    · rename_i ho
      obtain ⟨r, hR, hf, hN, hd⟩ := hg
      refine step_not ?_ ?_
      · rw [wanted_some (hgd o (List.mem_cons_self ..)), yielded_of hf hs hfx]; simpa using hx
      · have hnd' : d ∉ dstsOf l ∧ ∀ e, o.dst = some e → d ≠ e := by
          simp only [dstsOf] at hnd
          cases hod : o.dst with
          | none => rw [hod] at hnd; exact ⟨hnd, nofun⟩
          | some e => rw [hod] at hnd; exact ⟨fun h => hnd (List.mem_cons_of_mem _ h), fun e' he => by injection he with he; subst he; rintro rfl; exact hnd (List.mem_cons_self ..)⟩
        refine allDst_put l hD hs (fun o ho => hgd o (List.mem_cons_of_mem _ ho)) hx (f := f.put o.dst (.p (.c .any))) ?_ hnd'.1 ⟨r, hR, hf.putAny undef (by rw [hN]; exact ho), (put_size a _ _).trans hN, (put_defers a _ _).trans hd⟩ h
        cases hod : o.dst with
        | none => simpa [Fr.put, hod] using hfx
        | some e =>
          have := hnd'.2 e hod
          simp only [Fr.put, Fr.get]
          split
          · rename_i he; exact absurd (Nat.eq_of_beq_eq_true he).symm this
          · exact hfx
    · cases hD
theorem pick_run {p : Oper} {d b : Nat} {pol x y : Bool} (hp : pickOf p d pol = some b) {a : Act} (hd : a.eval (.tmp d) = .bool x) (hb : x = pol → a.eval (.tmp b) = .bool y) (w : World) : p.guard = none ∧ (execOp a.eval p).run P w = .ok (.value (.bool (cmb pol x y))) w := by
  unfold pickOf at hp
  split at hp
  · cases hp
  · rename_i hg
    refine ⟨hg, ?_⟩
    split at hp
    · rename_i c b' hop
      split at hp
      · rename_i hc
        have := Nat.eq_of_beq_eq_true hc; subst this
        split at hp
        · injection hp with hp; subst hp
          cases x
          · have e1 : a.eval (.const (.bool false)) = .bool false := rfl
            simp [execOp, hop, hd, asBool, cmb, e1]
          · simp [execOp, hop, hd, asBool, cmb, hb rfl]
        · cases hp
      · cases hp
    · rename_i c b' hop
      split at hp
      · rename_i hc
        have := Nat.eq_of_beq_eq_true hc; subst this
        split at hp
        · injection hp with hp; subst hp
          cases x
          · simp [execOp, hop, hd, asBool, cmb, hb rfl]
          · have e1 : a.eval (.const (.bool true)) = .bool true := rfl
            simp [execOp, hop, hd, asBool, cmb, e1]
        · cases hp
      · cases hp
    · cases hp
end
end Go.Proofs.Ytmjfgnnefcimiaa
namespace Go.Proofs.Ytmjfgnnefcimiaa
open Go.RowKit

section
variable {P : Program} {w0 : World} {G : Gs} {N : Nd} {ops : Array Oper}
theorem onTop_agree {n : Nat} {r : Env} {f f' : Fr} {grp : List Oper} {d : Nat} {x : Bool} {a : Act} (hfx : f.get d = one (.bool x)) (htop : onTop (dstsOf grp) ((d, one (.bool x)) :: f) (putN grp) f') (hf : FDen r f' a) (hb : f.bnd n = true) : FDen (r.upto n) (putsAny grp f) a := by
  intro k
  rcases putsAny_get grp f k with h | ⟨h1, h2⟩
  · rw [h]; simp [AV.den, Pc.den, CV.den]
  · rw [h1]
    have e1 := onTop_get _ _ htop k h2
    have e2 := hf k
    rw [e1] at e2
    simp only [Fr.get] at e2
    split at e2
    · rename_i hk
      have := Nat.eq_of_beq_eq_true hk; subst this
      rw [hfx]
      exact AV.den_agree (Env.upto_agree n r) _ _ rfl e2
    · exact AV.den_agree (Env.upto_agree n r) _ _ (Fr.bnd_get k hb) e2
end
theorem sbnd_get {n : Nat} : ∀ {S : List Ow} {i : Nat} {o : Ow}, sbnd n S = true → S[i]? = some o → o.bnd n = true
  | [], i, o, _, h => by simp at h
  | x :: S, i, o, hb, h => by
    simp only [sbnd] at hb
    split at hb
    · rename_i hx
      cases i with
      | zero => simp at h; subst h; exact hx
      | succ i => exact sbnd_get hb (by simpa using h)
    · cases hb
section
variable {P : Program} {w0 : World} {G : Gs} {N : Nd} {ops : Array Oper}
theorem opsK_sound {Q : Act → World → Prop} : ∀ (n : Nat) (l : List Oper) (f : Fr) (S : List Ow) (K : Fr → List Ow → Prop), opsK P w0 G N ops n l f S K → (∀ f' S' a' w', K f' S' → Good w0 G N f' S' a' w' → Q a' w') →
    ∀ a w, Good w0 G N f S a w → seL P ops Q l a w
  | _, [], f, S, K, h, hK, a, w, hg => by cases ‹Nat› <;> exact hK _ _ _ _ h hg
  | 0, o :: l, f, S, K, h, hK, a, w, hg => h.elim
  | n + 1, o :: l, f, S, K, h, hK, a, w, hg => by
    unfold opsK at h
    have hsplit : ∀ {j d : Nat} {pol x : Bool}, o.guard = some (j, pol) → slotOf ops j = some d → f.get d = one (.bool x) →
        ((x = pol → opK P w0 G N o ((d, one (.bool pol)) :: f) S fun f' S' => opsK P w0 G N ops n l f' S' K) ∧
          (x = (!pol) → match dstOk N.n o.dst with | true => (Fr.putK ((d, one (.bool (!pol))) :: f) o.dst (.p (.c .any)) fun f' => opsK P w0 G N ops n l f' S K) | false => False)) → seL P ops Q (o :: l) a w := by
      intro j d pol x hg' hs hfx ⟨h1, h2⟩
      by_cases hx : x = pol
      · obtain ⟨r, hR, hf, hN, hd⟩ := hg.known (d := d) (x := one (.bool pol)) (by rw [hfx, hx])
        refine step_do ?_ ((opK_sound (h1 hx)).out r a w hR hf hN hd _ (fun _ _ _ => True) fun f' S' a' w' hk hgd => opsK_sound n l f' S' K hk hK a' w' hgd)
        rw [wanted_some hg', yielded_of hf hs (get_cons_self d _ f)]; simp
      · have hx' : x = !pol := by cases x <;> cases pol <;> simp_all
        have h2 := h2 hx'
        obtain ⟨r, hR, hf, hN, hd⟩ := hg.known (d := d) (x := one (.bool (!pol))) (by rw [hfx, hx'])
        split at h2
        · rename_i hdst
          refine step_not ?_ (opsK_sound n l _ S K (putK_iff.1 h2) hK _ _ ⟨r, hR, hf.putAny undef (by rw [hN]; exact hdst), (put_size a _ _).trans hN, (put_defers a _ _).trans hd⟩)
          rw [wanted_some hg', yielded_of hf hs (get_cons_self d _ f)]; cases pol <;> simp
        · exact h2.elim
    split at h
    · rename_i hgd
      obtain ⟨r, hR, hf, hN, hd⟩ := hg
      exact step_do (wanted_none hgd _) ((opK_sound h).out r a w hR hf hN hd _ (fun _ _ _ => True) fun f' S' a' w' hk hg' => opsK_sound n l f' S' K hk hK a' w' hg')
    · rename_i j pol hgd
      split at h
      · exact h.elim
      · rename_i d hs
        split at h
        · rename_i x hfx
          split at h
          · rename_i grp p rem hspan
            split at h
            · rename_i b hpick
              split at h
              · rename_i hD hpd hmem
                have hmem := memN_not hmem
                obtain ⟨y, hy, hrest⟩ := h
                rw [putsAnyK_iff, putK_iff] at hrest
                have hall : ∀ o ∈ grp, o.guard = some (j, pol) := fun o' ho' => spanG_all j pol (o :: l) o' (by rw [hspan]; exact ho')
                have happ : grp ++ p :: rem = o :: l := by have := spanG_append j pol (o :: l); rw [hspan] at this; exact this
                rw [← happ]
                by_cases hx : x = pol
                · have h1 := hy hx
                  refine seqK_sound hs grp _ S _ hall h1 ?_ a w (hg.known (d := d) (x := one (.bool pol)) (by rw [hfx, hx]))
                  rintro f' S' a' w' ⟨htop, htake, hb, hbnd, hgrp⟩ ⟨r', hR', hf', hN', hd'⟩
                  subst hx
                  have hS : S.length ≤ S'.length := by
                    have := congrArg List.length htake
                    simp at this; omega
                  have hfd := onTop_agree (grp := grp) hfx htop hf' hbnd
                  have hR2 : Rel w0 G S' r' w' := hR'
                  have eb : a'.eval (.tmp b) = .bool y := by have := hf' b; rw [hb] at this; exact den_v this
                  have ed : a'.eval (.tmp d) = .bool x := by
                    have h2 := hf' d
                    rw [onTop_get _ _ htop d hmem, get_cons_self] at h2
                    exact den_v h2
                  obtain ⟨hpg, hprun⟩ := pick_run (P := P) hpick (a := a') ed (fun _ => eb) w'
                  refine step_do (wanted_none hpg _) (wp_of_value hprun ?_)
                  refine opsK_sound n rem _ S K hrest hK _ _ ⟨r'.upto S.length, ?_, hfd.put (den_one _ _) (by rw [hN']; exact hpd), (put_size a' _ _).trans hN', (put_defers a' _ _).trans hd'⟩
                  unfold grpOk at hgrp
                  split at hgrp
                  · rename_i hG
                    refine hR2.upto rfl hS (Nat.le_of_ble_eq_true hG) fun i o' ho' => ?_
                    have hil : i < S.length := by
                      rcases Nat.lt_or_ge i S.length with h1 | h1
                      · exact h1
                      · rw [List.getElem?_eq_none h1] at ho'; cases ho'
                    have ho2 : S'[i]? = some o' := by rw [← htake, List.getElem?_take] at ho'; rw [if_pos hil] at ho'; exact ho'
                    exact Ow.holds_agree (hR2.own i o' ho2) (Env.upto_agree _ _) (sbnd_get hgrp ho') hil (Env.upto_blk _ _)
                  · cases hgrp
                · refine allDst_put grp hD hs hall hx hfx hmem hg fun a' hg' => ?_
                  obtain ⟨r', hR', hf', hN', hd'⟩ := hg'
                  have ed : a'.eval (.tmp d) = .bool x := by
                    have h2 := hf' d
                    rw [putsAny_far grp f d hmem, hfx] at h2
                    exact den_v h2
                  obtain ⟨hpg, hprun⟩ := pick_run (P := P) (y := y) hpick (a := a') ed (fun e => absurd e hx) w
                  refine step_do (wanted_none hpg _) (wp_of_value hprun ?_)
                  exact opsK_sound n rem _ S K hrest hK _ _ ⟨r', hR', hf'.put (den_one _ _) (by rw [hN']; exact hpd), (put_size a' _ _).trans hN', (put_defers a' _ _).trans hd'⟩
              · exact h.elim
            · exact hsplit hgd hs hfx h
          · exact hsplit hgd hs hfx h
        · exact h.elim
end
end Go.Proofs.Ytmjfgnnefcimiaa
namespace Go.Proofs.Ytmjfgnnefcimiaa
open Go.RowKit

section
variable (ro : Option Nat) (P : Program) (w0 : World) (G : Gs) (N : Nd)
def PostK (K : Exit → Fr → List Ow → Prop) : Exit → Act → World → Prop := fun e a w => ∃ f S, K e f S ∧ Good w0 G N f S a w
/-- What is to be shown of a piece of code, whatever world and frame of this kind. -/
structure Sat (c : Code) (f : Fr) (S : List Ow) (K : Exit → Fr → List Ow → Prop) : Prop where
  out : ∀ n a w, Good w0 G N f S a w → c.wpIn (fenceR ro) n P (PostK w0 G N K) a w
/-- The one state is a state of the other kind. -/
structure Ent (f : Fr) (S : List Ow) (f' : Fr) (S' : List Ow) : Prop where
  out : ∀ a w, Good w0 G N f S a w → Good w0 G N f' S' a w
def LoopS (vcb : Fr → List Ow → (Exit → Fr → List Ow → Prop) → Prop) (f : Fr) (S : List Ow) (K : Exit → Fr → List Ow → Prop) : Prop :=
  ∃ (α : Type) (T : α → Fr) (U : α → List Ow) (m : α → Nat), (∃ x, Ent w0 G N f S (T x) (U x)) ∧
    ∀ x, vcb (T x) (U x) fun e f' S' => match e with | .normal => ∃ y, Ent w0 G N f' S' (T y) (U y) ∧ m y < m x | e => ∃ f2 S2, Ent w0 G N f' S' f2 S2 ∧ K e f2 S2
def vc : Code → Fr → List Ow → (Exit → Fr → List Ow → Prop) → Prop
  | .skip, f, S, K => K .normal f S
  | .region id ops draw, f, S, K => (match draw with
    | false => opsK P w0 G N ops ops.toList.length ops.toList f S (K .normal)
    | true => Sat ro P w0 G N (.region id ops true) f S K)
  | .seq a b, f, S, K => vc a f S fun e f' S' => match e with | .normal => vc b f' S' K | e => K e f' S'
  | .cond c x y, f, S, K => (match f.ev c with
    | .p (.c (.v (.bool t))) => (t = true → vc x f S K) ∧ (t = false → vc y f S K)
    | _ => False)
  | .block id body, f, S, K => vc body f S fun e f' S' => match e with
    | .exit id' => (match Nat.beq id' id with | true => K .normal f' S' | false => K (.exit id') f' S')
    | e => K e f' S'
  | .loop body, f, S, K => LoopS w0 G N (vc body) f S K
  | .exit id, f, S, K => K (.exit id) f S
  | .ret, f, S, K => K .ret f S
  | c, f, S, K => Sat ro P w0 G N c f S K
end
section
variable {ro : Option Nat} {P : Program} {w0 : World} {G : Gs} {N : Nd}
theorem vc_sound : ∀ (c : Code) (f : Fr) (S : List Ow) (K : Exit → Fr → List Ow → Prop), vc ro P w0 G N c f S K → Sat ro P w0 G N c f S K
  | .skip, f, S, K, h => ⟨fun n a w hg => wpIn_skip ⟨f, S, h, hg⟩⟩
  | .region id ops draw, f, S, K, h => by
    cases draw with
    | false => exact ⟨fun n a w hg => wpIn_region_list (seL_wpIn ro n (opsK_sound _ _ f S _ h (fun f' S' a' w' hk hg' => ⟨f', S', hk, hg'⟩) a w hg))⟩
    | true => exact h
  | .seq x y, f, S, K, h => ⟨fun n a w hg => wpIn_seq (wpIn_mono ((vc_sound x f S _ h).out n a w hg) (fun e a' w' ⟨f', S', hk, hg'⟩ => by
      cases e with
      | normal => exact (vc_sound y f' S' K hk).out n a' w' hg'
      | exit id => exact ⟨f', S', hk, hg'⟩
      | goto l => exact ⟨f', S', hk, hg'⟩
      | ret => exact ⟨f', S', hk, hg'⟩
      | panic ch => exact ⟨f', S', hk, hg'⟩
      | outgrown => exact ⟨f', S', hk, hg'⟩))⟩
  | .cond c x y, f, S, K, h => ⟨fun n a w hg => by
      unfold vc at h
      split at h
      · rename_i t ht
        obtain ⟨r, hR, hf, hN, hd⟩ := hg
        have hc := hf.ev c
        rw [ht] at hc
        have hc := den_v hc
        refine wpIn_cond_split hc (fun e => (vc_sound x f S K (h.1 e)).out n a w ⟨r, hR, hf, hN, hd⟩) (fun e => (vc_sound y f S K (h.2 e)).out n a w ⟨r, hR, hf, hN, hd⟩)
      · exact h.elim⟩
  | .block id c, f, S, K, h => ⟨fun n a w hg => wpIn_block (wpIn_mono ((vc_sound c f S _ h).out n a w hg) (fun e a' w' ⟨f', S', hk, hg'⟩ => by
      cases e with
      | exit id' =>
        simp only [Exit.inBlock]
        by_cases hi : id' = id
        · subst hi; simp only [Nat.beq_refl] at hk; rw [if_pos rfl]; exact ⟨f', S', hk, hg'⟩
        · have hb : Nat.beq id' id = false := by
            cases h2 : Nat.beq id' id
            · rfl
            · exact absurd (Nat.eq_of_beq_eq_true h2) hi
          simp only [hb] at hk; rw [if_neg hi]; exact ⟨f', S', hk, hg'⟩
      | normal => exact ⟨f', S', hk, hg'⟩
      | goto l => exact ⟨f', S', hk, hg'⟩
      | ret => exact ⟨f', S', hk, hg'⟩
      | panic ch => exact ⟨f', S', hk, hg'⟩
      | outgrown => exact ⟨f', S', hk, hg'⟩))⟩
  | .loop c, f, S, K, h => ⟨fun nn a w hg => by
      obtain ⟨α, T, U, m, ⟨x0, h0⟩, hround⟩ := h
      intro b k cs hro hb hr
      have key : ∀ (n : Nat) (x : α), m x = n → ∀ a w, Good w0 G N (T x) (U x) a w → ∃ e a' w', PostK w0 G N K e a' w' ∧ ArrivesIn (Machine.fenced P (fenceR ro)) P (lone (b.atR a (.code c :: .inLoop c :: k)) cs w) b k cs e a' w' := by
        intro n
        induction n using Nat.strongRecOn with
        | _ n ih =>
          intro x hx a w hg
          obtain ⟨e, a', w', ⟨f', S', hk, hg'⟩, harr⟩ := (vc_sound c (T x) (U x) _ (hround x)).out nn a w hg b (.inLoop c :: k) cs hro hb hr
          cases e with
          | normal =>
            obtain ⟨y, hent, hlt⟩ := hk
            obtain ⟨e2, a2, w2, hq2, harr2⟩ := ih (m y) (by omega) y rfl a' w' (hent.out a' w' hg')
            exact ⟨e2, a2, w2, hq2, .of_steps (StepsIn.trans harr (.one (fenced_calm hb hr rfl) stepR_inLoop)) harr2⟩
          | exit id => obtain ⟨f2, S2, hent, hk2⟩ := hk; exact ⟨_, a', w', ⟨f2, S2, hk2, hent.out a' w' hg'⟩, .pass (x := .inLoop c) rfl (fun _ _ => .inl (by simp)) harr⟩
          | goto l => obtain ⟨f2, S2, hent, hk2⟩ := hk; exact ⟨_, a', w', ⟨f2, S2, hk2, hent.out a' w' hg'⟩, .pass (x := .inLoop c) rfl (fun _ _ => .inl (by simp)) harr⟩
          | ret => obtain ⟨f2, S2, hent, hk2⟩ := hk; exact ⟨_, a', w', ⟨f2, S2, hk2, hent.out a' w' hg'⟩, .pass (x := .inLoop c) rfl (fun _ _ => .inl (by simp)) harr⟩
          | panic ch => obtain ⟨f2, S2, hent, hk2⟩ := hk; exact ⟨_, a', w', ⟨f2, S2, hk2, hent.out a' w' hg'⟩, .pass (x := .inLoop c) rfl (fun _ _ => .inl (by simp)) harr⟩
          | outgrown => obtain ⟨f2, S2, hent, hk2⟩ := hk; exact ⟨_, a', w', ⟨f2, S2, hk2, hent.out a' w' hg'⟩, .pass (x := .inLoop c) rfl (fun _ _ => .inl (by simp)) harr⟩
      obtain ⟨e, a', w', hq, harr⟩ := key _ x0 rfl a w (h0.out a w hg)
      exact ⟨e, a', w', hq, .of_steps (.one (fenced_calm hb hr rfl) stepR_loop) harr⟩⟩
  | .exit id, f, S, K, h => ⟨fun n a w hg => wpIn_exit ⟨f, S, h, hg⟩⟩
  | .ret, f, S, K, h => ⟨fun n a w hg => wpIn_ret ⟨f, S, h, hg⟩⟩
  | .rangeFunc _ _ _ _, f, S, K, h => h
  | .scope _, f, S, K, h => h
  | .label _, f, S, K, h => h
  | .goto _, f, S, K, h => h
  | .refuse _, f, S, K, h => h
end
end Go.Proofs.Ytmjfgnnefcimiaa
namespace Go.Proofs.Ytmjfgnnefcimiaa
open Go.RowKit

def AVle (u : AV) : AV → Prop
  | .p (.c .any) => True
  | v => u = v
def FLe (f : Fr) : Fr → Prop
  | [] => True
  | (d, x) :: r => AVle (f.get d) x ∧ FLe f r
def CLp : List CV → List CV → Prop
  | [], [] => True
  | c :: l, d :: m => (match d with | .any => True | d => c = d) ∧ CLp l m
  | _, _ => False
def CLe (l m : List CV) : Prop := l = m ∨ CLp l m
def OLe : Ow → Ow → Prop
  | .cells t l, .cells t' l' => t = t' ∧ CLe l l'
  | .row e s n xs, .row e' s' n' xs' => e = e' ∧ s = s' ∧ n = n' ∧ xs = xs'
  | .view φ n xs, .view φ' n' xs' => φ = φ' ∧ n = n' ∧ xs = xs'
  | .ext φ, .ext ψ => ∀ b w, φ b w → ψ b w
  | _, .gone => True
  | _, _ => False
def SLe : List Ow → List Ow → Prop
  | _, [] => True
  | o :: S, o' :: S' => OLe o o' ∧ SLe S S'
  | [], _ :: _ => False
theorem AVle.den {r : Env} {u v : AV} {x : Value} (h : AVle u v) (hd : u.den r x) : v.den r x := by
  unfold AVle at h
  split at h
  · simp [AV.den, Pc.den, CV.den]
  · subst h; exact hd
theorem FLe.get {f : Fr} : ∀ {g : Fr} (k : Nat), FLe f g → g.get k = .p (.c .any) ∨ AVle (f.get k) (g.get k)
  | [], k, _ => .inl rfl
  | (d, x) :: r, k, h => by
    simp only [Fr.get]
    split
    · rename_i hk; have := Nat.eq_of_beq_eq_true hk; subst this; exact .inr h.1
    · exact FLe.get k h.2
theorem FLe.den {r : Env} {f g : Fr} {a : Act} (h : FLe f g) (hf : FDen r f a) : FDen r g a := fun k => by
  rcases h.get k with h1 | h1
  · rw [h1]; simp [AV.den, Pc.den, CV.den]
  · exact h1.den (hf k)
theorem CLp.den {r : Env} : ∀ {l m : List CV} {us : List Value}, CLp l m → denL r l us → denL r m us
  | [], [], us, _, hd => hd
  | c :: l, d :: m, us, h, hd => by
    simp only [denL] at hd ⊢
    obtain ⟨u, l', hu, hc, hl⟩ := hd
    refine ⟨u, l', hu, ?_, CLp.den h.2 hl⟩
    have h1 := h.1
    split at h1
    · simp only [CV.den]
    · subst h1; exact hc
  | [], _ :: _, _, h, _ => h.elim
  | _ :: _, [], _, h, _ => h.elim
theorem CLe.den {r : Env} {l m : List CV} {us : List Value} (h : CLe l m) (hd : denL r l us) : denL r m us := by
  rcases h with rfl | h
  · exact hd
  · exact h.den hd
theorem OLe.holds {r : Env} {w : World} {i : Nat} {o o' : Ow} (h : OLe o o') (ho : o.holds r w i) : o'.holds r w i := by
  cases o <;> cases o' <;> simp only [OLe] at h
  · obtain ⟨rfl, hl⟩ := h; obtain ⟨b, us, h1, h2, h3⟩ := ho; exact ⟨b, us, h1, h2, hl.den h3⟩
  · trivial
  · obtain ⟨rfl, rfl, rfl, rfl⟩ := h; exact ho
  · trivial
  · obtain ⟨b, h1, h2, h3⟩ := ho; exact ⟨b, h1, h b w h2, fun w' hw => h b w' (h3 w' hw)⟩
  · trivial
  · obtain ⟨rfl, rfl, rfl⟩ := h; exact ho
  · trivial
  · trivial
theorem SLe.get : ∀ {S S' : List Ow} {i : Nat} {o' : Ow}, SLe S S' → S'[i]? = some o' → ∃ o, S[i]? = some o ∧ OLe o o'
  | _, [], i, o', _, h => by simp at h
  | [], _ :: _, _, _, h, _ => h.elim
  | o :: S, o1 :: S', 0, o', h, hi => by simp at hi; subst hi; exact ⟨o, by simp, h.1⟩
  | o :: S, o1 :: S', i + 1, o', h, hi => by simpa using SLe.get h.2 (by simpa using hi)
theorem SLe.length : ∀ {S S' : List Ow}, SLe S S' → S'.length ≤ S.length
  | _, [], _ => by simp
  | [], _ :: _, h => h.elim
  | o :: S, o1 :: S', h => by simp; exact SLe.length h.2

section
variable {P : Program} {w0 : World} {G : Gs} {N : Nd} {f f' : Fr} {S S' : List Ow}
theorem ent_refl : Ent w0 G N f S f S := ⟨fun _ _ h => h⟩
theorem ent_trans {f2 : Fr} {S2 : List Ow} (h : Ent w0 G N f S f' S') (k : Ent w0 G N f' S' f2 S2) : Ent w0 G N f S f2 S2 := ⟨fun a w hg => k.out a w (h.out a w hg)⟩
/-- As many own entries as before. -/
theorem ent_same (hl : S.length = S'.length) (hf : FLe f f') (hS : SLe S S') : Ent w0 G N f S f' S' := ⟨fun a w ⟨r, hR, hd, hN, hdf⟩ =>
  ⟨r, ⟨hR.os, hR.tape, hR.output, hR.size, hR.old, fun i o' hi => by obtain ⟨o, ho, hle⟩ := hS.get hi; exact hle.holds (hR.own i o ho), hR.inj, hR.new, fun i hi => hR.outB i (by omega), fun i hi => hR.outV i (by omega), hR.first⟩, hf.den hd, hN, hdf⟩⟩
/-- Fewer: what is left names none of the others. -/
theorem ent_drop (hf : FLe f f') (hS : SLe S S') (hb : Fr.bnd S'.length f' = true) (hg : grpOk G S' = true) : Ent w0 G N f S f' S' := ⟨fun a w ⟨r, hR, hd, hN, hdf⟩ => by
  unfold grpOk at hg
  split at hg
  · rename_i hG
    refine ⟨r.upto S'.length, hR.upto rfl hS.length (Nat.le_of_ble_eq_true hG) fun i o' hi => ?_, (hf.den hd).agree (Env.upto_agree _ _) hb, hN, hdf⟩
    have hil : i < S'.length := by
      rcases Nat.lt_or_ge i S'.length with h1 | h1
      · exact h1
      · rw [List.getElem?_eq_none h1] at hi; cases hi
    obtain ⟨o, ho, hle⟩ := hS.get hi
    exact Ow.holds_agree (hle.holds (hR.own i o ho)) (Env.upto_agree _ _) (sbnd_get hg hi) hil (Env.upto_blk _ _)
  · cases hg⟩
/-- A slot that holds nil is a row of the call's own, of no elements. -/
theorem ent_row (d : Nat) (e : TypeId) (size : Nat) (h : f.get d = one (.slice none 0 0)) : Ent w0 G N f S ((d, .p (.c (.row S.length))) :: f) (S ++ [.row e size 0 []]) := ⟨fun a w ⟨r, hR, hf, hN, hd⟩ => by
  have hle := hR.le_new none (some (.slice none 0 0))
  have hdd := hf d
  rw [h] at hdd
  have hv := den_v hdd
  refine ⟨r.set S.length none (some (.slice none 0 0)), hR.snoc (Below.refl _ _) nofun ⟨.slice none 0 0, by simp [Env.set], by simp [Env.set, Value.ownBlock], by simp, .inl ⟨rfl, rfl⟩⟩, fun k => ?_, hN, hd⟩
  simp only [Fr.get]
  split
  · rename_i hk
    have := Nat.eq_of_beq_eq_true hk; subst this
    simp only [AV.den, Pc.den, CV.den]; rw [hv]; simp [Env.set]
  · exact (hf.mono hle) k⟩
end

/-! Functions. -/
def argFr : List AV → Nat → Fr
  | [], _ => []
  | x :: l, k => (k, x) :: argFr l (k + 1)
def resV (P : Program) (w0 : World) (G : Gs) (S : List Ow) (f : Fr) : ResultVar → (AV → Prop) → Prop
  | .tmp t, K => forceAV (f.get t) K
  | .cell t ty, K => loadK P w0 G S ty (f.get t) K
def resL (P : Program) (w0 : World) (G : Gs) (S : List Ow) (f : Fr) : List ResultVar → (List AV → Prop) → Prop
  | [], K => K []
  | x :: l, K => resV P w0 G S f x fun v => resL P w0 G S f l fun vs => K (v :: vs)
def toPcs : List AV → Option (List Pc)
  | [] => some []
  | .p x :: l => (match toPcs l with | some m => some (x :: m) | none => none)
  | _ => none
/-- The results, as one value. -/
def resK (P : Program) (w0 : World) (G : Gs) (S : List Ow) (f : Fr) (rs : List ResultVar) (K : AV → Prop) : Prop :=
  resL P w0 G S f rs fun vs => match vs with
    | [v] => K v
    | vs => (match toPcs vs with | some m => K (.tup m) | none => False)
/-- The end of a function: the post of every value and world of this kind. -/
structure Fin (w0 : World) (G : Gs) (S : List Ow) (v : AV) (R : Ending → World → Prop) : Prop where
  out : ∀ r w u, Rel w0 G S r w → v.den r u → R (.returned u) w
def RetK (P : Program) (w0 : World) (G : Gs) (rs : List ResultVar) (R : Ending → World → Prop) : Exit → Fr → List Ow → Prop := fun e f S => match e with
  | .normal => resK P w0 G S f rs fun v => Fin w0 G S v R
  | .ret => resK P w0 G S f rs fun v => Fin w0 G S v R
  | _ => False
def resS (a : Act) (x : ResultVar) : Sem Value := match x with | .tmp t => pure (a.tmps.getD t undef) | .cell t ty => do loadVar ty (← asAddr (a.tmps.getD t undef))
theorem resV_sound {P : Program} {w0 : World} {G : Gs} {S : List Ow} {f : Fr} {x : ResultVar} {K : AV → Prop} (h : resV P w0 G S f x K) {r : Env} {w : World} (hR : Rel w0 G S r w) {a : Act} (hf : FDen r f a) :
    ∃ v u, K v ∧ v.den r u ∧ (resS a x).run P w = .ok u w := by
  cases x with
  | tmp t => exact ⟨_, _, forceAV_iff.1 h, hf t, rfl⟩
  | cell t ty =>
    obtain ⟨v, u, hK, hd, hrun⟩ := loadK_sound h hR (hf t)
    refine ⟨v, u, hK, hd, ?_⟩
    show (asAddr (a.tmps.getD t undef) >>= fun x => loadVar ty x).run P w = _
    have := hrun w (Below.refl _ _)
    simp only [Instr.loadAt] at this
    generalize a.tmps.getD t undef = x at this ⊢
    cases x with
    | pointer p =>
      cases p with
      | none => simp [Instr.sureAddr] at this
      | some p => simpa [Instr.sureAddr, asAddr] using this
    | _ => simp [Instr.sureAddr] at this
theorem resL_sound {P : Program} {w0 : World} {G : Gs} {S : List Ow} {f : Fr} {r : Env} {w : World} (hR : Rel w0 G S r w) {a : Act} (hf : FDen r f a) : ∀ {xs : List ResultVar} {K : List AV → Prop}, resL P w0 G S f xs K →
    ∃ vs us, K vs ∧ avdenL r vs us ∧ (xs.mapM (resS a)).run P w = .ok us w
  | [], K, h => ⟨[], [], h, rfl, by simp⟩
  | x :: xs, K, h => by
    obtain ⟨v, u, h1, hd, hrun⟩ := resV_sound h hR hf
    obtain ⟨vs, us, hK, hds, hruns⟩ := resL_sound hR hf h1
    exact ⟨v :: vs, u :: us, hK, ⟨u, us, rfl, hd, hds⟩, by simp only [List.mapM_cons, Sem.run_bind, hrun, hruns, Result.andThen_ok, Sem.run_pure]⟩
theorem toPcs_den {r : Env} : ∀ {vs : List AV} {m : List Pc} {us : List Value}, toPcs vs = some m → avdenL r vs us → pdenL r m us
  | [], m, us, h, hd => by injection h with h; subst h; exact hd
  | v :: vs, m, us, h, hd => by
    cases v with
    | tup l => simp [toPcs] at h
    | p x =>
      simp only [toPcs] at h
      split at h
      · rename_i m' hm
        injection h with h; subst h
        obtain ⟨u, l, rfl, h1, h2⟩ := hd
        exact ⟨u, l, rfl, h1, toPcs_den hm h2⟩
      · cases h
theorem avdenL_length {r : Env} : ∀ {l : List AV} {us : List Value}, avdenL r l us → us.length = l.length
  | [], us, h => by rw [show us = [] from h]; rfl
  | c :: l, us, h => by obtain ⟨u, l', rfl, _, h2⟩ := h; simp [avdenL_length h2]
theorem resK_sound {P : Program} {w0 : World} {G : Gs} {S : List Ow} {f : Fr} {fn : Func} {K : AV → Prop} (h : resK P w0 G S f fn.results.toList K) {r : Env} {w : World} (hR : Rel w0 G S r w) {a : Act} (hf : FDen r f a) :
    ∃ v u, K v ∧ v.den r u ∧ (results fn a.tmps).run P w = .ok u w := by
  obtain ⟨vs, us, hK, hd, hrun⟩ := resL_sound hR hf h
  have hres : (results fn a.tmps).run P w = .ok (if h : us.toArray.size = 1 then us.toArray[0] else .tuple us.toArray) w := by
    unfold results
    rw [Array.mapM_eq_mapM_toList]
    simp only [Sem.run_bind, Sem.run_map]
    erw [hrun]
    simp
  split at hK
  · rename_i v
    obtain ⟨u, l, rfl, h1, h2⟩ := hd
    have : l = [] := h2
    subst this
    exact ⟨v, u, hK, h1, by rw [hres]; simp⟩
  · rename_i hne
    split at hK
    · rename_i m hm
      refine ⟨_, .tuple us.toArray, hK, ⟨us, rfl, toPcs_den hm hd⟩, ?_⟩
      rw [hres, dif_neg]
      intro h1
      obtain ⟨v, hv⟩ := List.length_eq_one_iff.1 ((avdenL_length hd).symm.trans (by simpa using h1))
      exact hne v hv
    · exact hK.elim
theorem argFr_get {r : Env} {tmps : Array Value} : ∀ (avs : List AV) (us : List Value) (k : Nat), avdenL r avs us → (∀ j u, us[j]? = some u → tmps.getD (k + j) undef = u) → ∀ i, ((argFr avs k).get i).den r (tmps.getD i undef)
  | [], us, k, _, _, i => by simp [argFr, Fr.get, AV.den, Pc.den, CV.den]
  | v :: avs, us, k, hd, h, i => by
    obtain ⟨u, l, rfl, h1, h2⟩ := hd
    simp only [argFr, Fr.get]
    split
    · rename_i hk; have := Nat.eq_of_beq_eq_true hk; subst this
      have := h 0 u rfl
      rw [Nat.add_zero] at this
      rw [this]; exact h1
    · exact argFr_get avs l (k + 1) h2 (fun j u hj => by have := h (j + 1) u (by simpa using hj); rw [← this]; congr 1; omega) i
/-- A function's contract by the walk of its body. -/
theorem calls_vc {P : Program} {fid : FuncId} {fn : Func} {c : Code} {N : Nat} (hf : P.funcs[fid]? = some fn) (hN : fn.ntmps = N) (hb : fn.body = some c) {w0 : World} {G : Gs} {S0 : List Ow} {r0 : Env} (hR : Rel w0 G S0 r0 w0)
    {avs : List AV} {args : List Value} (hargs : avdenL r0 avs args) (hle : args.length ≤ N) {R : Ending → World → Prop} (h : vc none P w0 G ⟨N, []⟩ c (argFr avs 0) S0 (RetK P w0 G fn.results.toList R)) : Calls P fid args.toArray w0 R := by
  refine calls_of_wp hf hb (Code.wp_mono ?_ (wpIn_wide.1 ((vc_sound c _ _ _ h).out 20 _ w0 ⟨r0, hR, ?_, ?_, rfl⟩)))
  · rintro e a w ⟨f, S, hk, r, hR', hf', hN', hd'⟩
    cases e with
    | normal =>
      obtain ⟨v, u, hK, hd, hrun⟩ := resK_sound hk hR' hf'
      exact ⟨hd', u, hrun, hK.out r w u hR' hd⟩
    | ret =>
      obtain ⟨v, u, hK, hd, hrun⟩ := resK_sound hk hR' hf'
      exact ⟨hd', u, hrun, hK.out r w u hR' hd⟩
    | exit id => exact hk.elim
    | goto l => exact hk.elim
    | panic ch => exact hk.elim
    | outgrown => exact hk.elim
  · intro i
    refine argFr_get avs args 0 hargs (fun j u hj => ?_) i
    rw [Nat.zero_add, Array.getD_eq_getD_getElem?, Array.getElem?_append_left (by simp; rcases Nat.lt_or_ge j args.length with h1 | h1; exact h1; rw [List.getElem?_eq_none h1] at hj; cases hj)]
    simp [hj]
  · simp; omega
def Env.none : Env := ⟨fun _ => Option.none, fun _ => Option.none⟩
theorem rel_none (w : World) : Rel w Gs.nil [] Env.none w :=
  ⟨rfl, rfl, rfl, Nat.le_refl _, fun _ _ _ => rfl, by simp, nofun, nofun, fun _ _ => rfl, fun _ _ => rfl, (by intro i g h; simp [Gs.nil] at h)⟩
theorem Rel.toBelow {w0 w : World} {S : List Ow} {r : Env} (h : Rel w0 Gs.nil S r w) : Below w0.heap.size w0 w := ⟨h.os, h.tape, h.output, h.size, fun k hk => h.old k hk (by simp)⟩
/-- A call whose contract leaves alone what lay there and hands back the value x. -/
theorem callS_val {P : Program} {w0 : World} {G : Gs} {fid : FuncId} {args : List AV} {S : List Ow} {K : AV → List Ow → Prop} (x : Value) (hok : fnOk P fid = true)
    (h : ∀ r w us, Rel w0 G S r w → avdenL r args us → Calls P fid us.toArray w fun e w' => e = .returned x ∧ Below w.heap.size w w') (hK : K (AV.of x) S) : CallS P w0 G fid args S K :=
  ⟨hok, fun r w us hR hd => (h r w us hR hd).mono fun _e _w' ⟨he, hb⟩ => ⟨_, x, S, r, he, AV.of_den r x, hR.below hb, Env.le.refl r, hK⟩⟩
/-- What is known whole. -/
def CV.val : CV → Option Value
  | .v x => some x
  | .clo f [] => some (.func f #[] #[])
  | _ => none
def valL : List CV → Option (List Value)
  | [] => some []
  | c :: l => match c.val with | some x => (match valL l with | some m => some (x :: m) | none => none) | none => none
def Pc.val : Pc → Option Value
  | .c x => x.val
  | .agg l => (match valL l with | some m => some (.agg m.toArray) | none => none)
def pvalL : List Pc → Option (List Value)
  | [] => some []
  | c :: l => match c.val with | some x => (match pvalL l with | some m => some (x :: m) | none => none) | none => none
def AV.val : AV → Option Value
  | .p x => x.val
  | .tup l => (match pvalL l with | some m => some (.tuple m.toArray) | none => none)
def avals : List AV → Option (List Value)
  | [] => some []
  | c :: l => match c.val with | some x => (match avals l with | some m => some (x :: m) | none => none) | none => none
theorem CV.val_den {r : Env} {c : CV} {x u : Value} (h : c.val = some x) (hd : c.den r u) : u = x := by
  unfold CV.val at h
  split at h
  · injection h with h; subst h; simpa only [CV.den] using hd
  · injection h with h; subst h
    simp only [CV.den, denL] at hd; obtain ⟨us, rfl, rfl⟩ := hd; rfl
  · cases h
theorem valL_den {r : Env} : ∀ {l : List CV} {xs us : List Value}, valL l = some xs → denL r l us → us = xs
  | [], xs, us, h, hd => by injection h with h; subst h; simpa only [denL] using hd
  | c :: l, xs, us, h, hd => by
    simp only [denL] at hd; obtain ⟨u, m, rfl, h1, h2⟩ := hd
    simp only [valL] at h
    split at h
    · rename_i x hx
      split at h
      · rename_i m' hm
        injection h with h; subst h
        rw [CV.val_den hx h1, valL_den hm h2]
      · cases h
    · cases h
theorem Pc.val_den {r : Env} {c : Pc} {x u : Value} (h : c.val = some x) (hd : c.den r u) : u = x := by
  unfold Pc.val at h
  split at h
  · exact CV.val_den h hd
  · split at h
    · rename_i m hm
      injection h with h; subst h
      obtain ⟨us, rfl, hl⟩ := hd
      rw [valL_den hm hl]
    · cases h
theorem pvalL_den {r : Env} : ∀ {l : List Pc} {xs us : List Value}, pvalL l = some xs → pdenL r l us → us = xs
  | [], xs, us, h, hd => by injection h with h; subst h; exact hd
  | c :: l, xs, us, h, hd => by
    obtain ⟨u, m, rfl, h1, h2⟩ := hd
    simp only [pvalL] at h
    split at h
    · rename_i x hx
      split at h
      · rename_i m' hm
        injection h with h; subst h
        rw [Pc.val_den hx h1, pvalL_den hm h2]
      · cases h
    · cases h
theorem AV.val_den {r : Env} {c : AV} {x u : Value} (h : c.val = some x) (hd : c.den r u) : u = x := by
  unfold AV.val at h
  split at h
  · exact Pc.val_den h hd
  · split at h
    · rename_i m hm
      injection h with h; subst h
      obtain ⟨us, rfl, hl⟩ := hd
      rw [pvalL_den hm hl]
    · cases h
theorem avals_den {r : Env} : ∀ {l : List AV} {xs us : List Value}, avals l = some xs → avdenL r l us → us = xs
  | [], xs, us, h, hd => by injection h with h; subst h; exact hd
  | c :: l, xs, us, h, hd => by
    obtain ⟨u, m, rfl, h1, h2⟩ := hd
    simp only [avals] at h
    split at h
    · rename_i x hx
      split at h
      · rename_i m' hm
        injection h with h; subst h
        rw [AV.val_den hx h1, avals_den hm h2]
      · cases h
    · cases h
section
variable {P : Program} {w0 : World} {G : Gs} {fid : FuncId} {args : List AV} {S : List Ow} {K : AV → List Ow → Prop} {xs : List Value} {x : Value}
/-- A call by its contract, of arguments that are known whole. -/
theorem call_con (hx : avals args = some xs) (hok : fnOk P fid = true) (h : ∀ r w, Rel w0 G S r w → Calls P fid xs.toArray w fun e w' => e = .returned x ∧ Below w.heap.size w w') (hK : K (AV.of x) S) : CallS P w0 G fid args S K :=
  callS_val x hok (fun r w us hR hd => by rw [avals_den hx hd]; exact h r w hR) hK
theorem call_same (hx : avals args = some xs) (hok : fnOk P fid = true) (h : ∀ r w, Rel w0 G S r w → Calls P fid xs.toArray w fun e w' => e = .returned x ∧ w = w') (hK : K (AV.of x) S) : CallS P w0 G fid args S K :=
  call_con hx hok (fun r w hR => (h r w hR).mono fun e w' ⟨h1, h2⟩ => ⟨h1, by subst h2; exact Below.refl _ _⟩) hK
/-- The end of a function that leaves old memory alone and hands back what is known whole. -/
theorem fin_val {v : AV} {R : Ending → World → Prop} (hv : v.val = some x) (h : ∀ w, Below w0.heap.size w0 w → R (.returned x) w) : Fin w0 Gs.nil S v R := ⟨fun r w u hR hd => by rw [AV.val_den hv hd]; exact h w hR.toBelow⟩
end
end Go.Proofs.Ytmjfgnnefcimiaa
