/- Two operations compared by ==, !=. The optimizer's passes as plain functions: Copies. Operations over states that are known part by part: the quiet ones in one law. -/
import Derived.ChangeKeysEq
import Derived.Test.YtmjfgnnefcimiaaK1
import Derived.Test.YtmjfgnnefcimiaaK3
import Derived.Test.YtmjfgnnefcimiaaK4
namespace Go.Proofs.Ytmjfgnnefcimiaa
open Go.RowKit
def fld (n : String) (t : TypeId) (k b : Nat) : Field := { name := n, type := t, offset := k, embedded := false, tag := "", pkgPath := "", byteOffset := b }
theorem op_fields : (Try.prog.fieldsOf 53).toList = [fld "Code" 3 0 0, fld "D" 3 1 8, fld "A" 3 2 16, fld "B" 3 3 24, fld "N" 24 4 32] := by kernel_rfl
theorem op_equal (p q : BOp) (w : World) : (Op.equalIn 10000 53 (opV p) (opV q)).run Try.prog w = .ok (p == q) w := by
  have i1 : ∀ (d : Nat) (a b : Int) (w : World), (Op.equalIn (d + 1) 3 (.int .i64 a) (.int .i64 b)).run Try.prog w = .ok (a == b) w := fun d a b w => run_equalIn_int w d _ _ _ a b Try.underlying3
  have i2 : ∀ (d : Nat) (a b : Int) (w : World), (Op.equalIn (d + 1) 24 (.int .u32 a) (.int .u32 b)).run Try.prog w = .ok (a == b) w := fun d a b w => run_equalIn_int w d _ _ _ a b Try.underlying24
  have j1 : ∀ (xs : Array Value) (o : Nat) (v : Value) (w : World), xs[o]? = some v → (part 3 xs o).run Try.prog w = .ok v w := fun xs o v w h => run_part_plain w (by kernel_rfl) h
  have j2 : ∀ (xs : Array Value) (o : Nat) (v : Value) (w : World), xs[o]? = some v → (part 24 xs o).run Try.prog w = .ok v w := fun xs o v w h => run_part_plain w (by kernel_rfl) h
  rw [run_equalIn_agg _ _ _ _ _ (by kernel_rfl) (by kernel_rfl), op_fields]
  obtain ⟨c, d, a, b, n⟩ := p
  obtain ⟨c', d', a', b', n'⟩ := q
  have hb : ((⟨c, d, a, b, n⟩ : BOp) == ⟨c', d', a', b', n'⟩) = (c == c' && (d == d' && (a == a' && (b == b' && n == n')))) := by
    rw [Bool.eq_iff_iff]; simp
  rw [hb]
  cases e0 : c == c' <;> cases e1 : d == d' <;> cases e2 : a == a' <;> cases e3 : b == b' <;> cases e4 : n == n' <;>
    simp [Op.eqFields, fld, j1, j2, i1, i2, e0, e1, e2, e3, e4]
theorem op_neq (p q : BOp) (w : World) : (binOp .neq 53 (opV p) (opV q)).run Try.prog w = .ok (.bool (!(p == q))) w := by
  rw [run_neq_struct, op_equal]; rfl
end Go.Proofs.Ytmjfgnnefcimiaa
namespace Go.Proofs.Ytmjfgnnefcimiaa
open Go.RowKit

def midF (s : Int → Option Int) : Prop := ∀ k x, s k = some x → mid x
def copyMark (s : Int → Option Int) (o : BOp) : Int → Option Int := if o.code == 20 then fun v => (fdel s 8 v).filter fun w => !decide (20 ≤ w) else s
def origS (s : Int → Option Int) (has : Bool) (v : Int) : Int := if has && (s v).isSome then (s v).getD 0 else v
def copyOp (s : Int → Option Int) (o : BOp) : BOp := ⟨o.code, o.d, origS s (memI o.a (reads o) && o.code != 20) o.a, origS s (twoB o.code) o.b, o.n⟩
def copySkip (p : BOp) : Bool := p.code == 2 && p.d == p.a
def copyKill (s : Int → Option Int) (d : Int) : Int → Option Int := fun v => (mdel s d v).filter fun w => !(w == d)
def copyUpd (s : Int → Option Int) (p : BOp) : Int → Option Int := if writes p < 0 then s else if p.code == 2 then mput (copyKill s (writes p)) (writes p) p.a else copyKill s (writes p)
def copyRun : (Int → Option Int) → List BOp → List BOp
  | _, [] => []
  | s, o :: l => if copySkip (copyOp (copyMark s o) o) then copyRun (copyMark s o) l else copyOp (copyMark s o) o :: copyRun (copyUpd (copyMark s o) (copyOp (copyMark s o) o)) l
def copyAll (b : Blk) : List BOp := if validB b then copyRun noneF b.ops else b.ops
theorem copyRun_at {f : Int → Option Int} {l : List BOp} {k : Nat} {o : BOp} (h : l[k]? = some o) :
    copyRun f (l.drop k) = if copySkip (copyOp (copyMark f o) o) then copyRun (copyMark f o) (l.drop (k + 1)) else copyOp (copyMark f o) o :: copyRun (copyUpd (copyMark f o) (copyOp (copyMark f o) o)) (l.drop (k + 1)) := by
  have hk : k < l.length := by
    rcases Nat.lt_or_ge k l.length with h1 | h1
    · exact h1
    · rw [List.getElem?_eq_none h1] at h; cases h
  rw [List.drop_eq_getElem_cons hk]
  have e : l[k] = o := by rw [List.getElem?_eq_getElem hk] at h; injection h
  rw [e]; rfl
theorem midF_none : midF noneF := nofun
theorem midF_fdel {s : Int → Option Int} (h : midF s) (n : Nat) : midF (fdel s n) := fun k x hx => by
  unfold fdel at hx; split at hx
  · cases hx
  · exact h k x hx
theorem midF_filter {s : Int → Option Int} (h : midF s) (p : Int → Bool) : midF fun v => (s v).filter p := fun k x hx => by
  obtain ⟨h1, _⟩ := Option.filter_eq_some_iff.1 hx; exact h k x h1
theorem midF_mark {s : Int → Option Int} (h : midF s) (o : BOp) : midF (copyMark s o) := by
  unfold copyMark; split
  · exact midF_filter (midF_fdel h 8) _
  · exact h
theorem midF_mdel {s : Int → Option Int} (h : midF s) (d : Int) : midF (mdel s d) := fun k x hx => by
  unfold mdel at hx; split at hx
  · cases hx
  · exact h k x hx
theorem midF_kill {s : Int → Option Int} (h : midF s) (d : Int) : midF (copyKill s d) := midF_filter (midF_mdel h d) _
theorem midF_upd {s : Int → Option Int} {p : BOp} (h : midF s) (hp : p.ok) : midF (copyUpd s p) := by
  unfold copyUpd
  split
  · exact h
  split
  · intro k x hx; unfold mput at hx; split at hx
    · injection hx with hx; subst hx; exact hp.a
    · exact midF_kill h _ k x hx
  · exact midF_kill h _
theorem origS_mid {s : Int → Option Int} (h : midF s) {has : Bool} {v : Int} (hv : mid v) : mid (origS s has v) := by
  unfold origS
  split
  · cases hs : s v with
    | none => exact mid0
    | some x => exact h v x hs
  · exact hv
theorem copyOp_ok {s : Int → Option Int} {o : BOp} (h : midF s) (ho : o.ok) : (copyOp s o).ok := ⟨ho.code, ho.d, origS_mid h ho.a, origS_mid h ho.b, ho.n⟩
theorem copyRun_length : ∀ (l : List BOp) (f : Int → Option Int), (copyRun f l).length ≤ l.length
  | [], f => Nat.le_refl _
  | o :: l, f => by
    unfold copyRun
    split
    · have := copyRun_length l (copyMark f o); simp; omega
    · have := copyRun_length l (copyUpd (copyMark f o) (copyOp (copyMark f o) o)); simp; omega
end Go.Proofs.Ytmjfgnnefcimiaa
namespace Go.Proofs.Ytmjfgnnefcimiaa
open Go.RowKit

/-- The parts of a struct or array that is built, laid cell by cell. -/
def setAll {α : Type} : List α → Nat → List α → List α
  | l, _, [] => l
  | l, off, c :: cs => setAll (l.set off c) (off + 1) cs
theorem setAll_length {α : Type} : ∀ (cs l : List α) (off : Nat), (setAll l off cs).length = l.length
  | [], _, _ => rfl
  | c :: cs, l, off => by rw [setAll, setAll_length cs]; simp
theorem denL_setAll {r : Env} : ∀ {cs : List CV} {vs : List Value} {l : List CV} {us : List Value} (off : Nat), denL r cs vs → denL r l us → denL r (setAll l off cs) (setAll us off vs)
  | [], vs, l, us, off, h, hl => by simp only [denL] at h; subst h; exact hl
  | c :: cs, vs, l, us, off, h, hl => by
    simp only [denL] at h; obtain ⟨u, m, hu, hc, hm⟩ := h; subst hu
    exact denL_setAll (off + 1) hm (denL_set off hl hc)
theorem foldl_setAll : ∀ (vs : List Value) (cs : Array Value) (off k : Nat), ((vs.zipIdx k).foldl (fun cs (c, j) => cs.setIfInBounds (off + j) c) cs).toList = setAll cs.toList (off + k) vs
  | [], cs, off, k => rfl
  | v :: vs, cs, off, k => by
    simp only [List.zipIdx_cons, List.foldl_cons, setAll]
    rw [foldl_setAll vs _ off (k + 1)]
    simp [Nat.add_assoc]
/-- A cell that is known to be one cell's value. -/
def CV.one : CV → Bool
  | .v (.agg _) => false
  | .v (.tuple _) => false
  | .v _ => true
  | .any => false
  | .row _ => false
  | _ => true
theorem cells_of_one {u : Value} (h : ∀ cs, u ≠ .agg cs) : u.cells = #[u] := by
  unfold Value.cells
  split
  · rename_i cs; exact absurd rfl (h cs)
  · rfl
/-- The cells of a value, by what is known of it. -/
def AV.okCells (S : List Ow) : AV → Option (List CV)
  | .p (.c c) => (match c with
    | .row i => (match S[i]? with | some (.row ..) => some [c] | some (.view ..) => some [c] | _ => none)
    | c => (match c.one with | true => some [c] | false => none))
  | .p (.agg l) => some l
  | .tup _ => none
theorem row_slice {w : World} {base : Nat} {e : TypeId} {size n : Nat} {v : Value} {xs : List Value} (h : w.ownsRow base e size v n xs) : ∃ A c, v = .slice A n c := by
  rcases h.2 with ⟨h0, hn⟩ | ⟨g, cap, cur, hv, _⟩
  · subst hn; exact ⟨_, _, h0⟩
  · exact ⟨_, _, hv⟩
theorem one_not_agg {r : Env} {c : CV} {u : Value} (h : c.one = true) (hd : c.den r u) : (∀ cs, u ≠ .agg cs) ∧ (∀ cs, u ≠ .tuple cs) := by
  cases c with
  | v x => simp only [CV.den] at hd; subst hd; cases u <;> simp [CV.one] at h <;> exact ⟨nofun, nofun⟩
  | ref i off => simp only [CV.den] at hd; obtain ⟨b, _, rfl⟩ := hd; exact ⟨nofun, nofun⟩
  | vref i off => simp only [CV.den] at hd; obtain ⟨b, o, n, c, _, rfl⟩ := hd; exact ⟨nofun, nofun⟩
  | row i => simp [CV.one] at h
  | sl i off n c => simp only [CV.den] at hd; obtain ⟨b, _, rfl⟩ := hd; exact ⟨nofun, nofun⟩
  | mp i => simp only [CV.den] at hd; obtain ⟨b, _, rfl⟩ := hd; exact ⟨nofun, nofun⟩
  | clo f cap => simp only [CV.den] at hd; obtain ⟨us, rfl, _⟩ := hd; exact ⟨nofun, nofun⟩
  | any => simp [CV.one] at h
theorem okCells_den {w0 : World} {G : Gs} {S : List Ow} {r : Env} {w : World} (hR : Rel w0 G S r w) {x : AV} {cs : List CV} (h : x.okCells S = some cs) {u : Value} (hd : x.den r u) : denL r cs u.cells.toList := by
  unfold AV.okCells at h
  split at h
  · rename_i c
    split at h
    · rename_i i
      split at h
      · rename_i hi
        injection h with h; subst h
        simp only [AV.den, Pc.den, CV.den] at hd
        obtain ⟨v, h1, h2, h3⟩ := hR.own i _ hi
        rw [hd] at h1; injection h1 with h1; subst h1
        obtain ⟨A, c', hs⟩ := row_slice h3
        subst hs
        simp only [Value.cells, denL]; exact ⟨_, _, rfl, by simpa only [CV.den] using hd, rfl⟩
      · rename_i hi
        injection h with h; subst h
        simp only [AV.den, Pc.den, CV.den] at hd
        obtain ⟨A, c', h1, _⟩ := hR.own i _ hi
        rw [hd] at h1; injection h1 with h1; subst h1
        simp only [Value.cells, denL]; exact ⟨_, _, rfl, by simpa only [CV.den] using hd, rfl⟩
      · cases h
    · split at h
      · rename_i ho
        injection h with h; subst h
        simp only [AV.den, Pc.den] at hd
        rw [cells_of_one (one_not_agg ho hd).1]
        simp only [denL]; exact ⟨u, [], rfl, hd, rfl⟩
      · cases h
  · rename_i l
    injection h with h; subst h
    obtain ⟨us, rfl, hl⟩ := hd
    simpa [Value.cells] using hl
  · cases h

def fillK (P : Program) (S : List Ow) (f : Fr) (place : Nat → Option (Nat × Nat)) : List (Nat × Operand) → List CV → Option (List CV)
  | [], cells => some cells
  | (i, x) :: rest, cells => match place i with
    | some (off, size) => (match (f.ev x).okCells S with
      | some cs => (match Nat.beq cs.length size with | true => (match Nat.ble (off + size) cells.length with | true => fillK P S f place rest (setAll cells off cs) | false => none) | false => none)
      | none => none)
    | none => none
theorem fillK_sound {P : Program} {w0 : World} {G : Gs} {S : List Ow} {r : Env} {w : World} (hR : Rel w0 G S r w) {f : Fr} {a : Act} (hf : FDen r f a) {place : Nat → Option (Nat × Nat)} :
    ∀ (parts : List (Nat × Operand)) (cells m : List CV) (us : List Value), fillK P S f place parts cells = some m → denL r cells us →
      ∃ vs : List Value, Instr.fill place us.toArray (parts.map fun p => (p.1, a.eval p.2)) = some vs.toArray ∧ denL r m vs
  | [], cells, m, us, h, hl => by injection h with h; subst h; exact ⟨us, rfl, hl⟩
  | (i, x) :: rest, cells, m, us, h, hl => by
    unfold fillK at h
    split at h
    · rename_i off size hp
      split at h
      · rename_i cs hcs
        split at h
        · rename_i hz
          split at h
          · rename_i hle
            have hd := okCells_den hR hcs (hf.ev x)
            have hlen := denL_length hd
            have e1 : cs.length = size := Nat.eq_of_beq_eq_true hz
            have e2 : off + size ≤ cells.length := Nat.le_of_ble_eq_true hle
            have e3 := denL_length hl
            obtain ⟨vs, hv, hm⟩ := fillK_sound hR hf rest _ m (setAll us off (a.eval x).cells.toList) h (denL_setAll off hd hl)
            refine ⟨vs, ?_, hm⟩
            have hsz : (a.eval x).cells.size = size := by rw [← Array.length_toList, hlen, e1]
            simp only [List.map_cons, Instr.fill, hp]
            rw [if_neg (by simp only [Bool.or_eq_true, decide_eq_true_eq, not_or]; refine ⟨fun h => h hsz, by simp; omega⟩)]
            rw [← hv]
            congr 1
            apply Array.ext'
            have := foldl_setAll (a.eval x).cells.toList us.toArray off 0
            simp only [Nat.add_zero] at this
            rw [← this]
            congr 1
            rw [← Array.foldl_toList]
            congr 1
            simp
          · cases h
        · cases h
      · cases h
    · cases h
def fieldPlaces (P : Program) (fs : Array Field) (k : Nat) : Option (Nat × Nat) := match fs[k]? with | some f => (match P.info? f.type with | some i => some (f.offset, i.size) | none => none) | none => none
def allInfo (P : Program) : List Field → Bool
  | [] => true
  | f :: fs => match P.info? f.type with | some _ => allInfo P fs | none => false
theorem mapM_places {P : Program} (w : World) : ∀ fs : List Field, allInfo P fs = true →
    ∃ ps : List (Nat × Nat), (fs.mapM fun f => (do pure (f.offset, ← sizeOf f.type) : Sem (Nat × Nat))).run P w = .ok ps w ∧ ∀ k : Nat, ps[k]? = fieldPlaces P fs.toArray k
  | [], _ => ⟨[], by simp, fun k => by simp [fieldPlaces]⟩
  | f :: fs, h => by
    unfold allInfo at h
    split at h
    · rename_i i hi
      obtain ⟨ps, h1, h2⟩ := mapM_places w fs h
      refine ⟨(f.offset, i.size) :: ps, ?_, fun k => ?_⟩
      · simp only [List.mapM_cons, Sem.run_bind, run_sizeOf P f.type w hi, Result.andThen_ok, Sem.run_pure, h1]
      · cases k with
        | zero => simp [fieldPlaces, hi]
        | succ k => simpa [fieldPlaces] using h2 k
    · cases h
def buildK (P : Program) (S : List Ow) (f : Fr) (t : TypeId) (parts : Array (Nat × Operand)) (K : AV → Prop) : Prop :=
  match P.underlying t, P.info? t with
  | some (.struct fs), some i => (match i.zero with
    | some z => (match allInfo P fs.toList with
      | true => (match fillK P S f (fieldPlaces P fs) parts.toList (z.cells.toList.map .v) with | some m => forceS i.size m fun m => K (.p (.agg m)) | none => False)
      | false => False)
    | none => False)
  | _, _ => False
theorem buildK_sound {P : Program} {w0 : World} {G : Gs} {S : List Ow} {r : Env} {w : World} (hR : Rel w0 G S r w) {f : Fr} {a : Act} (hf : FDen r f a) {t : TypeId} {parts : Array (Nat × Operand)} {K : AV → Prop} (h : buildK P S f t parts K) :
    ∃ v u, K v ∧ v.den r u ∧ ∀ w : World, (Instr.build t (parts.map fun (i, x) => (i, a.eval x))).run P w = .ok u w := by
  unfold buildK at h
  split at h
  · rename_i fs i hu hi
    split at h
    · rename_i z hz
      split at h
      · rename_i hall
        split at h
        · rename_i m hm
          obtain ⟨vs, hv, hd⟩ := fillK_sound hR hf parts.toList _ m z.cells.toList hm (denL_vals _)
          refine ⟨_, .agg vs.toArray, forceS_iff.1 h, ⟨vs, rfl, hd⟩, fun w => ?_⟩
          obtain ⟨ps, h1, h2⟩ := mapM_places w fs.toList hall
          have h2' : (fun k => ps.toArray[k]?) = fieldPlaces P fs := by funext k; simpa using h2 k
          have e1 : (parts.map fun (i, x) => (i, a.eval x)).toList = parts.toList.map fun p => (p.1, a.eval p.2) := by simp
          simp only [Instr.build, zeroValue, typeInfo, underlying, Sem.run_bind, run_program, Result.andThen_ok, hi, hu, hz, Sem.run_pure, Array.mapM_eq_mapM_toList, Sem.run_map, h1, h2', e1]
          rw [show z.cells = z.cells.toList.toArray by simp, hv]
          rfl
        · exact h.elim
      · exact h.elim
    · exact h.elim
  · exact h.elim

/-- The quiet operations: what they hand back. -/
def qop (P : Program) (w0 : World) (G : Gs) (S : List Ow) (f : Fr) (o : Oper) (K : AV → Prop) : Prop :=
  match o.op with
  | .move x => (match f.ev x with | .p (.c c) => K (.p (.c c)) | .p (.agg l) => K (.p (.agg l)) | .tup l => K (.tup l))
  | .assign x => (match f.ev x with | .p (.c c) => K (.p (.c c)) | .p (.agg l) => K (.p (.agg l)) | .tup l => K (.tup l))
  | .pick c x y => (match f.ev c with
    | .p (.c (.v (.bool b))) => (match f.ev x with
      | .p (.c (.v (.bool p))) => (match f.ev y with
        | .p (.c (.v (.bool q))) => K (one (.bool (bif b then p else q)))
        | v => (match b with | true => K (one (.bool p)) | false => K v))
      | u => (match b with | true => K u | false => K (f.ev y)))
    | _ => False)
  | .load t x => loadK P w0 G S t (f.ev x) K
  | .nilCheck x => (match f.ev x with
    | .p (.c (.ref i off)) => K (.p (.c (.ref i off)))
    | .p (.c (.clo (.func fn) cap)) => K (.p (.c (.clo (.func fn) cap)))
    | .p (.c (.v (.pointer (some p)))) => K (one (.pointer (some p)))
    | _ => QRun P w0 G S f o K)
  | .binOp op _ x y _ => (match f.ev x with
    | .p (.c (.v (.int k a))) => (match f.ev y with
      | .p (.c (.v (.int k' b))) => (match op with
        | .shl => shiftK .shl k a b fun u => K (one u)
        | .shr => shiftK .shr k a b fun u => K (one u)
        | op => (match decide (k = k') with | true => binK op k a b fun u => K (one u) | false => False))
      | _ => QRun P w0 G S f o K)
    | _ => QRun P w0 G S f o K)
  | .unOp op _ x => (match op, f.ev x with
    | .not, .p (.c (.v (.bool a))) => K (one (.bool (!a)))
    | _, _ => QRun P w0 G S f o K)
  | .convert src dst x => (match f.ev x with
    | .p (.c (.v (.int _ n))) => (match P.underlying src with
      | some (.int _) => (match P.underlying dst with
        | some (.int k) => ∃ m, k.wrap n = m ∧ K (one (.int k m))
        | _ => QRun P w0 G S f o K)
      | _ => QRun P w0 G S f o K)
    | _ => QRun P w0 G S f o K)
  | .fieldAddr s x k => (match f.ev x with
    | .p (.c (.ref i off)) => (match fldOff P s k with | some n => K (.p (.c (.ref i (off + n)))) | none => False)
    | .p (.c (.v (.pointer (some ⟨b, off, none⟩)))) => (match fldOff P s k with | some n => K (one (.pointer (some ⟨b, off + n, none⟩))) | none => False)
    | _ => False)
  | .field t x k => (match f.ev x with | .p (.agg l) => fldK P t l k K | _ => False)
  | .extract x k => (match f.ev x with
    | .tup l => (match l[k]? with | some p => K (.p p) | none => False)
    | _ => False)
  | .build t parts => buildK P S f t parts K
  | .makeFunc (.func fn) first cap => (match first.toList with
    | [] => (match cap.toList with
      | [] => K (.p (.c (.clo (.func fn) [])))
      | [x] => (match f.ev x with | .p (.c c) => K (.p (.c (.clo (.func fn) [c]))) | _ => False)
      | _ => QRun P w0 G S f o K)
    | _ => QRun P w0 G S f o K)
  | .indexAddr t x ix => (match f.ev x with
    | .p (.c (.v (.slice (some ⟨b, off, none⟩) n _))) => (match f.ev ix with
      | .p (.c (.v (.int _ k))) => (match P.underlying t with
        | some (.slice e) => (0 ≤ k ∧ k < (n : Int)) ∧ K (one (.pointer (some ⟨b, off + k.toNat * tsz P e, none⟩)))
        | _ => False)
      | _ => False)
    | .p (.c (.row i)) => (match f.ev ix with
      | .p (.c (.v (.int _ k))) => (match P.underlying t with
        | some (.slice e) => (match S[i]? with
          | some (.row _ _ n _) => (0 ≤ k ∧ k < (n : Int)) ∧ K (.p (.c (.ref i (k.toNat * tsz P e))))
          | some (.view _ n xs) => (0 ≤ k ∧ k < (n : Int) ∧ 0 < xs.length) ∧ K (.p (.c (.vref i (k.toNat * tsz P e))))
          | _ => False)
        | _ => False)
      | _ => False)
    | .p (.c (.sl i off n _)) => (match f.ev ix with
      | .p (.c (.v (.int _ k))) => (match P.underlying t with
        | some (.slice e) => (0 ≤ k ∧ k < (n : Int)) ∧ K (.p (.c (.ref i (off + k.toNat * tsz P e))))
        | _ => False)
      | _ => False)
    | .p (.c (.ref i off)) => (match f.ev ix with
      | .p (.c (.v (.int _ k))) => (match P.underlying t with
        | some (.array n e) => (0 ≤ k ∧ k < (n : Int)) ∧ K (.p (.c (.ref i (off + k.toNat * tsz P e))))
        | _ => False)
      | _ => False)
    | _ => QRun P w0 G S f o K)
  | .index t x ix => (match f.ev x with
    | .p (.agg l) => (match f.ev ix with
      | .p (.c (.v (.int _ k))) => (match P.underlying t with
        | some (.array n e) => (0 ≤ k ∧ k < (n : Int)) ∧ getK P e l (k.toNat * tsz P e) K
        | _ => False)
      | _ => False)
    | _ => QRun P w0 G S f o K)
  | .call ⟨.builtin .len, args, tys⟩ => (match args.toList with
    | [x] => (match tys.toList with
      | [t] => (match P.underlying t with
        | some (.slice _) => (match f.ev x with
          | .p (.c (.v (.slice _ n _))) => K (one (.int .i64 n))
          | .p (.c (.sl _ _ n _)) => K (one (.int .i64 n))
          | .p (.c (.row i)) => (match S[i]? with | some (.row _ _ n _) => K (one (.int .i64 n)) | some (.view _ n _) => K (one (.int .i64 n)) | _ => False)
          | _ => False)
        | _ => QRun P w0 G S f o K)
      | _ => False)
    | _ => False)
  | _ => QRun P w0 G S f o K
end Go.Proofs.Ytmjfgnnefcimiaa
