/- Operations over states that are known part by part: the quiet ones in one law. -/
import Derived.RangeFuncNested
import Derived.RangeFuncCalls
import Derived.ControlIn
import Derived.TacticsIn
import Derived.ChangeKeysEq
import Derived.Test.YtnhdcclpjildjaaGreatK4
import Derived.Test.YtnhdcclpjildjaaGreatK5
namespace Go.Proofs.YtnhdcclpjildjaaGreat
open Go.RowKit

def setAll {α : Type} : List α → Nat → List α → List α
 | l, _, [] => l
 | l, off, c :: cs => setAll (l.set off c) (off + 1) cs
theorem setAll_length {α : Type} : ∀ (cs l : List α) (off : Nat), (setAll l off cs).length = l.length
 | [], _, _ => rfl
 | c :: cs, l, off => by rw [setAll, setAll_length cs]; simp
theorem denL_setAll {r : Env} : ∀ {cs : List CV} {vs : List Value} {l : List CV} {us : List Value} (off : Nat), denL r cs vs → denL r l us → denL r (setAll l off cs) (setAll us off vs)
 | [], vs, l, us, off, h, hl => by simp only [denL] at h; subst h; exact hl
 | c :: cs, vs, l, us, off, h, hl => by
  simp only [denL] at h; obtain ⟨u, m, hu, hc, hm⟩ := h; subst hu
  exact denL_setAll (off + 1) hm (denL_set off hl hc)
theorem foldl_setAll : ∀ (vs : List Value) (cs : Array Value) (off k : Nat), ((vs.zipIdx k).foldl (fun cs (c, j) => cs.setIfInBounds (off + j) c) cs).toList = setAll cs.toList (off + k) vs
 | [], cs, off, k => rfl
 | v :: vs, cs, off, k => by
  simp only [List.zipIdx_cons, List.foldl_cons, setAll]
  rw [foldl_setAll vs _ off (k + 1)]
  simp [Nat.add_assoc]
def CV.one : CV → Bool
 | .v (.agg _) => false
 | .v (.tuple _) => false
 | .v _ => true
 | .any => false
 | .row _ => false
 | _ => true
theorem cells_of_one {u : Value} (h : ∀ cs, u ≠ .agg cs) : u.cells = #[u] := by
 unfold Value.cells
 split
 ·rename_i cs; exact absurd rfl (h cs)
 ·rfl
def AV.okCells (S : List Ow) : AV → Option (List CV)
 | .p (.c c) => (match c with
  | .row i => (match S[i]? with | some (.row ..) => some [c] | some (.view ..) => some [c] | _ => none)
  | c => (match c.one with | true => some [c] | false => none))
 | .p (.agg l) => some l
 | .tup _ => none
theorem row_slice {w : World} {base : Nat} {e : TypeId} {size n : Nat} {v : Value} {xs : List Value} (h : w.ownsRow base e size v n xs) : ∃ A c, v = .slice A n c := by
 rcases h.2 with ⟨h0, hn⟩ | ⟨g, cap, cur, hv, _⟩
 ·subst hn; exact ⟨_, _, h0⟩
 ·exact ⟨_, _, hv⟩
theorem one_not_agg {r : Env} {c : CV} {u : Value} (h : c.one = true) (hd : c.den r u) : (∀ cs, u ≠ .agg cs) ∧ (∀ cs, u ≠ .tuple cs) := by
 cases c with
 | v x => simp only [CV.den] at hd; subst hd; cases u <;> simp [CV.one] at h <;> exact ⟨nofun, nofun⟩
 | ref i off => simp only [CV.den] at hd; obtain ⟨b, _, rfl⟩ := hd; exact ⟨nofun, nofun⟩
 | vref i off => simp only [CV.den] at hd; obtain ⟨b, o, n, c, _, rfl⟩ := hd; exact ⟨nofun, nofun⟩
 | row i => simp [CV.one] at h
 | sl i off n c => simp only [CV.den] at hd; obtain ⟨b, _, rfl⟩ := hd; exact ⟨nofun, nofun⟩
 | mp i => simp only [CV.den] at hd; obtain ⟨b, _, rfl⟩ := hd; exact ⟨nofun, nofun⟩
 | clo f cap => simp only [CV.den] at hd; obtain ⟨us, rfl, _⟩ := hd; exact ⟨nofun, nofun⟩
 | any => simp [CV.one] at h
theorem okCells_den {w0 : World} {G : Gs} {S : List Ow} {r : Env} {w : World} (hR : Rel w0 G S r w) {x : AV} {cs : List CV} (h : x.okCells S = some cs) {u : Value} (hd : x.den r u) : denL r cs u.cells.toList := by
 unfold AV.okCells at h
 split at h
 ·rename_i c
  split at h
  ·rename_i i
   split at h
   ·rename_i hi
    injection h with h; subst h
    simp only [AV.den, Pc.den, CV.den] at hd
    obtain ⟨v, h1, h2, h3⟩ := hR.own i _ hi
    rw [hd] at h1; injection h1 with h1; subst h1
    obtain ⟨A, c', hs⟩ := row_slice h3
    subst hs
    simp only [Value.cells, denL]; exact ⟨_, _, rfl, by simpa only [CV.den] using hd, rfl⟩
   ·rename_i hi
    injection h with h; subst h
    simp only [AV.den, Pc.den, CV.den] at hd
    obtain ⟨A, c', h1, _⟩ := hR.own i _ hi
    rw [hd] at h1; injection h1 with h1; subst h1
    simp only [Value.cells, denL]; exact ⟨_, _, rfl, by simpa only [CV.den] using hd, rfl⟩
   ·cases h
  ·split at h
   ·rename_i ho
    injection h with h; subst h
    simp only [AV.den, Pc.den] at hd
    rw [cells_of_one (one_not_agg ho hd).1]
    simp only [denL]; exact ⟨u, [], rfl, hd, rfl⟩
   ·cases h
 ·rename_i l
  injection h with h; subst h
  obtain ⟨us, rfl, hl⟩ := hd
  simpa [Value.cells] using hl
 ·cases h

def fillK (P : Program) (S : List Ow) (f : Fr) (place : Nat → Option (Nat × Nat)) : List (Nat × Operand) → List CV → Option (List CV)
 | [], cells => some cells
 | (i, x) :: rest, cells => match place i with
  | some (off, size) => (match (f.ev x).okCells S with
   | some cs => (match Nat.beq cs.length size with | true => (match Nat.ble (off + size) cells.length with | true => fillK P S f place rest (setAll cells off cs) | false => none) | false => none)
   | none => none)
  | none => none
theorem fillK_sound {P : Program} {w0 : World} {G : Gs} {S : List Ow} {r : Env} {w : World} (hR : Rel w0 G S r w) {f : Fr} {a : Act} (hf : FDen r f a) {place : Nat → Option (Nat × Nat)} :
  ∀ (parts : List (Nat × Operand)) (cells m : List CV) (us : List Value), fillK P S f place parts cells = some m → denL r cells us →
   ∃ vs : List Value, Instr.fill place us.toArray (parts.map fun p => (p.1, a.eval p.2)) = some vs.toArray ∧ denL r m vs
 | [], cells, m, us, h, hl => by injection h with h; subst h; exact ⟨us, rfl, hl⟩
 | (i, x) :: rest, cells, m, us, h, hl => by
  unfold fillK at h
  split at h
  ·rename_i off size hp
   split at h
   ·rename_i cs hcs
    split at h
    ·rename_i hz
     split at h
     ·rename_i hle
      have hd := okCells_den hR hcs (hf.ev x)
      have hlen := denL_length hd
      have e1 : cs.length = size := Nat.eq_of_beq_eq_true hz
      have e2 : off + size ≤ cells.length := Nat.le_of_ble_eq_true hle
      have e3 := denL_length hl
      obtain ⟨vs, hv, hm⟩ := fillK_sound hR hf rest _ m (setAll us off (a.eval x).cells.toList) h (denL_setAll off hd hl)
      refine ⟨vs, ?_, hm⟩
      have hsz : (a.eval x).cells.size = size := by rw [← Array.length_toList, hlen, e1]
      simp only [List.map_cons, Instr.fill, hp]
      rw [if_neg (by simp only [Bool.or_eq_true, decide_eq_true_eq, not_or]; refine ⟨fun h => h hsz, by simp; omega⟩)]
      rw [← hv]
      congr 1
      apply Array.ext'
      have := foldl_setAll (a.eval x).cells.toList us.toArray off 0
      simp only [Nat.add_zero] at this
      rw [← this]
      congr 1
      rw [← Array.foldl_toList]
      congr 1
      simp
     ·cases h
    ·cases h
   ·cases h
  ·cases h
def fieldPlaces (P : Program) (fs : Array Field) (k : Nat) : Option (Nat × Nat) := match fs[k]? with | some f => (match P.info? f.type with | some i => some (f.offset, i.size) | none => none) | none => none
def allInfo (P : Program) : List Field → Bool
 | [] => true
 | f :: fs => match P.info? f.type with | some _ => allInfo P fs | none => false
theorem mapM_places {P : Program} (w : World) : ∀ fs : List Field, allInfo P fs = true →
  ∃ ps : List (Nat × Nat), (fs.mapM fun f => (do pure (f.offset, ← sizeOf f.type) : Sem (Nat × Nat))).run P w = .ok ps w ∧ ∀ k : Nat, ps[k]? = fieldPlaces P fs.toArray k
 | [], _ => ⟨[], by simp, fun k => by simp [fieldPlaces]⟩
 | f :: fs, h => by
  unfold allInfo at h
  split at h
  ·rename_i i hi
   obtain ⟨ps, h1, h2⟩ := mapM_places w fs h
   refine ⟨(f.offset, i.size) :: ps, ?_, fun k => ?_⟩
   ·simp only [List.mapM_cons, Sem.run_bind, run_sizeOf P f.type w hi, Result.andThen_ok, Sem.run_pure, h1]
   ·cases k with
    | zero => simp [fieldPlaces, hi]
    | succ k => simpa [fieldPlaces] using h2 k
  ·cases h
def buildK (P : Program) (S : List Ow) (f : Fr) (t : TypeId) (parts : Array (Nat × Operand)) (K : AV → Prop) : Prop :=
 match P.underlying t, P.info? t with
 | some (.struct fs), some i => (match i.zero with
  | some z => (match allInfo P fs.toList with
   | true => (match fillK P S f (fieldPlaces P fs) parts.toList (z.cells.toList.map .v) with | some m => forceS i.size m fun m => K (.p (.agg m)) | none => False)
   | false => False)
  | none => False)
 | some (.array _ e), some i => (match i.zero, P.info? e with
  | some z, some ie => (match fillK P S f (fun k => some (k * ie.size, ie.size)) parts.toList (z.cells.toList.map .v) with | some m => forceS i.size m fun m => K (.p (.agg m)) | none => False)
  | _, _ => False)
 | _, _ => False
theorem buildK_sound {P : Program} {w0 : World} {G : Gs} {S : List Ow} {r : Env} {w : World} (hR : Rel w0 G S r w) {f : Fr} {a : Act} (hf : FDen r f a) {t : TypeId} {parts : Array (Nat × Operand)} {K : AV → Prop} (h : buildK P S f t parts K) :
  ∃ v u, K v ∧ v.den r u ∧ ∀ w : World, (Instr.build t (parts.map fun (i, x) => (i, a.eval x))).run P w = .ok u w := by
 unfold buildK at h
 split at h
 ·rename_i fs i hu hi
  split at h
  ·rename_i z hz
   split at h
   ·rename_i hall
    split at h
    ·rename_i m hm
     obtain ⟨vs, hv, hd⟩ := fillK_sound hR hf parts.toList _ m z.cells.toList hm (denL_vals _)
     refine ⟨_, .agg vs.toArray, forceS_iff.1 h, ⟨vs, rfl, hd⟩, fun w => ?_⟩
     obtain ⟨ps, h1, h2⟩ := mapM_places w fs.toList hall
     have h2' : (fun k => ps.toArray[k]?) = fieldPlaces P fs := by funext k; simpa using h2 k
     have e1 : (parts.map fun (i, x) => (i, a.eval x)).toList = parts.toList.map fun p => (p.1, a.eval p.2) := by simp
     simp only [Instr.build, zeroValue, typeInfo, underlying, Sem.run_bind, run_program, Result.andThen_ok, hi, hu, hz, Sem.run_pure, Array.mapM_eq_mapM_toList, Sem.run_map, h1, h2', e1]
     rw [show z.cells = z.cells.toList.toArray by simp, hv]
     rfl
    ·exact h.elim
   ·exact h.elim
  ·exact h.elim
 ·rename_i n e i hu hi
  split at h
  ·rename_i z ie hz hie
   split at h
   ·rename_i m hm
    obtain ⟨vs, hv, hd⟩ := fillK_sound hR hf parts.toList _ m z.cells.toList hm (denL_vals _)
    refine ⟨_, .agg vs.toArray, forceS_iff.1 h, ⟨vs, rfl, hd⟩, fun w => ?_⟩
    have e1 : (parts.map fun (i, x) => (i, a.eval x)).toList = parts.toList.map fun p => (p.1, a.eval p.2) := by simp
    have e2 := run_sizeOf P e w hie
    simp only [Instr.build, zeroValue, typeInfo, underlying, Sem.run_bind, run_program, Result.andThen_ok, hi, hu, hz, Sem.run_pure, e1, e2]
    rw [show z.cells = z.cells.toList.toArray by simp, hv]
    rfl
   ·exact h.elim
  ·exact h.elim
 ·exact h.elim

def qop (P : Program) (w0 : World) (G : Gs) (S : List Ow) (f : Fr) (o : Oper) (K : AV → Prop) : Prop :=
 match o.op with
 | .move x => (match f.ev x with | .p (.c c) => K (.p (.c c)) | .p (.agg l) => K (.p (.agg l)) | .tup l => K (.tup l))
 | .assign x => (match f.ev x with | .p (.c c) => K (.p (.c c)) | .p (.agg l) => K (.p (.agg l)) | .tup l => K (.tup l))
 | .pick c x y => (match f.ev c with
  | .p (.c (.v (.bool b))) => (match f.ev x with
   | .p (.c (.v (.bool p))) => (match f.ev y with
    | .p (.c (.v (.bool q))) => K (one (.bool (bif b then p else q)))
    | v => (match b with | true => K (one (.bool p)) | false => K v))
   | u => (match b with | true => K u | false => K (f.ev y)))
  | _ => False)
 | .load t x => loadK P w0 G S t (f.ev x) K
 | .nilCheck x => (match f.ev x with
  | .p (.c (.ref i off)) => K (.p (.c (.ref i off)))
  | .p (.c (.clo (.func fn) cap)) => K (.p (.c (.clo (.func fn) cap)))
  | .p (.c (.v (.pointer (some p)))) => K (one (.pointer (some p)))
  | _ => QRun P w0 G S f o K)
 | .binOp op _ x y _ => (match f.ev x with
  | .p (.c (.v (.int k a))) => (match f.ev y with
   | .p (.c (.v (.int k' b))) => (match op with
    | .shl => shiftK .shl k a b fun u => K (one u)
    | .shr => shiftK .shr k a b fun u => K (one u)
    | op => (match decide (k = k') with | true => binK op k a b fun u => K (one u) | false => False))
   | _ => QRun P w0 G S f o K)
  | _ => QRun P w0 G S f o K)
 | .unOp op _ x => (match op, f.ev x with
  | .not, .p (.c (.v (.bool a))) => K (one (.bool (!a)))
  | _, _ => QRun P w0 G S f o K)
 | .convert src dst x => (match f.ev x with
  | .p (.c (.v (.int _ n))) => (match P.underlying src with
   | some (.int _) => (match P.underlying dst with
    | some (.int k) => ∃ m, k.wrap n = m ∧ K (one (.int k m))
    | _ => QRun P w0 G S f o K)
   | _ => QRun P w0 G S f o K)
  | _ => QRun P w0 G S f o K)
 | .fieldAddr s x k => (match f.ev x with
  | .p (.c (.ref i off)) => (match fldOff P s k with | some n => K (.p (.c (.ref i (off + n)))) | none => False)
  | .p (.c (.v (.pointer (some ⟨b, off, none⟩)))) => (match fldOff P s k with | some n => K (one (.pointer (some ⟨b, off + n, none⟩))) | none => False)
  | _ => False)
 | .field t x k => (match f.ev x with | .p (.agg l) => fldK P t l k K | _ => False)
 | .extract x k => (match f.ev x with
  | .tup l => (match l[k]? with | some p => K (.p p) | none => False)
  | _ => False)
 | .build t parts => buildK P S f t parts K
 | .makeFunc (.func fn) first cap => (match first.toList with
  | [] => (match cap.toList with
   | [] => K (.p (.c (.clo (.func fn) [])))
   | [x] => (match f.ev x with | .p (.c c) => K (.p (.c (.clo (.func fn) [c]))) | _ => False)
   | _ => QRun P w0 G S f o K)
  | _ => QRun P w0 G S f o K)
 | .indexAddr t x ix => (match f.ev x with
  | .p (.c (.v (.slice (some ⟨b, off, none⟩) n _))) => (match f.ev ix with
   | .p (.c (.v (.int _ k))) => (match P.underlying t with
    | some (.slice e) => (0 ≤ k ∧ k < (n : Int)) ∧ K (one (.pointer (some ⟨b, off + k.toNat * tsz P e, none⟩)))
    | _ => False)
   | _ => False)
  | .p (.c (.row i)) => (match f.ev ix with
   | .p (.c (.v (.int _ k))) => (match P.underlying t with
    | some (.slice e) => (match S[i]? with
     | some (.row _ _ n _) => (0 ≤ k ∧ k < (n : Int)) ∧ K (.p (.c (.ref i (k.toNat * tsz P e))))
     | some (.view _ n xs) => (0 ≤ k ∧ k < (n : Int) ∧ 0 < xs.length) ∧ K (.p (.c (.vref i (k.toNat * tsz P e))))
     | _ => False)
    | _ => False)
   | _ => False)
  | .p (.c (.sl i off n _)) => (match f.ev ix with
   | .p (.c (.v (.int _ k))) => (match P.underlying t with
    | some (.slice e) => (0 ≤ k ∧ k < (n : Int)) ∧ K (.p (.c (.ref i (off + k.toNat * tsz P e))))
    | _ => False)
   | _ => False)
  | .p (.c (.ref i off)) => (match f.ev ix with
   | .p (.c (.v (.int _ k))) => (match P.underlying t with
    | some (.array n e) => (0 ≤ k ∧ k < (n : Int)) ∧ K (.p (.c (.ref i (off + k.toNat * tsz P e))))
    | _ => False)
   | _ => False)
  | _ => QRun P w0 G S f o K)
 | .index t x ix => (match f.ev x with
  | .p (.agg l) => (match f.ev ix with
   | .p (.c (.v (.int _ k))) => (match P.underlying t with
    | some (.array n e) => (0 ≤ k ∧ k < (n : Int)) ∧ getK P e l (k.toNat * tsz P e) K
    | _ => False)
   | _ => False)
  | _ => QRun P w0 G S f o K)
 | .call ⟨.builtin .len, args, tys⟩ => (match args.toList with
  | [x] => (match tys.toList with
   | [t] => (match P.underlying t with
    | some (.slice _) => (match f.ev x with
     | .p (.c (.v (.slice _ n _))) => K (one (.int .i64 n))
     | .p (.c (.sl _ _ n _)) => K (one (.int .i64 n))
     | .p (.c (.row i)) => (match S[i]? with | some (.row _ _ n _) => K (one (.int .i64 n)) | some (.view _ n _) => K (one (.int .i64 n)) | _ => False)
     | _ => False)
    | _ => QRun P w0 G S f o K)
   | _ => False)
  | _ => False)
 | _ => QRun P w0 G S f o K
end Go.Proofs.YtnhdcclpjildjaaGreat
namespace Go.Proofs.YtnhdcclpjildjaaGreat
open Go.RowKit
open Go.Maps (Keyed)

abbrev litK (k : Int) : Lit := .int .i64 k
section
variable (R : Value → Option (DataW Unit × List MemPlace)) (cd : Int → DataW Unit)
structure Ranging (b r : Nat) (M I : Obj) (n : Nat) (m : Int → Option Int) (left : Int → Bool) (cnt : Nat) : Prop where
 out : ∃ (D : DataW Unit) (lf : Lit → Bool), (∀ w : World, w.heap[b]? = some M → w.heap[r]? = some I → w.ranges Tryz.prog 3 R b r n D lf cnt) ∧
  (∀ k, (litK k).wf = true → Maps.has D (litK k) = (m k).isSome ∧ ∀ z, D.atKey (litK k) z = ((m k).map cd).getD z) ∧ ∀ k, (litK k).wf = true → lf (litK k) = left k
 map : ∀ w : World, w.heap[b]? = some M → IMap R cd w b n m
end
section
variable {R : Value → Option (DataW Unit × List MemPlace)} {mk : Int → Value} {cd : Int → DataW Unit} {good : Int → Prop}
variable {w0 : World} {G : Gs} {N : Nd} {o : Oper} {f : Fr} {S : List Ow} {K : Fr → List Ow → Prop} {n : Nat} {m : Int → Option Int}
end
theorem IMap.is_wf {R : Value → Option (DataW Unit × List MemPlace)} {cd : Int → DataW Unit} {w : World} {b n : Nat} {f f' : Int → Option Int} (h : IMap R cd w b n f) (hf : ∀ k, (litK k).wf = true → f k = f' k) : IMap R cd w b n f' := by
 obtain ⟨D, h1, h2⟩ := h
 exact ⟨D, h1, fun k hk => by rw [← hf k hk]; exact h2 k hk⟩
theorem Ranging.is {R : Value → Option (DataW Unit × List MemPlace)} {cd : Int → DataW Unit} {b r : Nat} {M I : Obj} {n : Nat} {m m' : Int → Option Int} {left : Int → Bool} {cnt : Nat} (h : Ranging R cd b r M I n m left cnt) (hm : ∀ k, (litK k).wf = true → m k = m' k) : Ranging R cd b r M I n m' left cnt := by
 obtain ⟨⟨D, lf, h1, h2, h3⟩, h4⟩ := h
 exact ⟨⟨D, lf, h1, fun k hk => by rw [← hm k hk]; exact h2 k hk, h3⟩, fun w hw => (h4 w hw).is_wf hm⟩
def filtF (m : Int → Option Int) (left : Int → Bool) (keep : Int → Bool) : Int → Option Int := fun k => if left k then m k else (m k).filter keep
structure FiltSt (b q n : Nat) (m : Int → Option Int) (keep : Int → Bool) where
 M : Obj
 I : Obj
 left : Int → Bool
 cnt : Nat
 h : Ranging i64R i64D b q M I n (filtF m left keep) left cnt
end Go.Proofs.YtnhdcclpjildjaaGreat
namespace Go.Proofs.YtnhdcclpjildjaaGreat
open Go.RowKit

theorem QRun.use {P : Program} {w0 : World} {G : Gs} {S : List Ow} {f : Fr} {o : Oper} {K : AV → Prop} (h : QRun P w0 G S f o K) {r : Env} {w1 : World} (hR : Rel w0 G S r w1) {a : Act} (hf : FDen r f a) :
  ∃ v u, K v ∧ v.den r u ∧ ∀ w : World, Below w1.heap.size w1 w → (execOp a.eval o).run P w = .ok (.value u) w := by
 obtain ⟨v, hK, hr⟩ := h.out
 obtain ⟨u, hd, hrun⟩ := hr r a hf
 exact ⟨v, u, hK, hd, fun w hw => hrun w (hR.below hw)⟩
section
variable {r : Env} {u : Value}
theorem den_v {x : Value} (h : AV.den r (one x) u) : u = x := by simpa only [AV.den, Pc.den, CV.den] using h
theorem den_one (r : Env) (x : Value) : AV.den r (one x) x := by simp only [AV.den, Pc.den, CV.den]
theorem den_ref {i off : Nat} (h : AV.den r (.p (.c (.ref i off))) u) : ∃ b, r.blk i = some b ∧ u = .pointer (some ⟨b, off, none⟩) := by simpa only [AV.den, Pc.den, CV.den] using h
theorem den_mk_ref {i off b : Nat} (h : r.blk i = some b) : AV.den r (.p (.c (.ref i off))) (.pointer (some ⟨b, off, none⟩)) := by simp only [AV.den, Pc.den, CV.den]; exact ⟨b, h, rfl⟩
theorem den_agg {l : List CV} (h : AV.den r (.p (.agg l)) u) : ∃ us : List Value, u = .agg us.toArray ∧ denL r l us := h
theorem den_clo {fn : Fn} {cap : List CV} (h : AV.den r (.p (.c (.clo fn cap))) u) : ∃ us : List Value, u = .func fn #[] us.toArray ∧ denL r cap us := by simpa only [AV.den, Pc.den, CV.den] using h
end
theorem pdenL_at {r : Env} : ∀ {l : List Pc} {us : List Value} {k : Nat} {c : Pc}, pdenL r l us → l[k]? = some c → ∃ u, us[k]? = some u ∧ c.den r u
 | [], us, k, c, hd, h => by simp at h
 | a :: l, us, 0, c, hd, h => by
  obtain ⟨u, l', hu, hc, hl⟩ := hd; subst hu
  simp at h; subst h; exact ⟨u, by simp, hc⟩
 | a :: l, us, k + 1, c, hd, h => by
  obtain ⟨u, l', hu, hc, hl⟩ := hd; subst hu
  simpa using pdenL_at hl (by simpa using h)
theorem tsz_sizeOf {P : Program} {e : TypeId} {i : TypeInfo} (h : P.info? e = some i) : tsz P e = i.size := by simp [tsz, h]
theorem run_indexAt_slice {P : Program} {t e : TypeId} (ht : P.underlying t = some (.slice e)) {i : TypeInfo} (hi : P.info? e = some i) {b off n c : Nat} {q : IntKind} {k : Int} (h0 : 0 ≤ k) (h1 : k < (n : Int)) (w : World) :
  (Instr.indexAt t (.slice (some ⟨b, off, none⟩) n c) (.int q k)).run P w = .ok (.pointer (some ⟨b, off + k.toNat * i.size, none⟩)) w := by
 simp [Instr.indexAt, asIntOf, underlying, ht, h0, h1, run_sizeOf P e w hi, addr_add]
theorem run_indexAt_array {P : Program} {t e : TypeId} {n : Nat} (ht : P.underlying t = some (.array n e)) {i : TypeInfo} (hi : P.info? e = some i) {b off : Nat} {q : IntKind} {k : Int} (h0 : 0 ≤ k) (h1 : k < (n : Int)) (w : World) :
  (Instr.indexAt t (.pointer (some ⟨b, off, none⟩)) (.int q k)).run P w = .ok (.pointer (some ⟨b, off + k.toNat * i.size, none⟩)) w := by
 simp [Instr.indexAt, asIntOf, Instr.sureAddr, underlying, ht, h0, h1, run_sizeOf P e w hi, addr_add]

def opTy (P : Program) : Op → Bool
 | .indexAddr t _ _ => (match P.underlying t with | some (.slice e) => (P.info? e).isSome | some (.array _ e) => (P.info? e).isSome | _ => true)
 | .index t _ _ => (match P.underlying t with | some (.array _ e) => (P.info? e).isSome | _ => true)
 | _ => true

set_option maxHeartbeats 1000000 in
theorem qop_sound {P : Program} {w0 : World} {G : Gs} {S : List Ow} {f : Fr} {o : Oper} {K : AV → Prop} (h : qop P w0 G S f o K) (hty : opTy P o.op = true) {r : Env} {w1 : World} (hR : Rel w0 G S r w1) {a : Act} (hf : FDen r f a) :
  ∃ v u, K v ∧ v.den r u ∧ ∀ w : World, Below w1.heap.size w1 w → (execOp a.eval o).run P w = .ok (.value u) w := by
 unfold qop at h
 split at h
 ·
  rename_i x hop
  have hx := hf.ev x
  refine ⟨f.ev x, a.eval x, ?_, hx, fun w _ => by simp [execOp, hop]⟩
  split at h <;> (rename_i he; rw [he]; exact h)
 ·rename_i x hop
  have hx := hf.ev x
  refine ⟨f.ev x, a.eval x, ?_, hx, fun w _ => by simp [execOp, hop]⟩
  split at h <;> (rename_i he; rw [he]; exact h)
 ·
  rename_i c x y hop
  have hc := hf.ev c
  have hx := hf.ev x
  have hy := hf.ev y
  split at h
  ·rename_i b eb
   rw [eb] at hc
   have e1 := den_v hc
   have hrun : ∀ w : World, (execOp a.eval o).run P w = .ok (.value (if b then a.eval x else a.eval y)) w := fun w => by simp [execOp, hop, e1, asBool]
   split at h
   ·rename_i p ep
    rw [ep] at hx
    have e2 := den_v hx
    split at h
    ·rename_i q eq
     rw [eq] at hy
     have e3 := den_v hy
     refine ⟨_, _, h, den_one r _, fun w _ => ?_⟩
     rw [hrun w, e2, e3]
     cases b <;> rfl
    ·cases b with
     | true => exact ⟨_, _, h, den_one r _, fun w _ => by rw [hrun w, e2]; rfl⟩
     | false => exact ⟨_, _, h, hy, fun w _ => by rw [hrun w]; rfl⟩
   ·cases b with
    | true => exact ⟨_, _, h, hx, fun w _ => by rw [hrun w]; rfl⟩
    | false => exact ⟨_, _, h, hy, fun w _ => by rw [hrun w]; rfl⟩
  ·exact h.elim
 ·
  rename_i t x hop
  obtain ⟨v, u, hK, hd, hrun⟩ := loadK_sound h hR (hf.ev x)
  exact ⟨v, u, hK, hd, fun w hw => by simp [execOp, hop, hrun w hw]⟩
 ·
  rename_i x hop
  have hx := hf.ev x
  split at h
  ·rename_i i off he
   rw [he] at hx
   refine ⟨_, _, h, hx, fun w _ => ?_⟩
   obtain ⟨b, hb, hu⟩ := den_ref hx
   simp [execOp, hop, hu]
  ·rename_i fn cap he
   rw [he] at hx
   refine ⟨_, _, h, hx, fun w _ => ?_⟩
   obtain ⟨us, hu, _⟩ := den_clo hx
   simp [execOp, hop, hu]
  ·rename_i p he
   rw [he] at hx
   refine ⟨_, _, h, hx, fun w _ => ?_⟩
   have hu := den_v hx
   simp [execOp, hop, hu]
  ·exact QRun.use h hR hf
 ·
  rename_i op t x y t' hop
  have hx := hf.ev x
  have hy := hf.ev y
  split at h
  ·rename_i k p ep
   rw [ep] at hx
   have e1 := den_v hx
   split at h
   ·rename_i k' q eq
    rw [eq] at hy
    have e2 := den_v hy
    have hg : ∀ w : World, (eqGuard op t x y (.int k p) (.int k' q)).run P w = .ok () w := fun w => by
     unfold eqGuard; cases op <;> simp
    split at h
    ·obtain ⟨u, hK, hrun⟩ := shiftK_sound (P := P) (t := t) (k' := k') h
     exact ⟨_, u, hK, den_one r u, fun w _ => by simp [execOp, hop, e1, e2, hg w, hrun w]⟩
    ·obtain ⟨u, hK, hrun⟩ := shiftK_sound (P := P) (t := t) (k' := k') h
     exact ⟨_, u, hK, den_one r u, fun w _ => by simp [execOp, hop, e1, e2, hg w, hrun w]⟩
    ·split at h
     ·rename_i hk
      have hk := of_decide_eq_true hk
      subst hk
      obtain ⟨u, hK, hrun⟩ := binK_sound (P := P) (t := t) h
      exact ⟨_, u, hK, den_one r u, fun w _ => by simp [execOp, hop, e1, e2, hg w, hrun w]⟩
     ·exact h.elim
   ·exact QRun.use h hR hf
  ·exact QRun.use h hR hf
 ·
  rename_i op t x hop
  have hx := hf.ev x
  split at h
  ·rename_i p ep
   rw [ep] at hx
   have e1 := den_v hx
   exact ⟨_, _, h, den_one r _, fun w _ => by simp [execOp, hop, e1, Op.unary]⟩
  ·exact QRun.use h hR hf
 ·
  rename_i src dst x hop
  have hx := hf.ev x
  split at h
  ·rename_i k n ep
   rw [ep] at hx
   have e1 := den_v hx
   split at h
   ·rename_i q0 hq0
    split at h
    ·rename_i q hq
     obtain ⟨m, hm, hK⟩ := h
     exact ⟨_, _, hK, den_one r _, fun w _ => by simp [execOp, hop, e1, convert, underlying, hq0, hq, Conv.intToInt, hm]⟩
    ·exact QRun.use h hR hf
   ·exact QRun.use h hR hf
  ·exact QRun.use h hR hf
 ·
  rename_i s x k hop
  have hx := hf.ev x
  split at h
  ·rename_i i off he
   rw [he] at hx
   obtain ⟨b, hb, hu⟩ := den_ref hx
   split at h
   ·rename_i n hn
    exact ⟨_, _, h, den_mk_ref hb, fun w _ => by simp [execOp, hop, hu, run_fieldAt hn]⟩
   ·exact h.elim
  ·rename_i b off he
   rw [he] at hx
   have hu := den_v hx
   split at h
   ·rename_i n hn
    exact ⟨_, _, h, den_one r _, fun w _ => by simp [execOp, hop, hu, run_fieldAt hn]⟩
   ·exact h.elim
  ·exact h.elim
 ·
  rename_i t x k hop
  have hx := hf.ev x
  split at h
  ·rename_i l he
   rw [he] at hx
   obtain ⟨us, hu, hl⟩ := den_agg hx
   unfold fldK at h
   split at h
   ·rename_i fs hs
    split at h
    ·rename_i fl hfl
     obtain ⟨v, u, hK, hd, hrun⟩ := run_part h hl
     exact ⟨v, u, hK, hd, fun w _ => by simp [execOp, hop, hu, Instr.field, underlying, hs, hfl, asAgg, hrun w]⟩
    ·exact h.elim
   ·exact h.elim
  ·exact h.elim
 ·
  rename_i x k hop
  have hx := hf.ev x
  split at h
  ·rename_i l he
   rw [he] at hx
   obtain ⟨us, hu, hl⟩ := hx
   split at h
   ·rename_i p hp
    obtain ⟨u, h1, h2⟩ := pdenL_at hl hp
    exact ⟨_, u, h, h2, fun w _ => by simp [execOp, hop, hu, Instr.extract, h1]⟩
   ·exact h.elim
  ·exact h.elim
 ·
  rename_i t parts hop
  obtain ⟨v, u, hK, hd, hrun⟩ := buildK_sound hR hf h
  exact ⟨v, u, hK, hd, fun w _ => by simp only [execOp, hop, Sem.run_bind, hrun w, Result.andThen_ok, Sem.run_pure]⟩
 ·
  rename_i fn first cap hop
  split at h
  ·rename_i hfirst
   have ef : first = #[] := Array.ext' hfirst
   split at h
   ·rename_i hcap
    have ec : cap = #[] := Array.ext' hcap
    exact ⟨_, .func (.func fn) #[] #[], h, by simp [AV.den, Pc.den, CV.den, denL], fun w _ => by simp [execOp, hop, Instr.makeFunc, ef, ec]⟩
   ·rename_i x hcap
    have ec : cap = #[x] := Array.ext' hcap
    have hx := hf.ev x
    split at h
    ·rename_i c he
     rw [he] at hx
     refine ⟨_, .func (.func fn) #[] #[a.eval x], h, ?_, fun w _ => by simp [execOp, hop, Instr.makeFunc, ef, ec]⟩
     simp only [AV.den, Pc.den, CV.den, denL]
     exact ⟨[a.eval x], rfl, _, _, rfl, hx, rfl⟩
    ·exact h.elim
   ·exact QRun.use h hR hf
  ·exact QRun.use h hR hf
 ·
  rename_i t x ix hop
  rw [hop] at hty
  have hx := hf.ev x
  have hi := hf.ev ix
  split at h
  ·rename_i b off n c he
   rw [he] at hx
   have hu := den_v hx
   split at h
   ·rename_i q k hk
    rw [hk] at hi
    have hu2 := den_v hi
    split at h
    ·rename_i e ht
     simp only [opTy, ht] at hty
     obtain ⟨i, hie⟩ := Option.isSome_iff_exists.1 hty
     obtain ⟨⟨h0, h1⟩, hK⟩ := h
     refine ⟨_, _, hK, den_one r _, fun w _ => ?_⟩
     simp only [execOp, hop, hu, hu2, Sem.run_bind, run_indexAt_slice ht hie h0 h1, Result.andThen_ok, Sem.run_pure, tsz_sizeOf hie]
    ·exact h.elim
   ·exact h.elim
  ·rename_i i he
   rw [he] at hx
   split at h
   ·rename_i q k hk
    rw [hk] at hi
    have hu2 := den_v hi
    split at h
    ·rename_i e ht
     simp only [opTy, ht] at hty
     obtain ⟨i', hie⟩ := Option.isSome_iff_exists.1 hty
     split at h
     ·rename_i e' size n xs hS
      obtain ⟨⟨h0, h1⟩, hK⟩ := h
      obtain ⟨v, hv1, hv2, hv3⟩ := hR.own i _ hS
      have hux : r.val i = some (a.eval x) := by simpa only [AV.den, Pc.den, CV.den] using hx
      rw [hux] at hv1; injection hv1 with hv1
      rcases hv3.2 with ⟨hn, hz⟩ | ⟨g, cap, cur, hv, _⟩
      ·omega
      ·rw [← hv1] at hv hv2
       have hb : r.blk i = some g := by rw [← hv2, hv]; rfl
       refine ⟨_, _, hK, den_mk_ref hb, fun w _ => ?_⟩
       simp only [execOp, hop, hv, hu2, Sem.run_bind, run_indexAt_slice ht hie h0 h1, Result.andThen_ok, Sem.run_pure, tsz_sizeOf hie, Nat.zero_add]
     ·rename_i n xs hS
      obtain ⟨⟨h0, h1, hpos⟩, hK⟩ := h
      obtain ⟨A, c, hv1, hv2, hv3, hv4, hv5⟩ := hR.own i _ hS
      have hux : r.val i = some (a.eval x) := by simpa only [AV.den, Pc.den, CV.den] using hx
      obtain ⟨b, off, hA, _⟩ := hv5 0 xs[0] (by simp [hpos])
      subst hA
      rw [hux] at hv1; injection hv1 with hv1
      refine ⟨_, .pointer (some ⟨b, off + k.toNat * i'.size, none⟩), hK, ?_, fun w _ => ?_⟩
      ·simp only [AV.den, Pc.den, CV.den]
       exact ⟨b, off, n, c, by rw [hux, hv1], by rw [tsz_sizeOf hie]⟩
      ·simp only [execOp, hop, hv1, hu2, Sem.run_bind, run_indexAt_slice ht hie h0 h1, Result.andThen_ok, Sem.run_pure]
     ·exact h.elim
    ·exact h.elim
   ·exact h.elim
  ·rename_i i off n c he
   rw [he] at hx
   have hux : ∃ b, r.blk i = some b ∧ a.eval x = .slice (some ⟨b, off, none⟩) n c := by simpa only [AV.den, Pc.den, CV.den] using hx
   obtain ⟨b, hb, hu⟩ := hux
   split at h
   ·rename_i q k hk
    rw [hk] at hi
    have hu2 := den_v hi
    split at h
    ·rename_i e ht
     simp only [opTy, ht] at hty
     obtain ⟨i', hie⟩ := Option.isSome_iff_exists.1 hty
     obtain ⟨⟨h0, h1⟩, hK⟩ := h
     refine ⟨_, _, hK, den_mk_ref hb, fun w _ => ?_⟩
     simp only [execOp, hop, hu, hu2, Sem.run_bind, run_indexAt_slice ht hie h0 h1, Result.andThen_ok, Sem.run_pure, tsz_sizeOf hie]
    ·exact h.elim
   ·exact h.elim
  ·rename_i i off he
   rw [he] at hx
   obtain ⟨b, hb, hu⟩ := den_ref hx
   split at h
   ·rename_i q k hk
    rw [hk] at hi
    have hu2 := den_v hi
    split at h
    ·rename_i n e ht
     simp only [opTy, ht] at hty
     obtain ⟨i', hie⟩ := Option.isSome_iff_exists.1 hty
     obtain ⟨⟨h0, h1⟩, hK⟩ := h
     refine ⟨_, _, hK, den_mk_ref hb, fun w _ => ?_⟩
     simp only [execOp, hop, hu, hu2, Sem.run_bind, run_indexAt_array ht hie h0 h1, Result.andThen_ok, Sem.run_pure, tsz_sizeOf hie]
    ·exact h.elim
   ·exact h.elim
  ·exact QRun.use h hR hf
 ·
  rename_i t x ix hop
  rw [hop] at hty
  have hx := hf.ev x
  have hi := hf.ev ix
  split at h
  ·rename_i l he
   rw [he] at hx
   obtain ⟨us, hu, hl⟩ := den_agg hx
   split at h
   ·rename_i q k hk
    rw [hk] at hi
    have hu2 := den_v hi
    split at h
    ·rename_i n e ht
     simp only [opTy, ht] at hty
     obtain ⟨i', hie⟩ := Option.isSome_iff_exists.1 hty
     obtain ⟨⟨h0, h1⟩, hK⟩ := h
     obtain ⟨v, u, hK', hd, hrun⟩ := run_part hK hl
     refine ⟨v, u, hK', hd, fun w _ => ?_⟩
     have e3 := hrun w
     rw [tsz_sizeOf hie] at e3
     simp [execOp, hop, hu, hu2, Instr.index, asIntOf, underlying, ht, h0, h1, run_sizeOf P e w hie, e3]
    ·exact h.elim
   ·exact h.elim
  ·exact QRun.use h hR hf
 ·
  rename_i args tys hop
  split at h
  ·rename_i x hargs
   have ea : args = #[x] := Array.ext' hargs
   split at h
   ·rename_i t htys
    have et : tys = #[t] := Array.ext' htys
    split at h
    ·rename_i e ht
     have hx := hf.ev x
     split at h
     ·rename_i A n c he
      rw [he] at hx
      have hu := den_v hx
      exact ⟨_, _, h, den_one r _, fun w _ => by simp [execOp, hop, ea, et, resolve, invoke, builtin, Builtin.len_, underlying, ht, hu, goInt]⟩
     ·rename_i i off n c he
      rw [he] at hx
      have hux : ∃ b, r.blk i = some b ∧ a.eval x = .slice (some ⟨b, off, none⟩) n c := by simpa only [AV.den, Pc.den, CV.den] using hx
      obtain ⟨b, hb, hu⟩ := hux
      exact ⟨_, _, h, den_one r _, fun w _ => by simp [execOp, hop, ea, et, resolve, invoke, builtin, Builtin.len_, underlying, ht, hu, goInt]⟩
     ·rename_i i he
      rw [he] at hx
      split at h
      ·rename_i e' size n xs hS
       obtain ⟨v, hv1, hv2, hv3⟩ := hR.own i _ hS
       have hux : r.val i = some (a.eval x) := by simpa only [AV.den, Pc.den, CV.den] using hx
       rw [hux] at hv1; injection hv1 with hv1
       obtain ⟨A, c, hv⟩ := row_slice hv3
       rw [← hv1] at hv
       exact ⟨_, _, h, den_one r _, fun w _ => by simp [execOp, hop, ea, et, resolve, invoke, builtin, Builtin.len_, underlying, ht, hv, goInt]⟩
      ·rename_i n xs hS
       obtain ⟨A, c, hv1, _⟩ := hR.own i _ hS
       have hux : r.val i = some (a.eval x) := by simpa only [AV.den, Pc.den, CV.den] using hx
       rw [hux] at hv1; injection hv1 with hv1
       exact ⟨_, _, h, den_one r _, fun w _ => by simp [execOp, hop, ea, et, resolve, invoke, builtin, Builtin.len_, underlying, ht, hv1, goInt]⟩
      ·exact h.elim
     ·exact h.elim
    ·exact QRun.use h hR hf
   ·exact h.elim
  ·exact h.elim
 ·exact QRun.use h hR hf
end Go.Proofs.YtnhdcclpjildjaaGreat
namespace Go.Proofs.YtnhdcclpjildjaaGreat
open Go.RowKit
def fld (n : String) (t : TypeId) (k b : Nat) : Field := { name := n, type := t, offset := k, embedded := false, tag := "", pkgPath := "", byteOffset := b }
end Go.Proofs.YtnhdcclpjildjaaGreat
namespace Go.Proofs.YtnhdcclpjildjaaGreat
open Go.RowKit
attribute [local irreducible] wpStill wpQuiet

end Go.Proofs.YtnhdcclpjildjaaGreat
namespace Go.Proofs.YtnhdcclpjildjaaGreat
open Go.RowKit
attribute [local irreducible] wpStill wpQuiet

section
variable {R : Value → Option (DataW Unit × List MemPlace)} {cd : Int → DataW Unit} {b n : Nat} {f : Int → Option Int} (w : World)
end
end Go.Proofs.YtnhdcclpjildjaaGreat
namespace Go.Proofs.YtnhdcclpjildjaaGreat
open Go.RowKit
attribute [local irreducible] wpStill wpQuiet

section
variable (A1 A2 A3 D1 D2 D3 : Option Addr) (c1 c2 c3 d1 d2 d3 : Nat) (x y : Blk) (w : World)

end
end Go.Proofs.YtnhdcclpjildjaaGreat
namespace Go.Proofs.YtnhdcclpjildjaaGreat
open Go.RowKit

def fenceR : Option Nat → Fence
 | none => Fence.wide
 | some l => Fence.wide.inRound l
theorem fenceR_fn (ro : Option Nat) (f : FuncId) : (fenceR ro).fn f := by cases ro <;> trivial
theorem fenceR_depth (ro : Option Nat) : (fenceR ro).depth = none := by cases ro <;> rfl
theorem calls_fence {P : Program} {f : FuncId} {args : Array Value} {w : World} {R : Ending → World → Prop} (ro : Option Nat) (n : Nat) (h : Calls P f args w R) : CallsIn (fenceR ro) n P f args w R := by
 cases ro with
 | none => exact callsIn_wide.2 h
 | some l => exact CallsIn.inRound l (callsIn_wide.2 h)
def OpRes (P : Program) (o : Oper) (a : Act) (next : Act → World → Prop) : Result Next → Prop
 | .ok (.value v) w' => next (a.put o.dst v) w'
 | .ok .skip w' => next (a.put o.dst undef) w'
 | .ok (.enter f args) w' => Calls P f args w' fun e w'' => ∃ u, e = .returned u ∧ next (a.put o.dst u) w''
 | _ => False
def Oper.se (P : Program) (o : Oper) (a : Act) (w : World) (next : Act → World → Prop) : Prop := OpRes P o a next ((execOp a.eval o).run P w)
def seL (P : Program) (ops : Array Oper) (Q : Act → World → Prop) : List Oper → Act → World → Prop
 | [], a, w => Q a w
 | o :: rest, a, w => if Region.wanted o (yielded ops a.tmps) then Oper.se P o a w (seL P ops Q rest) else seL P ops Q rest (a.put o.dst undef) w
theorem se_wp {P : Program} {o : Oper} {a : Act} {w : World} {next next' : Act → World → Prop} {Q : Exit → Act → World → Prop} (h : Oper.se P o a w next) (hn : ∀ a w, next a w → next' a w) : o.wp P a w next' Q := by
 unfold Oper.se at h
 unfold Oper.wp
 generalize (execOp a.eval o).run P w = r at h ⊢
 cases r with
 | halt x w' => exact h.elim
 | ok x w' =>
  cases x <;> first | exact (h : False).elim | exact hn _ _ h | skip
  exact Calls.mono h fun e w'' ⟨u, he, hk⟩ => by subst he; exact hn _ _ hk
theorem se_wpIn {P : Program} {o : Oper} {a : Act} {w : World} {next next' : Act → World → Prop} {Q : Exit → Act → World → Prop} (ro : Option Nat) (n : Nat) (h : Oper.se P o a w next) (hn : ∀ a w, next a w → next' a w) : o.wpIn (fenceR ro) n P a w next' Q := by
 refine ⟨fun f _ => fenceR_fn ro f, ?_⟩
 have hdef : ∀ c, o.op ≠ .defer c := fun c hc => by
  unfold Oper.se at h
  simp only [execOp, hc, Sem.run_bind] at h
  cases hr : (resolve a.eval c o.type).run P w with
  | halt x w' => rw [hr] at h; exact h
  | ok x w' => rw [hr] at h; exact h
 rw [Oper.semAt_eq _ _ _ hdef]
 unfold Oper.se at h
 generalize (execOp a.eval o).run P w = r at h ⊢
 cases r with
 | halt x w' => exact h.elim
 | ok x w' =>
  cases x <;> first | exact (h : False).elim | exact hn _ _ h | skip
  refine ⟨fun hd => by rw [fenceR_depth] at hd; simp at hd, ?_⟩
  exact (calls_fence ro (n - 1) h).mono fun e w'' ⟨u, he, hk⟩ => by subst he; exact hn _ _ hk
theorem seL_wp {P : Program} {ops : Array Oper} {Q : Exit → Act → World → Prop} : ∀ {l : List Oper} {a : Act} {w : World}, seL P ops (Q .normal) l a w → wpList P ops Q l a w
 | [], a, w, h => h
 | o :: l, a, w, h => by
  unfold seL at h
  unfold wpList
  split at h
  ·rename_i hw; rw [if_pos hw]; exact .inl (se_wp h fun a w h => seL_wp h)
  ·rename_i hw; rw [if_neg hw]; exact seL_wp h
theorem seL_wpIn {P : Program} {ops : Array Oper} {Q : Exit → Act → World → Prop} (ro : Option Nat) (n : Nat) : ∀ {l : List Oper} {a : Act} {w : World}, seL P ops (Q .normal) l a w → wpListIn (fenceR ro) n P ops Q l a w
 | [], a, w, h => h
 | o :: l, a, w, h => by
  unfold seL at h
  unfold wpListIn
  split at h
  ·rename_i hw; rw [if_pos hw]; exact se_wpIn ro n h fun a w h => seL_wpIn ro n h
  ·rename_i hw; rw [if_neg hw]; exact ⟨fun f _ => fenceR_fn ro f, seL_wpIn ro n h⟩
theorem wp_of_value {P : Program} {o : Oper} {a : Act} {w w' : World} {u : Value} {next : Act → World → Prop} (hrun : (execOp a.eval o).run P w = .ok (.value u) w') (h : next (a.put o.dst u) w') : Oper.se P o a w next := by
 unfold Oper.se; rw [hrun]; exact h
theorem wp_of_skip {P : Program} {o : Oper} {a : Act} {w w' : World} {next : Act → World → Prop} (hrun : (execOp a.eval o).run P w = .ok .skip w') (h : next (a.put o.dst undef) w') : Oper.se P o a w next := by
 unfold Oper.se; rw [hrun]; exact h
theorem wp_of_enter {P : Program} {o : Oper} {a : Act} {w w' : World} {fn : FuncId} {args : Array Value} {next : Act → World → Prop} (hrun : (execOp a.eval o).run P w = .ok (.enter fn args) w')
  (h : Calls P fn args w' fun e w'' => ∃ u, e = .returned u ∧ next (a.put o.dst u) w'') : Oper.se P o a w next := by
 unfold Oper.se; rw [hrun]; exact h

def Fr.putK (f : Fr) (dst : Option Tmp) (x : AV) (K : Fr → Prop) : Prop := match dst with | some d => K ((d, x) :: f) | none => K f
theorem putK_iff {f : Fr} {dst : Option Tmp} {x : AV} {K : Fr → Prop} : Fr.putK f dst x K ↔ K (f.put dst x) := by unfold Fr.putK Fr.put; split <;> rfl
def lenK {α : Type} : List α → (Nat → Prop) → Prop
 | [], K => K 0
 | _ :: l, K => lenK l fun n => K (n + 1)
theorem lenK_iff {α : Type} : ∀ {l : List α} {K : Nat → Prop}, lenK l K ↔ K l.length
 | [], _ => Iff.rfl
 | _ :: l, _K => lenK_iff (l := l)
def forceAV (x : AV) (K : AV → Prop) : Prop := match x with
 | .p (.c c) => K (.p (.c c))
 | .p (.agg l) => K (.p (.agg l))
 | .tup l => K (.tup l)
theorem forceAV_iff {x : AV} {K : AV → Prop} : forceAV x K ↔ K x := by unfold forceAV; split <;> rfl
def evL (f : Fr) : List Operand → (List AV → Prop) → Prop
 | [], K => K []
 | x :: l, K => forceAV (f.ev x) fun v => evL f l fun vs => K (v :: vs)
theorem evL_iff {f : Fr} : ∀ {l : List Operand} {K : List AV → Prop}, evL f l K ↔ K (l.map f.ev)
 | [], _ => Iff.rfl
 | x :: l, K => by unfold evL; rw [forceAV_iff, evL_iff]; rfl
def avdenL (r : Env) : List AV → List Value → Prop
 | [], us => us = []
 | c :: cs, us => ∃ u l, us = u :: l ∧ c.den r u ∧ avdenL r cs l
theorem avdenL_ev {r : Env} {f : Fr} {a : Act} (h : FDen r f a) : ∀ l : List Operand, avdenL r (l.map f.ev) (l.map a.eval)
 | [] => rfl
 | x :: l => ⟨_, _, rfl, h.ev x, avdenL_ev h l⟩
theorem avdenL_append {r : Env} : ∀ {l m : List AV} {us vs : List Value}, avdenL r l us → avdenL r m vs → avdenL r (l ++ m) (us ++ vs)
 | [], m, us, vs, h, k => by subst h; exact k
 | c :: l, m, us, vs, h, k => by obtain ⟨u, l', rfl, h1, h2⟩ := h; exact ⟨u, _, rfl, h1, avdenL_append h2 k⟩
theorem avdenL_cap {r : Env} : ∀ {l : List CV} {us : List Value}, denL r l us → avdenL r (l.map fun c => .p (.c c)) us
 | [], us, h => by simp only [denL] at h; exact h
 | c :: l, us, h => by simp only [denL] at h; obtain ⟨u, l', rfl, h1, h2⟩ := h; exact ⟨u, _, rfl, h1, avdenL_cap h2⟩

def fnOk (P : Program) (fid : FuncId) : Bool := match P.funcs[fid]? with | some fn => !(fn.name == "runtime.NumGoroutine") && fn.body.isSome | none => false
theorem run_callFunc {P : Program} {fid : FuncId} (h : fnOk P fid = true) (args : Array Value) (w : World) : (callFunc fid args).run P w = .ok (.enter fid args) w := by
 unfold fnOk at h
 split at h
 ·rename_i fn hf
  simp only [Bool.and_eq_true, Bool.not_eq_true'] at h
  have h1 : ¬ fn.name = "runtime.NumGoroutine" := by simpa using h.1
  have h2 : ¬ fn.body = none := fun e => by rw [e] at h; simp at h
  simp [callFunc, hf, h1, h2]
 ·cases h

section
variable (P : Program) (w0 : World) (G : Gs) (N : Nd)
structure CallS (fid : FuncId) (args : List AV) (S : List Ow) (K : AV → List Ow → Prop) : Prop where
 ok : fnOk P fid = true
 out : ∀ r w us, Rel w0 G S r w → avdenL r args us →
  Calls P fid us.toArray w fun e w' => ∃ v u S' r', e = .returned u ∧ v.den r' u ∧ Rel w0 G S' r' w' ∧ r.le r' ∧ K v S'
structure OpS (o : Oper) (f : Fr) (S : List Ow) (K : Fr → List Ow → Prop) : Prop where
 out : ∀ r a w, Rel w0 G S r w → FDen r f a → a.tmps.size = N.n → a.defers = N.ds → ∀ (next : Act → World → Prop) (_Q : Exit → Act → World → Prop),
  (∀ f' S' a' w', K f' S' → Good w0 G N f' S' a' w' → next a' w') → Oper.se P o a w next

def allocK (o : Oper) (f : Fr) (S : List Ow) (t : TypeId) (K : Fr → List Ow → Prop) : Prop :=
 match P.info? t with
 | some i => (match i.zero with
  | some z => forceS z.cells.toList.length (z.cells.toList.map CV.v) fun l => lenK S fun n => forceL (S ++ [.cells t l]) fun S' => f.putK o.dst (.p (.c (.ref n 0))) fun f' => K f' S'
  | none => False)
 | none => False
def boxK (o : Oper) (f : Fr) (S : List Ow) (t : TypeId) (x : AV) (K : Fr → List Ow → Prop) : Prop :=
 match x.okCells S with
 | some l => lenK S fun n => forceL (S ++ [.cells t l]) fun S' => f.putK o.dst (.p (.c (.ref n 0))) fun f' => K f' S'
 | none => False
def oneS (S : List Ow) : CV → Bool
 | .row i => (match S[i]? with | some (.row ..) => true | some (.view ..) => true | _ => false)
 | c => c.one
def onesL (S : List Ow) : List CV → Bool
 | [] => true
 | c :: l => match oneS S c with | true => onesL S l | false => false
def valsOf : List CV → Option (List Value)
 | [] => some []
 | .v x :: l => (match valsOf l with | some us => some (x :: us) | none => none)
 | _ => none
def storeK (o : Oper) (f : Fr) (S : List Ow) (t : TypeId) (x y : AV) (K : Fr → List Ow → Prop) : Prop :=
 match x with
 | .p (.c (.ref i off)) => (match y.okCells S with
  | some cs => (match P.info? t with
   | some inf => (match Nat.beq cs.length inf.size with
    | true => (match onesL S cs with
     | true => (match S[i]? with
      | some (.cells t' l) => (match Nat.ble (off + cs.length) l.length with
       | true => forceS l.length (setAll l off cs) fun l' => forceL (S.set i (.cells t' l')) fun S' => f.putK o.dst (.p (.c .any)) fun f' => K f' S'
       | false => False)
      | some (.row e size n xs) => (match valsOf cs with
       | some us => off + us.length ≤ xs.length ∧ forceL (S.set i (.row e size n (setAll xs off us))) fun S' => f.putK o.dst (.p (.c .any)) fun f' => K f' S'
       | none => False)
      | _ => False)
     | false => False)
    | false => False)
   | none => False)
  | none => False)
 | _ => False
def bsliceK (o : Oper) (f : Fr) (S : List Ow) (t : TypeId) (n : Nat) (parts : Array (Nat × Operand)) (K : Fr → List Ow → Prop) : Prop :=
 match P.underlying t with
 | some (.slice e) => (match P.info? e with
  | some i => (match i.zero with
   | some z => (match Nat.beq z.cells.size i.size with
    | true => (match Nat.ble (n * i.size) 16777216 with
     | true => (match fillK P S f (fun k => some (k * i.size, i.size)) parts.toList (List.replicate (n * i.size) .any) with
      | some l => forceL l fun l => lenK S fun k => forceL (S ++ [.cells e l]) fun S' => f.putK o.dst (.p (.c (.sl k 0 n n))) fun f' => K f' S'
      | none => False)
     | false => False)
    | false => False)
   | none => False)
  | none => False)
 | _ => False
def callK (o : Oper) (f : Fr) (S : List Ow) (fn : AV) (args : List Operand) (K : Fr → List Ow → Prop) : Prop :=
 match fn with
 | .p (.c (.clo (.func fid) cap)) => evL f args fun vs => CallS P w0 G fid (vs ++ cap.map fun c => .p (.c c)) S fun v S' => f.putK o.dst v fun f' => K f' S'
 | .p (.c (.v (.func (.func fid) first cap))) => (match first.toList with
  | [] => evL f args fun vs => CallS P w0 G fid (vs ++ cap.toList.map fun c => AV.of c) S fun v S' => f.putK o.dst v fun f' => K f' S'
  | _ => False)
 | _ => False
def opK (o : Oper) (f : Fr) (S : List Ow) (K : Fr → List Ow → Prop) : Prop :=
 match dstOk N.n o.dst with
 | false => False
 | true => (match o.op with
  | .alloc t => allocK P o f S t K
  | .box t x => boxK o f S t (f.ev x) K
  | .store t x y => storeK P o f S t (f.ev x) (f.ev y) K
  | .buildSlice t n parts => bsliceK P o f S t n parts K
  | .call ⟨.value fn, args, _⟩ => callK P w0 G o f S (f.ev fn) args.toList K
  | .call ⟨.builtin .len, _, _⟩ => (match opTy P o.op with | true => qop P w0 G S f o fun v => (f.putK o.dst v fun f' => K f' S) | false => False)
  | .move _ | .assign _ | .pick _ _ _ | .load _ _ | .nilCheck _ | .binOp _ _ _ _ _ | .unOp _ _ _ | .convert _ _ _ | .fieldAddr _ _ _ | .field _ _ _ | .extract _ _ | .build _ _ | .makeFunc _ _ _ | .indexAddr _ _ _ | .index _ _ _ | .lookup _ _ _ _ =>
   (match opTy P o.op with | true => qop P w0 G S f o fun v => (f.putK o.dst v fun f' => K f' S) | false => False)
  | _ => OpS P w0 G N o f S K)
end

theorem setCell_only {w : World} {b off : Nat} (u : Value) : w.grownBy (w.setCell ⟨b, off, none⟩ u) (some b) := only_setCell (World.grownBy.refl w _) (.inl rfl) u
theorem setCell_block {w : World} {b off : Nat} {cs : List Value} {t : TypeId} (h : w.heap[b]? = some (.cells cs.toArray t (0, 0))) (u : Value) : (w.setCell ⟨b, off, none⟩ u).heap[b]? = some (.cells (cs.set off u).toArray t (0, 0)) := by
 simp [World.setCell, Array.getElem?_modify, h]
theorem run_storeCells {P : Program} : ∀ (us : List Value) {w : World} {b off i : Nat} {cs : List Value} {t : TypeId}, w.heap[b]? = some (.cells cs.toArray t (0, 0)) → (∀ u ∈ us, (∀ x, u ≠ .agg x) ∧ (∀ x, u ≠ .tuple x)) → off + i + us.length ≤ cs.length →
  ∃ w', (storeCells ⟨b, off, none⟩ us i).run P w = .ok () w' ∧ w.grownBy w' (some b) ∧ w'.heap[b]? = some (.cells (setAll cs (off + i) us).toArray t (0, 0))
 | [], w, b, off, i, cs, t, h, _, _ => ⟨w, by simp [storeCells], World.grownBy.refl _ _, h⟩
 | u :: us, w, b, off, i, cs, t, h, hu, hl => by
  obtain ⟨h1, h2⟩ := hu u (List.mem_cons_self ..)
  have hc : w.cell? ⟨b, off + i, none⟩ ≠ none := by
   simp [World.cell?, h]; simp at hl; omega
  have hf : w.frozen? ⟨b, off + i, none⟩ = false := by simp [World.frozen?, h]
  have hset := setCell_block (off := off + i) h u
  obtain ⟨w', hr, hg, hb⟩ := run_storeCells (P := P) us (i := i + 1) (off := off) hset (fun v hv => hu v (List.mem_cons_of_mem _ hv)) (by simp at hl ⊢; omega)
  refine ⟨w', ?_, (setCell_only u).trans hg, by simpa [setAll, Nat.add_assoc] using hb⟩
  unfold storeCells
  simp only [Sem.run_bind, addr_add]
  have : (store ⟨b, off + i, none⟩ u).run P w = .ok () (w.setCell ⟨b, off + i, none⟩ u) := by
   obtain ⟨x, hx⟩ := Option.ne_none_iff_exists'.1 hc
   cases u <;> first | (exact absurd rfl (h1 _)) | (exact absurd rfl (h2 _)) | simp [store, Sem.run, hx, hf]
  rw [this]
  exact hr
theorem onesL_one {w0 : World} {G : Gs} {S : List Ow} {r : Env} {w : World} (hR : Rel w0 G S r w) : ∀ {cs : List CV} {us : List Value}, onesL S cs = true → denL r cs us → ∀ u ∈ us, (∀ x, u ≠ .agg x) ∧ (∀ x, u ≠ .tuple x)
 | [], us, _, hd, u, hu => by simp only [denL] at hd; subst hd; cases hu
 | c :: cs, us, h, hd, u, hu => by
  simp only [denL] at hd; obtain ⟨v, l, rfl, hc, hl⟩ := hd
  simp only [onesL] at h
  split at h
  ·rename_i h1
   rcases List.mem_cons.1 hu with rfl | hu
   ·unfold oneS at h1
    split at h1
    ·split at h1
     ·rename_i i _ e size n xs hS
      simp only [CV.den] at hc
      obtain ⟨v, hv, _, ho⟩ := hR.own _ _ hS
      rw [hc] at hv; injection hv with hv; subst hv
      obtain ⟨A, c, hs⟩ := row_slice ho
      subst hs
      exact ⟨nofun, nofun⟩
     ·rename_i i _ φ n xs hS
      simp only [CV.den] at hc
      obtain ⟨A, c, hv, _⟩ := hR.own _ _ hS
      rw [hc] at hv; injection hv with hv; subst hv
      exact ⟨nofun, nofun⟩
     ·cases h1
    ·exact one_not_agg h1 hc
   ·exact onesL_one hR h hl u hu
  ·cases h
theorem valsOf_spec {r : Env} : ∀ {cs : List CV} {us vs : List Value}, valsOf cs = some us → denL r cs vs → vs = us
 | [], us, vs, h, hd => by injection h with h; subst h; simpa only [denL] using hd
 | c :: cs, us, vs, h, hd => by
  simp only [denL] at hd; obtain ⟨v, l, rfl, hc, hl⟩ := hd
  cases c <;> simp only [valsOf] at h <;> try cases h
  rename_i x
  split at h
  ·rename_i us' hus
   injection h with h; subst h
   simp only [CV.den] at hc; subst hc
   rw [valsOf_spec hus hl]
  ·cases h
theorem setAll_take {α : Type} : ∀ (us l : List α) (off : Nat), off + us.length ≤ l.length → ∀ m, l.length ≤ m → ∀ l' : List α, setAll (l ++ l') off us = setAll l off us ++ l'
 | [], l, off, _, m, _, l' => rfl
 | u :: us, l, off, h, m, hm, l' => by
  simp only [setAll]
  rw [List.set_append_left _ _ (by simp at h; omega)]
  exact setAll_take us (l.set off u) (off + 1) (by simp at h ⊢; omega) m (by simpa using hm) l'
end Go.Proofs.YtnhdcclpjildjaaGreat
namespace Go.Proofs.YtnhdcclpjildjaaGreat

theorem ops_cut : ∀ {l : List BOp} {k : Nat} {o : BOp}, l[k]? = some o → ((l.flatMap opC).drop (k * 5)).take 5 = opC o
 | [], k, o, h => by simp at h
 | x :: l, 0, o, h => by simp at h; subst h; simp [List.flatMap_cons, opC]
 | x :: l, k + 1, o, h => by
  rw [List.flatMap_cons, show (k + 1) * 5 = (opC x).length + k * 5 by simp [opC]; omega, ← List.drop_drop, List.drop_left]
  exact ops_cut (by simpa using h)
theorem next_formed {s s2 : Ck} {o : BOp} {x y : Bool} (h : ckNext s o x y = some s2) : formedB o = true := by
 unfold ckNext at h
 by_cases hf : (formedB o && placedB s o x y) = true
 ·simp only [Bool.and_eq_true] at hf; exact hf.1
 ·rw [if_neg hf] at h; cases h
theorem run_formed : ∀ {l : List BOp} {s s' : Ck}, ckRun s l = some s' → ∀ o ∈ l, formedB o = true
 | [], _, _, _, o, ho => by cases ho
 | p :: l, s, s', h, o, ho => by
  unfold ckRun at h
  split at h
  ·rename_i s2 h2
   rcases List.mem_cons.1 ho with rfl | ho
   ·exact next_formed h2
   ·exact run_formed h o ho
  ·cases h
theorem valid_formed {b : Blk} (h : validB b = true) : ∀ o ∈ b.ops, formedB o = true := by
 unfold validB at h
 simp only [Bool.and_eq_true] at h
 have h2 := h.2
 split at h2
 ·rename_i s hs; exact run_formed hs
 ·cases h2
def deadB (o : BOp) (m : Nat) : Bool := pureB o && !(m.testBit o.d.toNat)
structure DeadS where
 live : Nat
 out : List BOp
def deadStep (s : DeadS) (o : BOp) : DeadS := if deadB o s.live then s else ⟨beforeM o s.live, s.out ++ [o]⟩
def deadRun (l : List BOp) : DeadS := l.foldl deadStep ⟨0, []⟩
def deadAll (b : Blk) : List BOp := if validB b then (deadRun b.ops.reverse).out.reverse else b.ops
end Go.Proofs.YtnhdcclpjildjaaGreat
namespace Go.Proofs.YtnhdcclpjildjaaGreat
open Go.RowKit

structure LiveS where
 live : Nat
 row : List Nat
end Go.Proofs.YtnhdcclpjildjaaGreat
namespace Go.Proofs.YtnhdcclpjildjaaGreat
open Go.RowKit

def ckL : Ck → List BOp → Option Ck
 | s, [] => some s
 | s, o :: l => match ckNext s o false false with | some s' => ckL s' l | none => none
theorem ckL_append : ∀ (l m : List BOp) (s : Ck), ckL s (l ++ m) = (ckL s l).bind fun s' => ckL s' m
 | [], m, s => rfl
 | o :: l, m, s => by
  simp only [List.cons_append, ckL]
  split
  ·rename_i s' _; exact ckL_append l m s'
  ·rfl
def bodyC (c : Int) : Bool := decide ((1 ≤ c ∧ c ≤ 19) ∨ c = 21)
structure BodyOk (l : List BOp) (W : Nat) (ch : Bool) : Prop where
 run : ∀ m, ckL ⟨m, 0, false⟩ l = some ⟨m, W, ch⟩
 all : ∀ o ∈ l, o.ok ∧ bodyC o.code = true
theorem BodyOk.nil : BodyOk [] 0 false := ⟨fun _ => rfl, nofun⟩
def nextW (W : Nat) (o : BOp) : Nat := if 20 ≤ writes o then W ||| 2 ^ (writes o).toNat else W
def nextCh (ch : Bool) (o : BOp) : Bool := ch || (stores o.code || decide (0 ≤ writes o ∧ writes o < 20))
def srcI (W : Nat) (v : Int) : Prop := 0 ≤ v ∧ v < 28 ∧ v ≠ 19 ∧ (v < 20 ∨ W.testBit v.toNat = true)
theorem BodyOk.snoc {l : List BOp} {W : Nat} {ch : Bool} {o : BOp} (h : BodyOk l W ch) (ho : o.ok) (hc : bodyC o.code = true) (hf : formedB o = true) (hlv : leaves o.code = true → ch = false) (hr : ∀ v ∈ reads o, srcI W v) : BodyOk (l ++ [o]) (nextW W o) (nextCh ch o) := by
 refine ⟨fun m => ?_, fun p hp => ?_⟩
 ·rw [ckL_append, h.run m]
  show (match ckNext ⟨m, W, ch⟩ o false false with | some s' => ckL s' [] | none => none) = _
  have hc' : (1 ≤ o.code ∧ o.code ≤ 19) ∨ o.code = 21 := by simpa [bodyC] using hc
  have hpl : placedB ⟨m, W, ch⟩ o false false = true := by
   unfold placedB
   have h1 : endsB o.code = false := by unfold endsB; rw [decide_eq_false_iff_not]; omega
   have h2 : (o.code == 23) = false := by rw [beq_eq_false_iff_ne]; omega
   rw [h1, h2]
   cases hl : leaves o.code
   ·rfl
   ·rw [hlv hl]; rfl
  have hrd : (reads o).all (readB ⟨m, W, ch⟩) = true := by
   rw [List.all_eq_true]
   intro v hv
   unfold readB
   rcases (hr v hv).2.2.2 with h1 | h1
   ·simp [h1]
   ·simp [h1]
  unfold ckNext
  rw [hf, hpl, hrd]
  have h20 : (o.code == 20) = false := by rw [beq_eq_false_iff_ne]; omega
  rw [h20]
  rfl
 ·rcases List.mem_append.1 hp with hp | hp
  ·exact h.all p hp
  ·simp at hp; subst hp; exact ⟨ho, hc⟩
theorem mid_small {x : Int} (h : -1000 ≤ x ∧ x ≤ 1000) : mid x := by unfold mid; omega
theorem BodyOk.is {l : List BOp} {W W' : Nat} {ch ch' : Bool} (h : BodyOk l W ch) (hW : W = W') (hc : ch = ch') : BodyOk l W' ch' := by subst hW; subst hc; exact h
theorem BodyOk.const {l : List BOp} {W : Nat} {ch : Bool} (h : BodyOk l W ch) {d n : Int} (hd : 0 ≤ d ∧ d < 28 ∧ d ≠ 19) (hn : word n) : BodyOk (l ++ [⟨1, d, 0, 0, n⟩]) (if 20 ≤ d then W ||| 2 ^ d.toNat else W) (ch || decide (d < 20)) := by
 refine (h.snoc (o := ⟨1, d, 0, 0, n⟩) ⟨mid_small (by dsimp only; omega), mid_small (by dsimp only; omega), mid0, mid0, hn⟩ rfl ?_ (fun h => by cases h) (fun v hv => by cases hv)).is rfl ?_
 ·show (isOp 1 && fieldB true d && fieldB false 0 && fieldB false 0 && (true || _)) = true
  have : fieldB true d = true := by unfold fieldB; rw [if_pos rfl, decide_eq_true_eq]; omega
  rw [this]; rfl
 ·unfold nextCh
  show (ch || (false || decide (0 ≤ d ∧ d < 20))) = _
  rw [Bool.false_or]; congr 1; rw [decide_eq_decide]; omega
theorem src_field {W : Nat} {v : Int} (h : srcI W v) : fieldB true v = true := by unfold fieldB; rw [if_pos rfl, decide_eq_true_eq]; exact ⟨h.1, h.2.1, h.2.2.1⟩
theorem BodyOk.move {l : List BOp} {W : Nat} {ch : Bool} (h : BodyOk l W ch) {d a : Int} (hd : 0 ≤ d ∧ d < 28 ∧ d ≠ 19) (ha : srcI W a) : BodyOk (l ++ [⟨2, d, a, 0, 0⟩]) (if 20 ≤ d then W ||| 2 ^ d.toNat else W) (ch || decide (d < 20)) := by
 have ha' := ha
 obtain ⟨a1, a2, a3, a4⟩ := ha
 refine (h.snoc (o := ⟨2, d, a, 0, 0⟩) ⟨mid_small (by dsimp only; omega), mid_small (by dsimp only; omega), mid_small (by dsimp only; omega), mid0, word0⟩ rfl ?_ (fun h => by cases h) (fun v hv => ?_)).is rfl ?_
 ·show (isOp 2 && fieldB true d && fieldB true a && fieldB false 0 && (false || true)) = true
  have : fieldB true d = true := by unfold fieldB; rw [if_pos rfl, decide_eq_true_eq]; omega
  rw [this, src_field ha']; rfl
 ·have : v ∈ [a] := hv
  simp at this; subst this; exact ha'
 ·unfold nextCh
  show (ch || (false || decide (0 ≤ d ∧ d < 20))) = _
  rw [Bool.false_or]; congr 1; rw [decide_eq_decide]; omega
theorem reads_two {c a b d n : Int} {v : Int} (h : v ∈ reads ⟨c, d, a, b, n⟩) : v = a ∨ v = b := by
 unfold reads at h
 rcases List.mem_append.1 h with h | h
 ·split at h
  ·left; simpa using h
  ·cases h
 ·split at h
  ·right; simpa using h
  ·cases h
theorem BodyOk.bin {l : List BOp} {W : Nat} {ch : Bool} (h : BodyOk l W ch) {c d a b : Int} (hc : 3 ≤ c ∧ c ≤ 15) (hd : 0 ≤ d ∧ d < 28 ∧ d ≠ 19) (ha : srcI W a) (hb : srcI W b) : BodyOk (l ++ [⟨c, d, a, b, 0⟩]) (if 20 ≤ d then W ||| 2 ^ d.toNat else W) (ch || decide (d < 20)) := by
 have ha' := ha
 have hb' := hb
 obtain ⟨a1, a2, a3, a4⟩ := ha
 obtain ⟨b1, b2, b3, b4⟩ := hb
 have hD : hasD c = true := by unfold hasD; rw [decide_eq_true_eq]; omega
 have hA : hasA c = true := by unfold hasA; rw [decide_eq_true_eq]; omega
 have hB : hasB c = true := by unfold hasB; rw [decide_eq_true_eq]; omega
 have hI : isOp c = true := by unfold isOp; rw [decide_eq_true_eq]; omega
 have hL : leaves c = false := by unfold leaves; rw [decide_eq_false_iff_not]; omega
 have hS : stores c = false := by unfold stores; rw [decide_eq_false_iff_not]; omega
 have hw : writes ⟨c, d, a, b, 0⟩ = d := by unfold writes; rw [if_pos hD]
 refine (h.snoc (o := ⟨c, d, a, b, 0⟩) ⟨mid_small (by dsimp only; omega), mid_small (by dsimp only; omega), mid_small (by dsimp only; omega), mid_small (by dsimp only; omega), word0⟩ (by unfold bodyC; rw [decide_eq_true_eq]; dsimp only; omega) ?_ (fun h => by rw [hL] at h; cases h) (fun v hv => ?_)).is ?_ ?_
 ·unfold formedB
  dsimp only
  rw [hI, hD, hA, hB, src_field ha', src_field hb']
  have : fieldB true d = true := by unfold fieldB; rw [if_pos rfl, decide_eq_true_eq]; omega
  rw [this]; simp
 ·rcases reads_two hv with rfl | rfl
  ·exact ha'
  ·exact hb'
 ·unfold nextW; rw [hw]
 ·unfold nextCh
  rw [hw]
  dsimp only
  rw [hS, Bool.false_or]; congr 1; rw [decide_eq_decide]; omega
theorem BodyOk.load {l : List BOp} {W : Nat} {ch : Bool} (h : BodyOk l W ch) {c d a n : Int} (hc : 16 ≤ c ∧ c ≤ 17) (hd : 20 ≤ d ∧ d < 28) (ha : srcI W a) (hn : word n) (hch : ch = false) : BodyOk (l ++ [⟨c, d, a, 0, n⟩]) (W ||| 2 ^ d.toNat) ch := by
 have ha' := ha
 obtain ⟨a1, a2, a3, a4⟩ := ha
 have hD : hasD c = true := by unfold hasD; rw [decide_eq_true_eq]; omega
 have hA : hasA c = true := by unfold hasA; rw [decide_eq_true_eq]; omega
 have hB : hasB c = false := by unfold hasB; rw [decide_eq_false_iff_not]; omega
 have hNn : hasN c = true := by unfold hasN; rw [decide_eq_true_eq]; omega
 have hI : isOp c = true := by unfold isOp; rw [decide_eq_true_eq]; omega
 have hS : stores c = false := by unfold stores; rw [decide_eq_false_iff_not]; omega
 have hw : writes ⟨c, d, a, 0, n⟩ = d := by unfold writes; rw [if_pos hD]
 refine (h.snoc (o := ⟨c, d, a, 0, n⟩) ⟨mid_small (by dsimp only; omega), mid_small (by dsimp only; omega), mid_small (by dsimp only; omega), mid0, hn⟩ (by unfold bodyC; rw [decide_eq_true_eq]; dsimp only; omega) ?_ (fun _ => hch) (fun v hv => ?_)).is ?_ ?_
 ·unfold formedB
  dsimp only
  rw [hI, hD, hA, hB, src_field ha', hNn]
  have : fieldB true d = true := by unfold fieldB; rw [if_pos rfl, decide_eq_true_eq]; omega
  rw [this]; rfl
 ·unfold reads at hv
  dsimp only at hv
  rw [hA, hB] at hv
  simp at hv; subst hv; exact ha'
 ·unfold nextW; rw [hw, if_pos hd.1]
 ·unfold nextCh
  rw [hw]
  dsimp only
  rw [hS, Bool.false_or]
  have : decide (0 ≤ d ∧ d < 20) = false := by rw [decide_eq_false_iff_not]; omega
  rw [this, Bool.or_false]
theorem BodyOk.guard {l : List BOp} {W : Nat} {ch : Bool} (h : BodyOk l W ch) {a : Int} (ha : srcI W a) (hch : ch = false) : BodyOk (l ++ [⟨21, 0, a, 0, 0⟩]) W ch := by
 have ha' := ha
 obtain ⟨a1, a2, a3, a4⟩ := ha
 refine (h.snoc (o := ⟨21, 0, a, 0, 0⟩) ⟨mid_small (by dsimp only; omega), mid0, mid_small (by dsimp only; omega), mid0, word0⟩ rfl ?_ (fun _ => hch) (fun v hv => ?_)).is rfl ?_
 ·show (isOp 21 && fieldB false 0 && fieldB true a && fieldB false 0 && (false || true)) = true
  rw [src_field ha']; rfl
 ·have : v ∈ [a] := hv
  simp at this; subst this; exact ha'
 ·unfold nextCh
  show (ch || (false || false)) = _
  simp
theorem BodyOk.store {l : List BOp} {W : Nat} {ch : Bool} (h : BodyOk l W ch) {c a b n : Int} (hc : 18 ≤ c ∧ c ≤ 19) (ha : srcI W a) (hb : srcI W b) (hn : word n) (hch : ch = false) : BodyOk (l ++ [⟨c, 0, a, b, n⟩]) W true := by
 have ha' := ha
 have hb' := hb
 obtain ⟨a1, a2, a3, a4⟩ := ha
 obtain ⟨b1, b2, b3, b4⟩ := hb
 have hD : hasD c = false := by unfold hasD; rw [decide_eq_false_iff_not]; omega
 have hA : hasA c = true := by unfold hasA; rw [decide_eq_true_eq]; omega
 have hB : hasB c = true := by unfold hasB; rw [decide_eq_true_eq]; omega
 have hNn : hasN c = true := by unfold hasN; rw [decide_eq_true_eq]; omega
 have hI : isOp c = true := by unfold isOp; rw [decide_eq_true_eq]; omega
 have hS : stores c = true := by unfold stores; rw [decide_eq_true_eq]; omega
 have hw : writes ⟨c, 0, a, b, n⟩ = -1 := by unfold writes; rw [if_neg (by rw [hD]; decide)]
 refine (h.snoc (o := ⟨c, 0, a, b, n⟩) ⟨mid_small (by dsimp only; omega), mid0, mid_small (by dsimp only; omega), mid_small (by dsimp only; omega), hn⟩ (by unfold bodyC; rw [decide_eq_true_eq]; dsimp only; omega) ?_ (fun _ => hch) (fun v hv => ?_)).is ?_ ?_
 ·unfold formedB
  dsimp only
  rw [hI, hD, hA, hB, src_field ha', src_field hb', hNn]; rfl
 ·rcases reads_two hv with rfl | rfl
  ·exact ha'
  ·exact hb'
 ·unfold nextW; rw [hw]; rfl
 ·unfold nextCh
  dsimp only
  rw [hS]; simp
end Go.Proofs.YtnhdcclpjildjaaGreat
namespace Go.Proofs.YtnhdcclpjildjaaGreat
open Go.RowKit

structure ReplOk (o p : BOp) : Prop where
 formed : formedB p = true
 code : 1 ≤ p.code ∧ p.code ≤ 15
 writes : writes p = writes o
 reads : ∀ v ∈ reads p, v ∈ Go.Proofs.YtnhdcclpjildjaaGreat.reads o
end Go.Proofs.YtnhdcclpjildjaaGreat
