/- Plain: the program's check of validity and the reference's agree. -/
import Derived.Test.YtnhdcclpjildjaaGreatK6
namespace Go.Proofs.YtnhdcclpjildjaaGreat
open Go.RowKit

def segA (acc : List BOp) (o : BOp) : List BOp := if o.code = 20 then [o] else acc ++ [o]
def segF (l : List BOp) : List BOp := l.foldl segA []
def ordB (acc : List BOp) (o : BOp) : Bool := (reads o).all (knownB acc) && (!leaves o.code || freeB acc)
def run2 : Nat → List BOp → List BOp → Option Nat
 | m, _, [] => some m
 | m, acc, o :: l => match shapeStep m o l with | some m' => (if (o.code == 20 || ordB acc o) = true then run2 m' (segA acc o) l else none) | none => none
theorem take_succ_of {l : List BOp} {k : Nat} {o : BOp} (h : l[k]? = some o) : l.take (k + 1) = l.take k ++ [o] := by rw [List.take_add_one, h]; rfl
theorem seg_eq {l : List BOp} : ∀ (i : Nat) {o : BOp}, l[i]? = some o → o.code ≠ 20 → seg l i = segF (l.take i)
 | 0, o, h, hc => by simp [seg, segF]
 | k + 1, o, h, hc => by
  have hk : k < l.length := by
   rcases Nat.lt_or_ge (k + 1) l.length with h1 | h1
   ·omega
   ·rw [List.getElem?_eq_none h1] at h; cases h
  obtain ⟨p, hp⟩ : ∃ p, l[k]? = some p := ⟨_, List.getElem?_eq_getElem hk⟩
  have hlen : (l.take k).length = k := by rw [List.length_take]; omega
  have hf : firstI l (k + 1) = firstI l k := by
   show (if _ then _ else _) = _
   rw [if_neg (by rw [h]; simpa using hc)]
  have hs : segF (l.take (k + 1)) = segA (segF (l.take k)) p := by unfold segF; rw [take_succ_of hp, List.foldl_append]; rfl
  rw [hs]
  unfold seg
  rw [hf, take_succ_of hp]
  unfold segA
  by_cases hpc : p.code = 20
  ·rw [if_pos hpc]
   have hfk : firstI l k = (k : Int) := by
    cases k with
    | zero => show (if _ then _ else _) = _; rw [if_pos (by rw [hp]; simp [hpc])]; rfl
    | succ k => show (if _ then _ else _) = _; rw [if_pos (by rw [hp]; simp [hpc])]
   rw [hfk, Int.toNat_natCast, List.drop_append, hlen, Nat.sub_self, List.drop_eq_nil_of_le (by omega)]; rfl
  ·rw [if_neg hpc]
   have ih := seg_eq k hp hpc
   unfold seg at ih
   have hle := firstI_le l k
   rw [List.drop_append_of_le_length (by rw [hlen]; omega), ih]
theorem ordered_all {l : List BOp} : orderedAll l = true ↔ ∀ i o, l[i]? = some o → (o.code == 20 || ordB (segF (l.take i)) o) = true := by
 unfold orderedAll
 rw [List.all_eq_true]
 have key : ∀ i o, l[i]? = some o → orderedB l i o = (o.code == 20 || ordB (segF (l.take i)) o) := fun i o ho => by
  by_cases hc : o.code = 20
  ·have h1 : (o.code == 20) = true := by simp [hc]
   rw [h1, Bool.true_or]
   unfold orderedB
   have e1 : reads o = [] := by unfold reads; rw [hc]; rfl
   have e2 : leaves o.code = false := by rw [hc]; rfl
   rw [e1, e2]; rfl
  ·have h1 : (o.code == 20) = false := by simp [hc]
   rw [h1, Bool.false_or]
   unfold orderedB ordB
   rw [seg_eq i ho hc]
 constructor
 ·intro h i o ho
  have hi : i < l.length := by
   rcases Nat.lt_or_ge i l.length with h1 | h1
   ·exact h1
   ·rw [List.getElem?_eq_none h1] at ho; cases ho
  have := h i (List.mem_range.2 hi)
  rw [ho] at this
  rw [← key i o ho]; exact this
 ·intro h i hi
  cases ho : l[i]? with
  | none => rfl
  | some o => show orderedB l i o = true; rw [key i o ho]; exact h i o ho
open Classical in
theorem run2_eq : ∀ (l pre : List BOp) (m : Nat), run2 m (segF pre) l = if (∀ i o, l[i]? = some o → (o.code == 20 || ordB (segF (pre ++ l.take i)) o) = true) then shapeRun m l else none
 | [], pre, m => by rw [if_pos (by intro i o h; simp at h)]; rfl
 | o :: l, pre, m => by
  have ih := fun m' => run2_eq l (pre ++ [o]) m'
  have hseg : segF (pre ++ [o]) = segA (segF pre) o := by unfold segF; rw [List.foldl_append]; rfl
  show (match shapeStep m o l with | some m' => (if (o.code == 20 || ordB (segF pre) o) = true then run2 m' (segA (segF pre) o) l else none) | none => none) = _
  have hiff : (∀ i q, (o :: l)[i]? = some q → (q.code == 20 || ordB (segF (pre ++ (o :: l).take i)) q) = true) ↔ ((o.code == 20 || ordB (segF pre) o) = true ∧ ∀ i q, l[i]? = some q → (q.code == 20 || ordB (segF (pre ++ [o] ++ l.take i)) q) = true) := by
   constructor
   ·intro h
    refine ⟨by simpa using h 0 o rfl, fun i q hq => ?_⟩
    have := h (i + 1) q (by simpa using hq)
    simpa using this
   ·rintro ⟨h1, h2⟩ i q hq
    cases i with
    | zero => simp at hq; subst hq; simpa using h1
    | succ i => simpa using h2 i q (by simpa using hq)
  show _ = if _ then (match shapeStep m o l with | some m' => shapeRun m' l | none => none) else none
  cases hst : shapeStep m o l with
  | none => simp
  | some m' =>
   show (if _ then run2 m' (segA (segF pre) o) l else none) = if _ then shapeRun m' l else none
   rw [← hseg, ih m']
   by_cases h1 : (o.code == 20 || ordB (segF pre) o) = true
   ·rw [if_pos h1]
    by_cases h2 : ∀ i q, l[i]? = some q → (q.code == 20 || ordB (segF (pre ++ [o] ++ l.take i)) q) = true
    ·rw [if_pos h2, if_pos (hiff.2 ⟨h1, h2⟩)]
    ·rw [if_neg h2, if_neg (fun h => h2 (hiff.1 h).2)]
   ·rw [if_neg h1, if_neg (fun h => h1 (hiff.1 h).1)]
structure CkRel (s : Ck) (m : Nat) (acc : List BOp) : Prop where
 marks : s.marks = m
 bits : ∀ v : Nat, 20 ≤ v → v < 28 → s.written.testBit v = acc.any fun p => writes p == (v : Int)
 ch : s.changed = !freeB acc
theorem reads_all {s : Ck} {m : Nat} {acc : List BOp} (h : CkRel s m acc) {o : BOp} (hf : formedB o = true) : (reads o).all (readB s) = (reads o).all (knownB acc) := by
 have : ∀ v ∈ reads o, readB s v = knownB acc v := fun v hv => by
  obtain ⟨v0, v1⟩ := reads_var hf v hv
  unfold readB knownB
  by_cases h20 : v < 20
  ·simp [h20]
  ·have := h.bits v.toNat (by omega) (by omega)
   rw [this, show ((v.toNat : Nat) : Int) = v by omega]
 rw [Bool.eq_iff_iff, List.all_eq_true, List.all_eq_true]
 exact ⟨fun h v hv => by rw [← this v hv]; exact h v hv, fun h v hv => by rw [this v hv]; exact h v hv⟩
theorem ck_run2 : ∀ (l : List BOp) (s : Ck) (m : Nat) (acc : List BOp), CkRel s m acc → (ckRun s l).map (·.marks) = run2 m acc l
 | [], s, m, acc, h => by show some s.marks = some m; rw [h.marks]
 | o :: l, s, m, acc, h => by
  have ihl := ck_run2 l
  show Option.map _ (match ckNext s o l.isEmpty (exitNext l) with | some s' => ckRun s' l | none => none) = match shapeStep m o l with | some m' => (if (o.code == 20 || ordB acc o) = true then run2 m' (segA acc o) l else none) | none => none
  by_cases hf' : formedB o = false
  ·unfold ckNext shapeStep
   rw [hf']; rfl
  have hf : formedB o = true := by simpa using hf'
  by_cases hp' : ((endsB o.code == l.isEmpty) && !(o.code == 23 && !exitNext l)) = false
  ·unfold ckNext shapeStep placedB
   rw [hp', hf, Bool.false_and, Bool.and_false]
   have : (true && (endsB o.code == l.isEmpty) && !(o.code == 23 && !exitNext l)) = false := by rw [Bool.true_and]; exact hp'
   rw [this]; rfl
  have hp : ((endsB o.code == l.isEmpty) && !(o.code == 23 && !exitNext l)) = true := by rwa [Bool.not_eq_false] at hp'
  have hsh : shapeStep m o l = if o.code == 20 then (if o.n == (m : Int) then some (m + 1) else none) else some m := by
   unfold shapeStep
   rw [if_pos (by rw [hf, Bool.true_and]; exact hp)]
  rw [hsh]
  by_cases hc : o.code = 20
  ·have hc' : (o.code == 20) = true := by simp [hc]
   have hl : leaves o.code = false := by rw [hc]; rfl
   have hck : ckNext s o l.isEmpty (exitNext l) = if o.n == (s.marks : Int) then some ⟨s.marks + 1, 0, false⟩ else none := by
    unfold ckNext placedB
    rw [hf, hp, hl, hc']; rfl
   rw [hck, h.marks, hc']
   simp only [if_true, Bool.true_or]
   by_cases hn : (o.n == (m : Int)) = true
   ·rw [if_pos hn, if_pos hn]
    refine ihl _ _ _ ⟨rfl, fun v v0 v1 => ?_, ?_⟩
    ·unfold segA
     rw [if_pos hc]
     have hw : writes o = -1 := by unfold writes; rw [hc]; rfl
     have : (writes o == (v : Int)) = false := by rw [hw, beq_eq_false_iff_ne]; omega
     simp [this]
    ·unfold segA freeB
     rw [if_pos hc]
     have hw : writes o = -1 := by unfold writes; rw [hc]; rfl
     simp [hw, hc]
   ·rw [if_neg hn, if_neg hn]; rfl
  ·have hc' : (o.code == 20) = false := by simp [hc]
   rw [hc']
   simp only [Bool.false_eq_true, if_false, Bool.false_or]
   have hck : ckNext s o l.isEmpty (exitNext l) = if ordB acc o = true then some ⟨s.marks, if 20 ≤ writes o then s.written ||| 2 ^ (writes o).toNat else s.written, s.changed || (stores o.code || decide (0 ≤ writes o ∧ writes o < 20))⟩ else none := by
    unfold ckNext placedB ordB
    rw [hf, hp, hc', reads_all h hf, h.ch]
    cases leaves o.code <;> cases freeB acc <;> cases (reads o).all (knownB acc) <;> rfl
   rw [hck]
   by_cases ho : ordB acc o = true
   ·rw [if_pos ho, if_pos ho]
    refine ihl _ _ _ ⟨h.marks, fun v v0 v1 => ?_, ?_⟩
    ·unfold segA
     rw [if_neg hc, List.any_append, ← h.bits v v0 v1]
     simp only [List.any_cons, List.any_nil, Bool.or_false]
     split
     ·rename_i hw
      rw [Nat.testBit_or, Nat.testBit_two_pow]
      congr 1
      rw [Bool.eq_iff_iff]; simp; omega
     ·rename_i hw
      have : (writes o == (v : Int)) = false := by rw [beq_eq_false_iff_ne]; omega
      rw [this, Bool.or_false]
    ·unfold segA
     rw [if_neg hc]
     show (s.changed || _) = !(List.all (acc ++ [o]) _)
     rw [List.all_append, h.ch]
     have h19 : writes o ≠ 19 := by
      unfold writes
      split
      ·rename_i hD
       unfold formedB at hf
       simp only [Bool.and_eq_true] at hf
       have hd := hf.1.1.1.2
       rw [hD] at hd
       unfold fieldB at hd
       rw [if_pos rfl, decide_eq_true_eq] at hd
       exact hd.2.2
      ·omega
     have e : (stores o.code || decide (0 ≤ writes o ∧ writes o < 20)) = (decide (0 ≤ writes o ∧ writes o ≤ 18) || o.code == 18 || o.code == 19) := by
      unfold stores
      rw [Bool.eq_iff_iff]
      simp
      omega
     rw [e]
     unfold freeB
     simp only [List.all_cons, List.all_nil, Bool.and_true, Bool.not_and, Bool.not_not]
   ·rw [if_neg ho, if_neg ho]; rfl
theorem valid_same (b : Blk) : validR b = validB b := by
 unfold validR validB
 cases headerB b
 ·rfl
 have h1 := ck_run2 b.ops ⟨0, 0, false⟩ 0 [] ⟨rfl, fun v _ _ => by simp, rfl⟩
 have h2 := run2_eq b.ops [] 0
 have h3 := ordered_all (l := b.ops)
 rw [show segF [] = [] from rfl] at h2
 rw [h2] at h1
 simp only [List.nil_append] at h1
 by_cases ho : orderedAll b.ops = true
 ·rw [if_pos (h3.1 ho)] at h1
  rw [ho]
  cases hs : ckRun ⟨0, 0, false⟩ b.ops with
  | none => rw [hs] at h1; rw [← h1]; rfl
  | some s => rw [hs] at h1; rw [← h1]; rfl
 ·rw [if_neg (fun h => ho (h3.2 h))] at h1
  have ho' : orderedAll b.ops = false := by simpa using ho
  rw [ho']
  cases hs : ckRun ⟨0, 0, false⟩ b.ops with
  | none => cases shapeRun 0 b.ops <;> rfl
  | some s => rw [hs] at h1; cases h1
end Go.Proofs.YtnhdcclpjildjaaGreat
namespace Go.Proofs.YtnhdcclpjildjaaGreat
open Go.RowKit

theorem mixed : Tryz.prog.follows .mixedOrders = true := by kernel_rfl
end Go.Proofs.YtnhdcclpjildjaaGreat
namespace Go.Proofs.YtnhdcclpjildjaaGreat
open Go.RowKit

def foldP (b : Blk) : Blk := ⟨b.at_, b.pages, foldAll b⟩
def copyP (b : Blk) : Blk := ⟨b.at_, b.pages, copyAll b⟩
def deadP (b : Blk) : Blk := ⟨b.at_, b.pages, deadAll b⟩
def onceP (b : Blk) : Blk := deadP (copyP (foldP b))
def optN : Nat → Blk → Blk
 | 0, b => b
 | n + 1, b => if (onceP b).ops = b.ops then b else optN n (onceP b)
end Go.Proofs.YtnhdcclpjildjaaGreat
namespace Go.Proofs.YtnhdcclpjildjaaGreat
open Go.RowKit

structure PreOk (ops : List BOp) (i W : Nat) (ch : Bool) : Prop where
 run : ckL ⟨0, 0, false⟩ ops = some ⟨i, W, ch⟩
 all : ∀ o ∈ ops, o.ok ∧ o.code ≠ 23
 head : (i = 0 ∧ ops = []) ∨ ∃ o l, ops = o :: l ∧ o.code = 20
theorem PreOk.nil : PreOk [] 0 0 false := ⟨rfl, nofun, .inl ⟨rfl, rfl⟩⟩
theorem ckNext_exit {s : Ck} {o : BOp} (h : o.code ≠ 23) (x : Bool) : ckNext s o false x = ckNext s o false false := by
 unfold ckNext placedB
 have : (o.code == 23) = false := by rw [beq_eq_false_iff_ne]; exact h
 rw [this]; rfl
theorem ckRun_pre : ∀ {l : List BOp} {s s' : Ck} {rest : List BOp}, ckL s l = some s' → (∀ o ∈ l, o.code ≠ 23) → rest ≠ [] → ckRun s (l ++ rest) = ckRun s' rest
 | [], s, s', rest, h, _, _ => by injection h with h; subst h; rfl
 | o :: l, s, s', rest, h, hc, hr => by
  simp only [ckL] at h
  split at h
  ·rename_i s1 h1
   have ih := ckRun_pre h (fun p hp => hc p (by simp [hp])) hr
   show (match ckNext s o (l ++ rest).isEmpty _ with | some s' => ckRun s' (l ++ rest) | none => none) = _
   have he : (l ++ rest).isEmpty = false := by cases l <;> cases rest <;> simp_all
   rw [he, ckNext_exit (hc o (by simp)), h1]
   exact ih
  ·cases h
theorem ckNext_mark (i W : Nat) (ch : Bool) : ckNext ⟨i, W, ch⟩ ⟨20, 0, 0, 0, (i : Int)⟩ false false = some ⟨i + 1, 0, false⟩ := by
 have h1 : formedB ⟨20, 0, 0, 0, (i : Int)⟩ = true := rfl
 have h2 : placedB ⟨i, W, ch⟩ ⟨20, 0, 0, 0, (i : Int)⟩ false false = true := by cases ch <;> rfl
 unfold ckNext
 rw [h1, h2]
 simp
theorem PreOk.mark {ops : List BOp} {i W : Nat} {ch : Bool} (h : PreOk ops i W ch) (hi : i < 1000) : PreOk (ops ++ [⟨20, 0, 0, 0, (i : Int)⟩]) (i + 1) 0 false := by
 refine ⟨?_, fun o ho => ?_, .inr ?_⟩
 ·rw [ckL_append, h.run]
  show (match ckNext _ _ false false with | some s' => ckL s' [] | none => none) = _
  rw [ckNext_mark]; rfl
 ·rcases List.mem_append.1 ho with ho | ho
  ·exact h.all o ho
  ·simp at ho; subst ho
   exact ⟨⟨mid_small (by dsimp only; omega), mid0, mid0, mid0, by unfold word; dsimp only; omega⟩, by dsimp only; omega⟩
 ·rcases h.head with ⟨_, h1⟩ | ⟨o, l, h1, h2⟩
  ·subst h1; exact ⟨_, [], rfl, rfl⟩
  ·subst h1; exact ⟨o, _, rfl, h2⟩
theorem PreOk.body {ops l : List BOp} {i W : Nat} {ch : Bool} (h : PreOk ops i 0 false) (hb : BodyOk l W ch) (hi : 0 < i) : PreOk (ops ++ l) i W ch := by
 refine ⟨?_, fun o ho => ?_, .inr ?_⟩
 ·rw [ckL_append, h.run]; exact hb.run i
 ·rcases List.mem_append.1 ho with ho | ho
  ·exact h.all o ho
  ·have := hb.all o ho
   refine ⟨this.1, ?_⟩
   have h2 := this.2
   unfold bodyC at h2
   rw [decide_eq_true_eq] at h2
   omega
 ·rcases h.head with ⟨h0, _⟩ | ⟨o, l', h1, h2⟩
  ·omega
  ·subst h1; exact ⟨o, _, rfl, h2⟩
structure TailOk (t : List BOp) (ch : Bool) : Prop where
 run : ∀ (i W : Nat), ckRun ⟨i, W, ch⟩ t = some ⟨i, W, ch⟩
 all : ∀ o ∈ t, o.ok
 ne : t ≠ []
theorem tail_exit {n : Int} (hn : word n) (ch : Bool) : TailOk [⟨24, 0, 0, 0, n⟩] ch := by
 refine ⟨fun i W => ?_, fun o ho => ?_, by simp⟩
 ·cases ch <;> rfl
 ·simp at ho; subst ho
  exact ⟨mid_small (by dsimp only; omega), mid0, mid0, mid0, hn⟩
theorem tail_slow : TailOk [⟨22, 0, 0, 0, 0⟩] false := by
 refine ⟨fun i W => rfl, fun o ho => ?_, by simp⟩
 simp at ho; subst ho
 exact ⟨mid_small (by dsimp only; omega), mid0, mid0, mid0, word0⟩
structure MadeOk (b : Blk) : Prop where
 ok : b.ok
 valid : validB b = true
 len : b.ops.length ≤ 200
 lp : b.pages.length ≤ 10
end Go.Proofs.YtnhdcclpjildjaaGreat
namespace Go.Proofs.YtnhdcclpjildjaaGreat
open Go.RowKit

def liveAtL : List BOp → Int → Bool
 | [], _ => false
 | o :: l, v => if memI v (reads o) || (observesB o && decide (v < 19)) then true else if writes o == v then false else liveAtL l v
end Go.Proofs.YtnhdcclpjildjaaGreat
namespace Go.Proofs.YtnhdcclpjildjaaGreat
open Go.RowKit

section
variable {P : Program} {w0 : World} {G : Gs} {N : Nd} {o : Oper} {f : Fr} {S : List Ow} {K : Fr → List Ow → Prop}
variable {r : Env} {a : Act} {w : World} {next : Act → World → Prop} {Q : Exit → Act → World → Prop}

theorem good_value (_hR : Rel w0 G S r w) (hf : FDen r f a) (hN : a.tmps.size = N.n) (hd : a.defers = N.ds) (hdst : dstOk N.n o.dst = true) {v : AV} {u : Value} {S' : List Ow} {r' : Env} {w' : World} (hv : v.den r' u) (hR' : Rel w0 G S' r' w') (hle : r.le r') :
  Good w0 G N (f.put o.dst v) S' (a.put o.dst u) w' :=
 ⟨r', hR', (hf.mono hle).put hv (by rw [hN]; exact hdst), (put_size a _ _).trans hN, (put_defers a _ _).trans hd⟩
theorem alloc_new_holds (r : Env) (w : World) (n : Nat) (t : TypeId) {l : List CV} {us : List Value} (h : denL (r.set n (some w.heap.size) none) l us) : (Ow.cells t l).holds (r.set n (some w.heap.size) none) (w.alloc (.cells us.toArray t)) n :=
 ⟨w.heap.size, us, by simp [Env.set], heap_alloc_new w _, h⟩
theorem good_alloc (hR : Rel w0 G S r w) (hf : FDen r f a) (hN : a.tmps.size = N.n) (hd : a.defers = N.ds) (hdst : dstOk N.n o.dst = true) {t : TypeId} {l : List CV} {us : List Value} (hl : denL r l us) :
  Good w0 G N (f.put o.dst (.p (.c (.ref S.length 0)))) (S ++ [.cells t l]) (a.put o.dst (.pointer (some ⟨w.heap.size, 0, none⟩))) (w.alloc (.cells us.toArray t)) := by
 have hle := hR.le_new (some w.heap.size) none
 refine good_value hR hf hN hd hdst (r' := r.set S.length (some w.heap.size) none) (den_mk_ref (by simp [Env.set])) (hR.snoc ((Below.refl _ _).alloc (Nat.le_refl _) _) (fun x hx => by injection hx with hx; subst hx; simp) (alloc_new_holds r w _ t (denL_mono hle _ _ hl))) hle

theorem allocK_sound {t : TypeId} (hop : o.op = .alloc t) (h : allocK P o f S t K) (hdst : dstOk N.n o.dst = true) (hR : Rel w0 G S r w) (hf : FDen r f a) (hN : a.tmps.size = N.n) (hd : a.defers = N.ds)
  (hK : ∀ f' S' a' w', K f' S' → Good w0 G N f' S' a' w' → next a' w') : Oper.se P o a w next := by
 unfold allocK at h
 split at h
 ·rename_i i hi
  split at h
  ·rename_i z hz
   rw [forceS_iff, lenK_iff, forceL_iff, putK_iff] at h
   have hrun : (execOp a.eval o).run P w = .ok (.value (.pointer (some ⟨w.heap.size, 0, none⟩))) (w.alloc (.cells z.cells t)) := by
    simp [execOp, hop, Instr.alloc, zeroValue, typeInfo, hi, hz, newVar, newRow]
   exact wp_of_value hrun (hK _ _ _ _ h (by have := good_alloc (o := o) (t := t) hR hf hN hd hdst (denL_vals (r := r) z.cells.toList); simpa using this))
  ·exact h.elim
 ·exact h.elim
theorem boxK_sound {t : TypeId} {x : Operand} (hop : o.op = .box t x) (h : boxK o f S t (f.ev x) K) (hdst : dstOk N.n o.dst = true) (hR : Rel w0 G S r w) (hf : FDen r f a) (hN : a.tmps.size = N.n) (hd : a.defers = N.ds)
  (hK : ∀ f' S' a' w', K f' S' → Good w0 G N f' S' a' w' → next a' w') : Oper.se P o a w next := by
 unfold boxK at h
 split at h
 ·rename_i l hl
  rw [lenK_iff, forceL_iff, putK_iff] at h
  have hrun : (execOp a.eval o).run P w = .ok (.value (.pointer (some ⟨w.heap.size, 0, none⟩))) (w.alloc (.cells (a.eval x).cells t)) := by
   simp [execOp, hop, Instr.box, newVar, newRow]
  exact wp_of_value hrun (hK _ _ _ _ h (by have := good_alloc (o := o) (t := t) hR hf hN hd hdst (okCells_den hR hl (hf.ev x)); simpa using this))
 ·exact h.elim
theorem storeK_sound {t : TypeId} {x y : Operand} (hop : o.op = .store t x y) (h : storeK P o f S t (f.ev x) (f.ev y) K) (hdst : dstOk N.n o.dst = true) (hR : Rel w0 G S r w) (hf : FDen r f a) (hN : a.tmps.size = N.n) (hd : a.defers = N.ds)
  (hK : ∀ f' S' a' w', K f' S' → Good w0 G N f' S' a' w' → next a' w') : Oper.se P o a w next := by
 unfold storeK at h
 split at h
 ·rename_i i off hx
  have hxd := hf.ev x
  rw [hx] at hxd
  obtain ⟨b, hb, hu⟩ := den_ref hxd
  split at h
  ·rename_i cs hcs
   have hdc := okCells_den hR hcs (hf.ev y)
   have hlen := denL_length hdc
   split at h
   ·rename_i inf hinf
    split at h
    ·rename_i hsz
     have e1 : cs.length = inf.size := Nat.eq_of_beq_eq_true hsz
     split at h
     ·rename_i hones
      have hone := onesL_one hR hones hdc
      have hil : i < S.length := by
       rcases Nat.lt_or_ge i S.length with h1 | h1
       ·exact h1
       ·rw [hR.outB i h1] at hb; cases hb
      have hrun : ∀ w', (storeCells ⟨b, off, none⟩ (a.eval y).cells.toList 0).run P w = .ok () w' → (execOp a.eval o).run P w = .ok .skip w' := fun w' h' => by
       have hz : ¬ (a.eval y).cells.size ≠ inf.size := by rw [← Array.length_toList, hlen, e1]; simp
       simp only [execOp, hop, Instr.storeAt, hu, Instr.sureAddr, storeVar, Sem.run_bind, Sem.run_pure, Result.andThen_ok, run_sizeOf P t w hinf, if_neg hz, h']
      split at h
      ·rename_i t' l hS
       split at h
       ·rename_i hle
        rw [forceS_iff, forceL_iff, putK_iff] at h
        obtain ⟨b', us, h1, h2, h3⟩ := hR.own i _ hS
        rw [hb] at h1; injection h1 with h1; subst h1
        have hll := denL_length h3
        have e2 := Nat.le_of_ble_eq_true hle
        obtain ⟨w', hr, hg, hbl⟩ := run_storeCells (P := P) (a.eval y).cells.toList (i := 0) (off := off) h2 hone (by omega)
        refine wp_of_skip (hrun w' hr) (hK _ _ _ _ h ?_)
        refine good_value hR hf hN hd hdst (by simp [AV.den, Pc.den, CV.den]) (hR.setBlock hb hg ⟨b, _, hb, hbl, ?_⟩ hil) (Env.le.refl r)
        exact denL_setAll _ hdc h3
       ·exact h.elim
      ·rename_i e size n xs hS
       split at h
       ·rename_i us hus
        obtain ⟨hle, h⟩ := h
        rw [forceL_iff, putK_iff] at h
        have hv := valsOf_spec hus hdc
        obtain ⟨v, h1, h2, h3⟩ := hR.own i _ hS
        obtain ⟨hxl, h4⟩ := h3
        rcases h4 with ⟨hvn, hn0⟩ | ⟨g, cap, cur, hvg, hg0, hh, hnc, hcm, hcs', htk⟩
        ·rw [hvn, hb] at h2; cases h2
        ·have hgb : g = b := by rw [hvg, hb] at h2; simpa [Value.ownBlock] using h2
         subst hgb
         have hcl : cur.toList.length = cap * size := by simpa using hcs'
         have hnm : n * size ≤ cap * size := Nat.mul_le_mul_right size hnc
         obtain ⟨w', hr, hg, hbl⟩ := run_storeCells (P := P) (a.eval y).cells.toList (i := 0) (off := off) (cs := cur.toList) (by simpa using hh) hone (by rw [hv]; omega)
         refine wp_of_skip (hrun w' hr) (hK _ _ _ _ h ?_)
         refine good_value hR hf hN hd hdst (by simp [AV.den, Pc.den, CV.den]) (hR.setBlock hb hg ⟨v, h1, h2, by rw [setAll_length]; exact hxl, .inr ⟨g, cap, (setAll cur.toList off us).toArray, hvg, hg0, by rw [hbl, hv]; simp, hnc, hcm, by simp [setAll_length, hcl], ?_⟩⟩ hil) (Env.le.refl r)
         have hsplit : cur.toList = xs ++ cur.toList.drop (n * size) := by rw [← htk]; exact (List.take_append_drop _ _).symm
         rw [List.toList_toArray, hsplit, setAll_take us xs off hle _ (Nat.le_refl _), List.take_append_of_le_length (by rw [setAll_length]; omega), List.take_of_length_le (by rw [setAll_length]; omega)]
       ·exact h.elim
      ·exact h.elim
     ·exact h.elim
    ·exact h.elim
   ·exact h.elim
  ·exact h.elim
 ·exact h.elim
theorem denL_any (r : Env) : ∀ us : List Value, denL r (List.replicate us.length .any) us
 | [] => by simp [denL]
 | u :: us => by simp only [List.length_cons, List.replicate_succ, denL]; exact ⟨u, us, rfl, by simp only [CV.den], denL_any r us⟩
theorem bsliceK_sound {t : TypeId} {n : Nat} {parts : Array (Nat × Operand)} (hop : o.op = .buildSlice t n parts) (h : bsliceK P o f S t n parts K) (hdst : dstOk N.n o.dst = true) (hR : Rel w0 G S r w) (hf : FDen r f a) (hN : a.tmps.size = N.n) (hd : a.defers = N.ds)
  (hK : ∀ f' S' a' w', K f' S' → Good w0 G N f' S' a' w' → next a' w') : Oper.se P o a w next := by
 unfold bsliceK at h
 split at h
 ·rename_i e ht
  split at h
  ·rename_i i hi
   split at h
   ·rename_i z hz
    split at h
    ·rename_i hzs
     split at h
     ·rename_i hle
      split at h
      ·rename_i l hl
       rw [forceL_iff, lenK_iff, forceL_iff, putK_iff] at h
       have e1 : z.cells.size = i.size := Nat.eq_of_beq_eq_true hzs
       have e2 : n * i.size ≤ 16777216 := Nat.le_of_ble_eq_true hle
       have hlen : ∀ zero : Array Value, ((Array.range (n * i.size)).map (zero[· % zero.size]!)).toList.length = n * i.size := fun zero => by simp
       have hany : ∀ zero : Array Value, denL r (List.replicate (n * i.size) .any) ((Array.range (n * i.size)).map (zero[· % zero.size]!)).toList := fun zero => by
        have := denL_any r ((Array.range (n * i.size)).map (zero[· % zero.size]!)).toList
        rwa [hlen zero] at this
       have hrun : ∃ vs : List Value, denL r l vs ∧ (execOp a.eval o).run P w = .ok (.value (.slice (some ⟨w.heap.size, 0, none⟩) n n)) (w.alloc (.cells vs.toArray e)) := by
        have e3 : (parts.map fun (i, x) => (i, a.eval x)).toList = parts.toList.map fun p => (p.1, a.eval p.2) := by simp
        by_cases h0 : n * i.size = 0
        ·obtain ⟨vs, hv, hdv⟩ := fillK_sound hR hf parts.toList _ l _ hl (hany #[])
         refine ⟨vs, hdv, ?_⟩
         simp only [execOp, hop, Instr.buildSlice, underlying, Sem.run_bind, run_program, Result.andThen_ok, ht, Sem.run_pure, run_sizeOf P e w hi, e3]
         rw [if_neg (by omega), if_pos h0]
         have hv' : Instr.fill (fun k => some (k * i.size, i.size)) ((Array.range (n * i.size)).map ((#[] : Array Value)[· % (#[] : Array Value).size]!)) (parts.toList.map fun p => (p.1, a.eval p.2)) = some vs.toArray := by
          rw [← hv, Array.toArray_toList]
         simp only [Sem.run_bind, Sem.run_pure, Result.andThen_ok]
         rw [hv']
         simp [newRow]
        ·obtain ⟨vs, hv, hdv⟩ := fillK_sound hR hf parts.toList _ l _ hl (hany z.cells)
         refine ⟨vs, hdv, ?_⟩
         simp only [execOp, hop, Instr.buildSlice, underlying, Sem.run_bind, run_program, Result.andThen_ok, ht, Sem.run_pure, run_sizeOf P e w hi, e3]
         rw [if_neg (by omega), if_neg h0]
         simp only [zeroValue, typeInfo, Sem.run_bind, run_program, Result.andThen_ok, hi, hz, Sem.run_pure]
         have hv' : Instr.fill (fun k => some (k * i.size, i.size)) ((Array.range (n * i.size)).map (z.cells[· % z.cells.size]!)) (parts.toList.map fun p => (p.1, a.eval p.2)) = some vs.toArray := by
          rw [← hv, Array.toArray_toList]
         rw [hv']
         simp [newRow]
       obtain ⟨vs, hdv, hrun⟩ := hrun
       refine wp_of_value hrun (hK _ _ _ _ h ?_)
       have hle := hR.le_new (some w.heap.size) none
       refine good_value hR hf hN hd hdst (r' := r.set S.length (some w.heap.size) none) ?_ (hR.snoc ((Below.refl _ _).alloc (Nat.le_refl _) _) (fun x hx => by injection hx with hx; subst hx; simp) (alloc_new_holds r w _ e (denL_mono hle _ _ hdv))) hle
       simp only [AV.den, Pc.den, CV.den]
       exact ⟨w.heap.size, by simp [Env.set], rfl⟩
      ·exact h.elim
     ·exact h.elim
    ·exact h.elim
   ·exact h.elim
  ·exact h.elim
 ·exact h.elim
theorem avdenL_of {r : Env} : ∀ us : List Value, avdenL r (us.map fun c => AV.of c) us
 | [] => rfl
 | u :: us => ⟨u, us, rfl, AV.of_den r u, avdenL_of us⟩
theorem callK_sound {fn : Operand} {args : Array Operand} {tys : Array TypeId} (hop : o.op = .call ⟨.value fn, args, tys⟩) (h : callK P w0 G o f S (f.ev fn) args.toList K) (hdst : dstOk N.n o.dst = true) (hR : Rel w0 G S r w) (hf : FDen r f a) (hN : a.tmps.size = N.n) (hd : a.defers = N.ds)
  (hK : ∀ f' S' a' w', K f' S' → Good w0 G N f' S' a' w' → next a' w') : Oper.se P o a w next := by
 have hfn := hf.ev fn
 unfold callK at h
 split at h
 ·rename_i fid cap he
  rw [he] at hfn
  obtain ⟨us, hu, hcap⟩ := den_clo hfn
  rw [evL_iff] at h
  obtain ⟨hok, hc⟩ := h
  have hrun : (execOp a.eval o).run P w = .ok (.enter fid ((args.map a.eval) ++ us.toArray)) w := by
   simp [execOp, hop, resolve, Deferred.ofValue, hu, invoke, run_callFunc hok]
  refine wp_of_enter hrun ?_
  have := hc r w ((args.toList.map a.eval) ++ us) hR (avdenL_append (avdenL_ev hf _) (avdenL_cap hcap))
  rw [show ((args.toList.map a.eval) ++ us).toArray = (args.map a.eval) ++ us.toArray by apply Array.ext'; simp] at this
  refine Calls.mono this fun e w' ⟨v, u, S', r', he, hv, hR', hle, hKv⟩ => ⟨u, he, hK _ _ _ _ (putK_iff.1 hKv) (good_value hR hf hN hd hdst hv hR' hle)⟩
 ·rename_i fid first cap he
  rw [he] at hfn
  have hu := den_v hfn
  split at h
  ·rename_i hfst
   have ef : first = #[] := Array.ext' hfst
   rw [evL_iff] at h
   obtain ⟨hok, hc⟩ := h
   have hrun : (execOp a.eval o).run P w = .ok (.enter fid ((args.map a.eval) ++ cap)) w := by
    simp [execOp, hop, resolve, Deferred.ofValue, hu, ef, invoke, run_callFunc hok]
   refine wp_of_enter hrun ?_
   have := hc r w ((args.toList.map a.eval) ++ cap.toList) hR (avdenL_append (avdenL_ev hf _) (avdenL_of _))
   rw [show ((args.toList.map a.eval) ++ cap.toList).toArray = (args.map a.eval) ++ cap by apply Array.ext'; simp] at this
   refine Calls.mono this fun e w' ⟨v, u, S', r', he, hv, hR', hle, hKv⟩ => ⟨u, he, hK _ _ _ _ (putK_iff.1 hKv) (good_value hR hf hN hd hdst hv hR' hle)⟩
  ·exact h.elim
 ·exact h.elim
theorem qopK_sound (h : match opTy P o.op with | true => qop P w0 G S f o fun v => (f.putK o.dst v fun f' => K f' S) | false => False) (hdst : dstOk N.n o.dst = true) (hR : Rel w0 G S r w) (hf : FDen r f a) (hN : a.tmps.size = N.n) (hd : a.defers = N.ds)
  (hK : ∀ f' S' a' w', K f' S' → Good w0 G N f' S' a' w' → next a' w') : Oper.se P o a w next := by
 split at h
 ·rename_i hty
  obtain ⟨v, u, hKv, hv, hrun⟩ := qop_sound h hty hR hf
  exact wp_of_value (hrun w (Below.refl _ _)) (hK _ _ _ _ (putK_iff.1 hKv) (good_value hR hf hN hd hdst hv hR (Env.le.refl r)))
 ·exact h.elim
theorem opK_sound (h : opK P w0 G N o f S K) : OpS P w0 G N o f S K := by
 refine ⟨?_⟩
 intro r a w hR hf hN hd next Q hK
 unfold opK at h
 split at h
 ·exact h.elim
 ·rename_i hdst
  split at h
  ·rename_i t hop; exact allocK_sound hop h hdst hR hf hN hd hK
  ·rename_i t x hop; exact boxK_sound hop h hdst hR hf hN hd hK
  ·rename_i t x y hop; exact storeK_sound hop h hdst hR hf hN hd hK
  ·rename_i t n parts hop; exact bsliceK_sound hop h hdst hR hf hN hd hK
  ·rename_i fn args tys hop; exact callK_sound hop h hdst hR hf hN hd hK
  all_goals first | exact qopK_sound h hdst hR hf hN hd hK | exact h.out r a w hR hf hN hd next Q hK
end
end Go.Proofs.YtnhdcclpjildjaaGreat
namespace Go.Proofs.YtnhdcclpjildjaaGreat
open Go.RowKit

structure QI where
 op : Int
 d : Int
 a : Int
 b : Int
 imm : Int
structure QI.ok (i : QI) : Prop where
 op : 0 ≤ i.op ∧ i.op < 64
 d : 0 ≤ i.d ∧ i.d < 16
 a : 0 ≤ i.a ∧ i.a < 16
 b : 0 ≤ i.b ∧ i.b < 16
 imm : word i.imm
def qCode (op : Int) : Int :=
 if 1 ≤ op ∧ op ≤ 10 then op + 2 else if op = 11 then 14 else if op = 12 then 15 else if op = 16 then 3 else if 17 ≤ op ∧ op ≤ 22 then op - 12 else 0
theorem qCode_bin {op : Int} (h : qCode op ≠ 0) : 3 ≤ qCode op ∧ qCode op ≤ 15 := by
 unfold qCode at h ⊢
 split
 ·omega
 ·split
  ·omega
  ·split
   ·omega
   ·split
    ·omega
    ·split
     ·omega
     ·rename_i h1 h2 h3 h4 h5
      rw [if_neg h1, if_neg h2, if_neg h3, if_neg h4, if_neg h5] at h
      exact absurd rfl h
def cut32 (x : Int) : Int := x % 4294967296
theorem cut32_word (x : Int) : word (cut32 x) := by unfold word cut32; omega
def qSet (d n : Int) : List BOp := if d = 0 then [] else [⟨1, d, 0, 0, n⟩]
def qTarget (d : Int) : Int := if d = 0 then 20 else d
def qArith (i : QI) : List BOp :=
 (if i.op = 10 then [⟨21, 0, i.b, 0, 0⟩] else []) ++ (if i.d = 0 then [] else if 16 ≤ i.op then [⟨1, 20, 0, 0, i.imm⟩, ⟨qCode i.op, i.d, i.a, 20, 0⟩] else [⟨qCode i.op, i.d, i.a, i.b, 0⟩])
def qTestCode (op : Int) : Int := if op = 32 then 13 else if op = 33 then 7 else if op ≤ 35 then 14 else 15
def qTest (i : QI) : List BOp :=
 [⟨qTestCode i.op, 20, i.d, i.a, 0⟩] ++ (if i.op = 35 ∨ i.op = 37 then [⟨1, 21, 0, 0, 1⟩, ⟨7, 20, 20, 21, 0⟩] else [])
def qBody (i : QI) (at_ : Int) : List BOp :=
 if qCode i.op ≠ 0 then qArith i
 else if i.op = 41 then qSet i.d (cut32 (i.imm * 1024))
 else if i.op = 23 then [⟨16, qTarget i.d, i.a, 0, i.imm⟩]
 else if i.op = 24 then [⟨17, qTarget i.d, i.a, 0, i.imm⟩]
 else if i.op = 25 then [⟨18, 0, i.a, i.d, i.imm⟩]
 else if i.op = 26 then [⟨19, 0, i.a, i.d, i.imm⟩]
 else if i.op = 27 then [⟨1, 21, 0, 0, i.imm⟩, ⟨3, 20, i.a, 21, 0⟩, ⟨1, 21, 0, 0, 4294967292⟩, ⟨5, 20, 20, 21, 0⟩] ++ qSet i.d (cut32 (at_ + 4))
 else if i.op = 40 then qSet i.d (cut32 (at_ + 4))
 else if 32 ≤ i.op ∧ i.op ≤ 37 then qTest i
 else []
def qTail (i : QI) (at_ : Int) : Option (List BOp) :=
 if qCode i.op ≠ 0 then none
 else if i.op = 41 ∨ (23 ≤ i.op ∧ i.op ≤ 26) then none
 else if i.op = 27 then some [⟨25, 0, 20, 0, 0⟩]
 else if i.op = 40 then some [⟨24, 0, 0, 0, cut32 (at_ + 4 * i.imm)⟩]
 else if 32 ≤ i.op ∧ i.op ≤ 37 then some [⟨23, 0, 20, 0, cut32 (at_ + 4 * i.imm)⟩, ⟨24, 0, 0, 0, cut32 (at_ + 4)⟩]
 else some [⟨22, 0, 0, 0, 0⟩]
theorem src_guest {W : Nat} {v : Int} (h : 0 ≤ v ∧ v < 16) : srcI W v := ⟨h.1, by omega, by omega, .inl (by omega)⟩
theorem src_temp {W : Nat} {v : Int} (h : 20 ≤ v ∧ v < 28) (hb : W.testBit v.toNat = true) : srcI W v := ⟨by omega, h.2, by omega, .inr hb⟩
theorem BodyOk.loadG {l : List BOp} {W : Nat} {ch : Bool} (h : BodyOk l W ch) {c d a n : Int} (hc : 16 ≤ c ∧ c ≤ 17) (hd : 0 ≤ d ∧ d < 19) (ha : srcI W a) (hn : word n) (hch : ch = false) : BodyOk (l ++ [⟨c, d, a, 0, n⟩]) W true := by
 have ha' := ha
 obtain ⟨a1, a2, a3, a4⟩ := ha
 have hD : hasD c = true := by unfold hasD; rw [decide_eq_true_eq]; omega
 have hA : hasA c = true := by unfold hasA; rw [decide_eq_true_eq]; omega
 have hB : hasB c = false := by unfold hasB; rw [decide_eq_false_iff_not]; omega
 have hNn : hasN c = true := by unfold hasN; rw [decide_eq_true_eq]; omega
 have hI : isOp c = true := by unfold isOp; rw [decide_eq_true_eq]; omega
 have hw : writes ⟨c, d, a, 0, n⟩ = d := by unfold writes; rw [if_pos hD]
 refine (h.snoc (o := ⟨c, d, a, 0, n⟩) ⟨mid_small (by dsimp only; omega), mid_small (by dsimp only; omega), mid_small (by dsimp only; omega), mid0, hn⟩ (by unfold bodyC; rw [decide_eq_true_eq]; dsimp only; omega) ?_ (fun _ => hch) (fun v hv => ?_)).is ?_ ?_
 ·unfold formedB
  dsimp only
  rw [hI, hD, hA, hB, src_field ha', hNn]
  have : fieldB true d = true := by unfold fieldB; rw [if_pos rfl, decide_eq_true_eq]; omega
  rw [this]; rfl
 ·unfold reads at hv
  dsimp only at hv
  rw [hA, hB] at hv
  simp at hv; subst hv; exact ha'
 ·unfold nextW; rw [hw, if_neg (by omega)]
 ·unfold nextCh
  rw [hw]
  have : decide (0 ≤ d ∧ d < 20) = true := by rw [decide_eq_true_eq]; omega
  rw [this]; simp
def clean (o : BOp) : Prop := writes o ≠ 0 ∧ ¬ (16 ≤ writes o ∧ writes o ≤ 18)
structure QBody (l : List BOp) (W : Nat) (ch : Bool) : Prop where
 body : BodyOk l W ch
 clean : ∀ o ∈ l, clean o
theorem clean_guest {c d a b n : Int} (hd : 1 ≤ d ∧ d < 16) : clean ⟨c, d, a, b, n⟩ := by
 unfold clean writes; dsimp only; split <;> omega
theorem clean_temp {c d a b n : Int} (hd : 20 ≤ d) : clean ⟨c, d, a, b, n⟩ := by
 unfold clean writes; dsimp only; split <;> omega
theorem clean_none {c d a b n : Int} (hc : 18 ≤ c) : clean ⟨c, d, a, b, n⟩ := by
 have : hasD c = false := by unfold hasD; rw [decide_eq_false_iff_not]; omega
 unfold clean writes; dsimp only; rw [this]; simp
theorem QBody.nil : QBody [] 0 false := ⟨BodyOk.nil, nofun⟩
theorem QBody.of {l : List BOp} {o : BOp} {W W' : Nat} {ch ch' : Bool} (h : QBody l W ch) (hb : BodyOk (l ++ [o]) W' ch') (hc : Go.Proofs.YtnhdcclpjildjaaGreat.clean o) : QBody (l ++ [o]) W' ch' := ⟨hb, fun p hp => by
 rcases List.mem_append.1 hp with hp | hp
 ·exact h.clean p hp
 ·simp at hp; subst hp; exact hc⟩
theorem bit_or {W k : Nat} : (W ||| 2 ^ k).testBit k = true := by simp [Nat.testBit_two_pow_self]
theorem bit_or' {W k j : Nat} (h : W.testBit j = true) : (W ||| 2 ^ k).testBit j = true := by simp [h]
section
variable {l : List BOp} {W : Nat} {ch : Bool} {i : QI}
theorem QBody.temp {d n : Int} (h : QBody l W ch) (hd : 20 ≤ d ∧ d < 28) (hn : word n) : QBody (l ++ [⟨1, d, 0, 0, n⟩]) (W ||| 2 ^ d.toNat) ch :=
 h.of ((h.body.const ⟨by omega, hd.2, by omega⟩ hn).is (if_pos hd.1) (by have : decide (d < 20) = false := by rw [decide_eq_false_iff_not]; omega
                                                                         rw [this, Bool.or_false])) (clean_temp hd.1)
theorem QBody.binT {c d a b : Int} (h : QBody l W ch) (hc : 3 ≤ c ∧ c ≤ 15) (hd : 20 ≤ d ∧ d < 28) (ha : srcI W a) (hb : srcI W b) : QBody (l ++ [⟨c, d, a, b, 0⟩]) (W ||| 2 ^ d.toNat) ch :=
 h.of ((h.body.bin hc ⟨by omega, hd.2, by omega⟩ ha hb).is (if_pos hd.1) (by have : decide (d < 20) = false := by rw [decide_eq_false_iff_not]; omega
                                                                             rw [this, Bool.or_false])) (clean_temp hd.1)
theorem QBody.binG {c d a b : Int} (h : QBody l W ch) (hc : 3 ≤ c ∧ c ≤ 15) (hd : 1 ≤ d ∧ d < 16) (ha : srcI W a) (hb : srcI W b) : QBody (l ++ [⟨c, d, a, b, 0⟩]) W true :=
 h.of ((h.body.bin hc ⟨by omega, by omega, by omega⟩ ha hb).is (if_neg (by omega)) (by have : decide (d < 20) = true := by rw [decide_eq_true_eq]; omega
                                                                                       rw [this, Bool.or_true])) (clean_guest hd)
theorem QBody.set {d n : Int} (h : QBody l W ch) (hd : 0 ≤ d ∧ d < 16) (hn : word n) : ∃ ch', QBody (l ++ qSet d n) W ch' := by
 unfold qSet
 split
 ·rw [List.append_nil]; exact ⟨_, h⟩
 ·exact ⟨true, h.of ((h.body.const ⟨by omega, by omega, by omega⟩ hn).is (if_neg (by omega)) (by have : decide (d < 20) = true := by rw [decide_eq_true_eq]; omega
                                                                                                 rw [this, Bool.or_true])) (clean_guest (by omega))⟩
theorem QBody.load {c d a n : Int} (h : QBody l W false) (hc : 16 ≤ c ∧ c ≤ 17) (hd : 0 ≤ d ∧ d < 16) (ha : srcI W a) (hn : word n) : ∃ W' ch', QBody (l ++ [⟨c, qTarget d, a, 0, n⟩]) W' ch' := by
 unfold qTarget
 split
 ·exact ⟨_, _, h.of (h.body.load hc ⟨by omega, by omega⟩ ha hn rfl) (clean_temp (by omega))⟩
 ·exact ⟨_, _, h.of (h.body.loadG hc ⟨hd.1, by omega⟩ ha hn rfl) (clean_guest (by omega))⟩
theorem QBody.store {c a b n : Int} (h : QBody l W false) (hc : 18 ≤ c ∧ c ≤ 19) (ha : srcI W a) (hb : srcI W b) (hn : word n) : QBody (l ++ [⟨c, 0, a, b, n⟩]) W true :=
 h.of (h.body.store hc ha hb hn rfl) (clean_none (by omega))
theorem QBody.guard {a : Int} (h : QBody l W false) (ha : srcI W a) : QBody (l ++ [⟨21, 0, a, 0, 0⟩]) W false := h.of (h.body.guard ha rfl) (clean_none (by omega))
end
theorem word1 : word 1 := by unfold word; omega
theorem arith_ok {i : QI} (h : i.ok) (hc : qCode i.op ≠ 0) : ∃ W ch, QBody (qArith i) W ch := by
 have hcc := qCode_bin hc
 have key : ∀ l, QBody l 0 false → ∃ W ch, QBody (l ++ (if i.d = 0 then [] else if 16 ≤ i.op then [⟨1, 20, 0, 0, i.imm⟩, ⟨qCode i.op, i.d, i.a, 20, 0⟩] else [⟨qCode i.op, i.d, i.a, i.b, 0⟩])) W ch := by
  intro l hl
  split
  ·rw [List.append_nil]; exact ⟨_, _, hl⟩
  ·rename_i hd
   have hd1 : 1 ≤ i.d ∧ i.d < 16 := by have := h.d; omega
   split
   ·have h1 := hl.temp (d := 20) ⟨by omega, by omega⟩ h.imm
    have h2 := h1.binG (c := qCode i.op) hcc hd1 (src_guest h.a) (src_temp (v := 20) ⟨by omega, by omega⟩ bit_or)
    rw [List.append_assoc] at h2
    exact ⟨_, _, h2⟩
   ·exact ⟨_, _, hl.binG hcc hd1 (src_guest h.a) (src_guest h.b)⟩
 unfold qArith
 split
 ·exact key _ (QBody.guard QBody.nil (src_guest h.b))
 ·exact key [] QBody.nil
theorem test_code {op : Int} (_h : 32 ≤ op ∧ op ≤ 37) : 3 ≤ qTestCode op ∧ qTestCode op ≤ 15 := by
 unfold qTestCode
 split
 ·omega
 ·split
  ·omega
  ·split <;> omega
theorem test_ok {i : QI} (h : i.ok) (hc : 32 ≤ i.op ∧ i.op ≤ 37) : ∃ W, QBody (qTest i) W false ∧ W.testBit 20 = true := by
 have h1 := QBody.nil.binT (c := qTestCode i.op) (d := 20) (test_code hc) ⟨by omega, by omega⟩ (src_guest h.d) (src_guest h.a)
 unfold qTest
 split
 ·have h2 := h1.temp (d := 21) ⟨by omega, by omega⟩ word1
  have h3 := h2.binT (c := 7) (d := 20) (a := 20) (b := 21) ⟨by omega, by omega⟩ ⟨by omega, by omega⟩ (src_temp ⟨by omega, by omega⟩ (bit_or' bit_or)) (src_temp ⟨by omega, by omega⟩ bit_or)
  exact ⟨_, h3, bit_or⟩
 ·exact ⟨_, h1, bit_or⟩
structure TailW (t : List BOp) (W : Nat) (ch : Bool) : Prop where
 run : ∀ i : Nat, ∃ W' ch', ckRun ⟨i, W, ch⟩ t = some ⟨i, W', ch'⟩
 all : ∀ o ∈ t, o.ok ∧ clean o
 ne : t ≠ []
theorem tailW_exit {n : Int} (hn : word n) (W : Nat) (ch : Bool) : TailW [⟨24, 0, 0, 0, n⟩] W ch :=
 ⟨fun i => ⟨W, ch, (tail_exit hn ch).run i W⟩, fun o ho => ⟨(tail_exit hn ch).all o ho, by simp at ho; subst ho; exact clean_none (by omega)⟩, by simp⟩
theorem tailW_slow (W : Nat) : TailW [⟨22, 0, 0, 0, 0⟩] W false :=
 ⟨fun i => ⟨W, false, tail_slow.run i W⟩, fun o ho => ⟨tail_slow.all o ho, by simp at ho; subst ho; exact clean_none (by omega)⟩, by simp⟩
theorem tailW_var {W : Nat} {ch : Bool} (h : W.testBit 20 = true) : TailW [⟨25, 0, 20, 0, 0⟩] W ch := by
 refine ⟨fun i => ⟨W, ch, ?_⟩, fun o ho => ?_, by simp⟩
 ·have h3 : (reads ⟨25, 0, 20, 0, 0⟩).all (readB ⟨i, W, ch⟩) = true := by
   show ([(20 : Int)].all (readB ⟨i, W, ch⟩)) = true
   simp [readB, h]
  have h2 : placedB ⟨i, W, ch⟩ ⟨25, 0, 20, 0, 0⟩ true false = true := by cases ch <;> rfl
  show (match ckNext ⟨i, W, ch⟩ ⟨25, 0, 20, 0, 0⟩ true false with | some s' => ckRun s' [] | none => none) = _
  unfold ckNext
  rw [show formedB ⟨25, 0, 20, 0, 0⟩ = true from rfl, h2, h3]
  show some (Ck.mk i W (ch || (false || false))) = _
  simp
 ·simp at ho; subst ho
  exact ⟨⟨mid_small (by dsimp only; omega), mid0, mid_small (by dsimp only; omega), mid0, word0⟩, clean_none (by omega)⟩
theorem tailW_if {W : Nat} {ch : Bool} {n m : Int} (h : W.testBit 20 = true) (hn : word n) (hm : word m) : TailW [⟨23, 0, 20, 0, n⟩, ⟨24, 0, 0, 0, m⟩] W ch := by
 refine ⟨fun i => ⟨W, ch, ?_⟩, fun o ho => ?_, by simp⟩
 ·have h1 : formedB ⟨23, 0, 20, 0, n⟩ = true := rfl
  have h2 : placedB ⟨i, W, ch⟩ ⟨23, 0, 20, 0, n⟩ false true = true := by cases ch <;> rfl
  have h3 : (reads ⟨23, 0, 20, 0, n⟩).all (readB ⟨i, W, ch⟩) = true := by
   show ([(20 : Int)].all (readB ⟨i, W, ch⟩)) = true
   simp [readB, h]
  show (match ckNext ⟨i, W, ch⟩ ⟨23, 0, 20, 0, n⟩ false true with | some s' => ckRun s' [⟨24, 0, 0, 0, m⟩] | none => none) = _
  have h4 : ckNext ⟨i, W, ch⟩ ⟨23, 0, 20, 0, n⟩ false true = some ⟨i, W, ch⟩ := by
   unfold ckNext
   rw [h1, h2, h3]
   show some (Ck.mk i W (ch || (false || false))) = _
   simp
  rw [h4]
  exact (tail_exit hm ch).run i W
 ·simp at ho
  rcases ho with rfl | rfl
  ·exact ⟨⟨mid_small (by dsimp only; omega), mid0, mid_small (by dsimp only; omega), mid0, hn⟩, clean_none (by omega)⟩
  ·exact ⟨⟨mid_small (by dsimp only; omega), mid0, mid0, mid0, hm⟩, clean_none (by omega)⟩
theorem qins_ok {i : QI} (h : i.ok) (at_ : Int) : ∃ W ch, QBody (qBody i at_) W ch ∧ ∀ t, qTail i at_ = some t → TailW t W ch := by
 unfold qBody qTail
 split
 ·rename_i hc
  obtain ⟨W, ch, hb⟩ := arith_ok h hc
  exact ⟨W, ch, hb, fun t ht => by cases ht⟩
 ·split
  ·rename_i h41
   rw [if_pos (Or.inl h41)]
   obtain ⟨ch, hb⟩ := QBody.nil.set h.d (cut32_word (i.imm * 1024))
   exact ⟨0, ch, hb, fun t ht => by cases ht⟩
  ·rename_i h41
   split
   ·rename_i hop
    rw [if_pos (Or.inr (by omega))]
    obtain ⟨W, ch, hb⟩ := QBody.nil.load (c := 16) ⟨by omega, by omega⟩ h.d (src_guest h.a) h.imm
    exact ⟨W, ch, hb, fun t ht => by cases ht⟩
   ·split
    ·rename_i hop
     rw [if_pos (Or.inr (by omega))]
     obtain ⟨W, ch, hb⟩ := QBody.nil.load (c := 17) ⟨by omega, by omega⟩ h.d (src_guest h.a) h.imm
     exact ⟨W, ch, hb, fun t ht => by cases ht⟩
    ·split
     ·rename_i hop
      rw [if_pos (Or.inr (by omega))]
      exact ⟨_, _, QBody.nil.store (c := 18) ⟨by omega, by omega⟩ (src_guest h.a) (src_guest h.d) h.imm, fun t ht => by cases ht⟩
     ·split
      ·rename_i hop
       rw [if_pos (Or.inr (by omega))]
       exact ⟨_, _, QBody.nil.store (c := 19) ⟨by omega, by omega⟩ (src_guest h.a) (src_guest h.d) h.imm, fun t ht => by cases ht⟩
      ·rename_i n23 n24 n25 n26
       rw [if_neg (show ¬ (i.op = 41 ∨ (23 ≤ i.op ∧ i.op ≤ 26)) by omega)]
       split
       ·have h1 := QBody.nil.temp (d := 21) ⟨by omega, by omega⟩ h.imm
        have h2 := h1.binT (c := 3) (d := 20) (a := i.a) (b := 21) ⟨by omega, by omega⟩ ⟨by omega, by omega⟩ (src_guest h.a) (src_temp ⟨by omega, by omega⟩ bit_or)
        have h3 := h2.temp (d := 21) (n := 4294967292) ⟨by omega, by omega⟩ (by unfold word; omega)
        have h4 := h3.binT (c := 5) (d := 20) (a := 20) (b := 21) ⟨by omega, by omega⟩ ⟨by omega, by omega⟩ (src_temp ⟨by omega, by omega⟩ (bit_or' bit_or)) (src_temp ⟨by omega, by omega⟩ bit_or)
        obtain ⟨ch, h5⟩ := h4.set h.d (cut32_word (at_ + 4))
        refine ⟨_, ch, h5, fun t ht => ?_⟩
        injection ht with ht; subst ht
        exact tailW_var bit_or
       ·split
        ·obtain ⟨ch, hb⟩ := QBody.nil.set h.d (cut32_word (at_ + 4))
         refine ⟨_, ch, hb, fun t ht => ?_⟩
         injection ht with ht; subst ht
         exact tailW_exit (cut32_word _) _ _
        ·split
         ·rename_i hop
          obtain ⟨W, hb, hbit⟩ := test_ok h hop
          refine ⟨W, false, hb, fun t ht => ?_⟩
          injection ht with ht; subst ht
          exact tailW_if hbit (cut32_word _) (cut32_word _)
         ·refine ⟨0, false, QBody.nil, fun t ht => ?_⟩
          injection ht with ht; subst ht
          exact tailW_slow 0
end Go.Proofs.YtnhdcclpjildjaaGreat
namespace Go.Proofs.YtnhdcclpjildjaaGreat
open Go.RowKit

def copyF : Bool → List BOp → List BOp → Int → Int
 | _, [], _, _ => -1
 | m, o :: r, sk, v => if writes o = v then (if o.code ≠ 2 ∨ o.a = v then -1 else if m = true ∧ (20 ≤ v ∨ 20 ≤ o.a) then -1 else if (sk.any fun p => writes p == o.a) = true then -1 else o.a) else copyF (m || o.code == 20) r (o :: sk) v
def copyR (r : List BOp) (v : Int) : Int := copyF false r [] v
structure CopyIs (s : Int → Option Int) (r : List BOp) : Prop where
 fm : ∀ o ∈ r, o.code = 2 → 0 ≤ o.a
 some_ : ∀ v w, 0 ≤ v → v < 28 → s v = some w → copyR r v = w ∧ 0 ≤ w ∧ w < 28
 none_ : ∀ v, 0 ≤ v → v < 28 → s v = none → copyR r v < 0
 flat : ∀ v w, s v = some w → s w = none
end Go.Proofs.YtnhdcclpjildjaaGreat
namespace Go.Proofs.YtnhdcclpjildjaaGreat
open Go.RowKit

def slotOf (ops : Array Oper) (j : Nat) : Option Nat := (ops[j]?).bind (·.dst)
def sameG (j : Nat) (pol : Bool) (o : Oper) : Bool := match o.guard with
 | some (i, p) => (match Nat.beq i j with | true => p == pol | false => false)
 | none => false
def spanG (j : Nat) (pol : Bool) : List Oper → List Oper × List Oper
 | [] => ([], [])
 | o :: l => match sameG j pol o with | true => (o :: (spanG j pol l).1, (spanG j pol l).2) | false => ([], o :: l)
theorem spanG_append (j : Nat) (pol : Bool) : ∀ l : List Oper, (spanG j pol l).1 ++ (spanG j pol l).2 = l
 | [] => rfl
 | o :: l => by unfold spanG; split <;> simp [spanG_append j pol l]
theorem spanG_all (j : Nat) (pol : Bool) : ∀ (l : List Oper), ∀ o ∈ (spanG j pol l).1, o.guard = some (j, pol)
 | [], o, h => by cases h
 | x :: l, o, h => by
  unfold spanG at h
  split at h
  ·rename_i hs
   rcases List.mem_cons.1 h with rfl | h
   ·unfold sameG at hs
    split at hs
    ·rename_i i p hg
     split at hs
     ·rename_i hi
      have := Nat.eq_of_beq_eq_true hi
      rw [hg, this]; simp at hs; rw [hs]
     ·cases hs
    ·cases hs
   ·exact spanG_all j pol l o h
  ·cases h
def pickOf (p : Oper) (d : Nat) (pol : Bool) : Option Nat := match p.guard with
 | some _ => none
 | none => (match p.op with
  | .pick (.tmp c) (.tmp b) (.const (.bool false)) => (match Nat.beq c d with | true => (match pol with | true => some b | false => none) | false => none)
  | .pick (.tmp c) (.const (.bool true)) (.tmp b) => (match Nat.beq c d with | true => (match pol with | false => some b | true => none) | false => none)
  | _ => none)
def cmb (pol x y : Bool) : Bool := match pol with | true => x && y | false => x || y
def putsAny : List Oper → Fr → Fr
 | [], f => f
 | o :: l, f => putsAny l (f.put o.dst (.p (.c .any)))
def putsAnyK : List Oper → Fr → (Fr → Prop) → Prop
 | [], f, K => K f
 | o :: l, f, K => f.putK o.dst (.p (.c .any)) fun f' => putsAnyK l f' K
theorem putsAnyK_iff : ∀ {l : List Oper} {f : Fr} {K : Fr → Prop}, putsAnyK l f K ↔ K (putsAny l f)
 | [], _, _ => Iff.rfl
 | o :: l, f, K => by unfold putsAnyK; rw [putK_iff, putsAnyK_iff]; rfl
def dstsOf : List Oper → List Nat
 | [] => []
 | o :: l => match o.dst with | some d => d :: dstsOf l | none => dstsOf l
def memN (d : Nat) : List Nat → Bool
 | [] => false
 | x :: l => match Nat.beq x d with | true => true | false => memN d l
def onTop (ds : List Nat) (f : Fr) : Nat → Fr → Prop
 | 0, f' => f' = f
 | _n + 1, [] => False
 | n + 1, (d, _) :: f' => match memN d ds with | true => onTop ds f n f' | false => False
def allDst (N : Nat) : List Oper → Bool
 | [] => true
 | o :: l => match dstOk N o.dst with | true => allDst N l | false => false
def putN : List Oper → Nat
 | [] => 0
 | o :: l => match o.dst with | some _ => putN l + 1 | none => putN l

def Ow.bnd (n : Nat) : Ow → Bool
 | .cells _ l => bndL n l
 | _ => true
def sbnd (n : Nat) : List Ow → Bool
 | [] => true
 | o :: S => match o.bnd n with | true => sbnd n S | false => false
def grpOk (G : Gs) (S : List Ow) : Bool := match Nat.ble G.fix.length S.length with | true => sbnd S.length S | false => false
section
variable (P : Program) (w0 : World) (G : Gs) (N : Nd)
def seqK (d : Nat) (pol : Bool) : List Oper → Fr → List Ow → (Fr → List Ow → Prop) → Prop
 | [], f, S, K => K f S
 | o :: l, f, S, K => match f.get d with
  | .p (.c (.v (.bool y))) => (match y == pol with | true => opK P w0 G N o f S fun f' S' => seqK d pol l f' S' K | false => False)
  | _ => False
def opsK (ops : Array Oper) : Nat → List Oper → Fr → List Ow → (Fr → List Ow → Prop) → Prop
 | _, [], f, S, K => K f S
 | 0, _ :: _, _, _, _ => False
 | n + 1, o :: rest, f, S, K => match o.guard with
  | none => opK P w0 G N o f S fun f' S' => opsK ops n rest f' S' K
  | some (j, pol) => (match slotOf ops j with
   | none => False
   | some d => (match f.get d with
    | .p (.c (.v (.bool x))) => (match spanG j pol (o :: rest) with
     | (grp, p :: rem) => (match pickOf p d pol with
      | some b => (match allDst N.n grp, dstOk N.n p.dst, memN d (dstsOf grp) with
       | true, true, false => ∃ y : Bool, (x = pol → seqK P w0 G N d pol grp ((d, one (.bool pol)) :: f) S fun f' S' => onTop (dstsOf grp) ((d, one (.bool pol)) :: f) (putN grp) f' ∧ S'.take S.length = S ∧ f'.get b = one (.bool y) ∧ f.bnd S.length = true ∧ grpOk G S = true) ∧
         putsAnyK grp f fun f' => f'.putK p.dst (one (.bool (cmb pol x y))) fun f' => opsK ops n rem f' S K
       | _, _, _ => False)
      | none => (x = pol → opK P w0 G N o ((d, one (.bool pol)) :: f) S fun f' S' => opsK ops n rest f' S' K) ∧
        (x = (!pol) → match dstOk N.n o.dst with | true => (Fr.putK ((d, one (.bool (!pol))) :: f) o.dst (.p (.c .any)) fun f' => opsK ops n rest f' S K) | false => False))
     | _ => (x = pol → opK P w0 G N o ((d, one (.bool pol)) :: f) S fun f' S' => opsK ops n rest f' S' K) ∧
        (x = (!pol) → match dstOk N.n o.dst with | true => (Fr.putK ((d, one (.bool (!pol))) :: f) o.dst (.p (.c .any)) fun f' => opsK ops n rest f' S K) | false => False))
    | _ => False))
end
section
variable {P : Program} {w0 : World} {G : Gs} {N : Nd} {ops : Array Oper}
theorem yielded_of {r : Env} {f : Fr} {a : Act} (hf : FDen r f a) {j d : Nat} (hs : slotOf ops j = some d) {x : Bool} (hx : f.get d = one (.bool x)) : yielded ops a.tmps j = some x := by
 have h := hf d
 rw [hx] at h
 have h := den_v h
 unfold yielded
 unfold slotOf at hs
 rw [hs]
 have : a.tmps[d]? = some (.bool x) := by
  rw [Array.getD_eq_getD_getElem?] at h
  cases hd : a.tmps[d]? with
  | none => rw [hd] at h; simp [undef] at h
  | some v => rw [hd] at h; simp at h; rw [h]
 simp [this]
theorem wanted_none {o : Oper} (h : o.guard = none) (y : Nat → Option Bool) : Region.wanted o y = true := by simp [Region.wanted, h]
theorem wanted_some {o : Oper} {j : Nat} {pol : Bool} (h : o.guard = some (j, pol)) (y : Nat → Option Bool) : Region.wanted o y = (y j == some pol) := by simp [Region.wanted, h]
theorem step_do {o : Oper} {rest : List Oper} {Q : Act → World → Prop} {a : Act} {w : World} (hw : Region.wanted o (yielded ops a.tmps) = true) (h : Oper.se P o a w (seL P ops Q rest)) : seL P ops Q (o :: rest) a w := by
 unfold seL; rw [if_pos hw]; exact h
theorem step_not {o : Oper} {rest : List Oper} {Q : Act → World → Prop} {a : Act} {w : World} (hw : Region.wanted o (yielded ops a.tmps) = false) (h : seL P ops Q rest (a.put o.dst undef) w) : seL P ops Q (o :: rest) a w := by
 unfold seL; rw [if_neg (by rw [hw]; simp)]; exact h
theorem get_cons_self (d : Nat) (x : AV) (f : Fr) : Fr.get ((d, x) :: f) d = x := by simp [Fr.get]
theorem Good.known {f : Fr} {S : List Ow} {a : Act} {w : World} (h : Good w0 G N f S a w) {d : Nat} {x : AV} (hx : f.get d = x) : Good w0 G N ((d, x) :: f) S a w := by
 obtain ⟨r, hR, hf, hN, hd⟩ := h
 refine ⟨r, hR, fun k => ?_, hN, hd⟩
 simp only [Fr.get]
 split
 ·rename_i hk; have := Nat.eq_of_beq_eq_true hk; subst this; rw [← hx]; exact hf d
 ·exact hf k
theorem seqK_sound {d : Nat} {pol : Bool} {j : Nat} (hs : slotOf ops j = some d) {Q : Act → World → Prop} {rest : List Oper} : ∀ (l : List Oper) (f : Fr) (S : List Ow) (K : Fr → List Ow → Prop), (∀ o ∈ l, o.guard = some (j, pol)) → seqK P w0 G N d pol l f S K →
  (∀ f' S' a' w', K f' S' → Good w0 G N f' S' a' w' → seL P ops Q rest a' w') → ∀ a w, Good w0 G N f S a w → seL P ops Q (l ++ rest) a w
 | [], f, S, K, _, h, hK, a, w, hg => hK _ _ _ _ h hg
 | o :: l, f, S, K, hgd, h, hK, a, w, hg => by
  unfold seqK at h
  split at h
  ·rename_i y hy
   split at h
   ·rename_i hyp
    have hyp : y = pol := by simpa using hyp
    subst hyp
    obtain ⟨r, hR, hf, hN, hd⟩ := hg
    refine step_do ?_ ((opK_sound h).out r a w hR hf hN hd _ (fun _ _ _ => True) fun f' S' a' w' hk hg' => seqK_sound hs l f' S' K (fun o ho => hgd o (List.mem_cons_of_mem _ ho)) hk hK a' w' hg')
    rw [wanted_some (hgd o (List.mem_cons_self ..)), yielded_of hf hs hy]; simp
   ·exact h.elim
  ·exact h.elim
theorem memN_not {d : Nat} : ∀ {l : List Nat}, memN d l = false → d ∉ l
 | [], _ => by simp
 | x :: l, h => by
  unfold memN at h
  split at h
  ·cases h
  ·rename_i hx
   intro hm
   rcases List.mem_cons.1 hm with rfl | hm
   ·simp at hx
   ·exact memN_not h hm
theorem memN_mem {d : Nat} : ∀ {l : List Nat}, memN d l = true → d ∈ l
 | [], h => by cases h
 | x :: l, h => by
  unfold memN at h
  split at h
  ·rename_i hx; rw [Nat.eq_of_beq_eq_true hx]; exact List.mem_cons_self ..
  ·exact List.mem_cons_of_mem _ (memN_mem h)
theorem onTop_get {ds : List Nat} {f : Fr} : ∀ (n : Nat) (f' : Fr), onTop ds f n f' → ∀ k, k ∉ ds → f'.get k = f.get k
 | 0, f', h, k, _ => by rw [show f' = f from h]
 | n + 1, [], h, k, _ => h.elim
 | n + 1, (d, x) :: f', h, k, hk => by
  simp only [onTop] at h
  split at h
  ·rename_i hm
   simp only [Fr.get]
   split
   ·rename_i hdk
    have := Nat.eq_of_beq_eq_true hdk; subst this
    exact absurd (memN_mem hm) hk
   ·exact onTop_get n f' h k hk
  ·exact h.elim
theorem putsAny_get : ∀ (l : List Oper) (f : Fr) (k : Nat), (putsAny l f).get k = .p (.c .any) ∨ ((putsAny l f).get k = f.get k ∧ k ∉ dstsOf l)
 | [], f, k => .inr ⟨rfl, by simp [dstsOf]⟩
 | o :: l, f, k => by
  simp only [putsAny, dstsOf]
  rcases putsAny_get l (f.put o.dst (.p (.c .any))) k with h | ⟨h1, h2⟩
  ·exact .inl h
  ·cases ho : o.dst with
   | none => rw [ho] at h1; simp only [Fr.put] at h1; right; exact ⟨by simpa only [ho, Fr.put] using h1, h2⟩
   | some d =>
    rw [ho] at h1
    simp only [Fr.put, Fr.get] at h1
    split at h1
    ·left; simpa only [ho, Fr.put] using h1
    ·rename_i hdk
     right
     refine ⟨by simpa only [ho, Fr.put] using h1, fun hm => ?_⟩
     rcases List.mem_cons.1 hm with rfl | hm
     ·simp at hdk
     ·exact h2 hm
theorem putsAny_far : ∀ (l : List Oper) (f : Fr) (k : Nat), k ∉ dstsOf l → (putsAny l f).get k = f.get k
 | [], f, k, _ => rfl
 | o :: l, f, k, h => by
  simp only [putsAny, dstsOf] at h ⊢
  cases ho : o.dst with
  | none => rw [ho] at h; rw [putsAny_far l _ k h]; rfl
  | some d =>
   rw [ho] at h
   rw [putsAny_far l _ k (fun hm => h (List.mem_cons_of_mem _ hm))]
   simp only [Fr.put, Fr.get]
   split
   ·rename_i hd; exact absurd (Nat.eq_of_beq_eq_true hd).symm (fun e => h (by rw [e]; exact List.mem_cons_self ..))
   ·rfl
def Env.upto (n : Nat) (r : Env) : Env := ⟨fun i => if i < n then r.blk i else none, fun i => if i < n then r.val i else none⟩
theorem Env.upto_blk (n : Nat) (r : Env) : ∀ k b, (r.upto n).blk k = some b → r.blk k = some b := fun k b h => by
 simp only [Env.upto] at h
 split at h
 ·exact h
 ·cases h
theorem Env.upto_agree (n : Nat) (r : Env) : r.agree n (r.upto n) := fun i hi => by simp [Env.upto, hi]
theorem Ow.holds_agree {n i : Nat} {r r' : Env} {w : World} {o : Ow} (h : o.holds r w i) (ha : r.agree n r') (hb : o.bnd n = true) (hi : i < n) (hs : ∀ k b, r'.blk k = some b → r.blk k = some b) : o.holds r' w i := by
 cases o with
 | cells t l => obtain ⟨b, us, h1, h2, h3⟩ := h; exact ⟨b, us, by rw [← (ha i hi).1]; exact h1, h2, denL_agree ha _ _ hb h3⟩
 | row e size m xs => obtain ⟨v, h1, h2, h3⟩ := h; exact ⟨v, by rw [← (ha i hi).2]; exact h1, by rw [← (ha i hi).1]; exact h2, h3⟩
 | ext φ => obtain ⟨b, h1, h2⟩ := h; exact ⟨b, by rw [← (ha i hi).1]; exact h1, h2⟩
 | view φ n xs =>
  obtain ⟨A, c, h1, h2, h3, h4, h5⟩ := h
  refine ⟨A, c, by rw [← (ha i hi).2]; exact h1, h2, h3, by rw [← (ha i hi).1]; exact h4, fun j u hj => ?_⟩
  obtain ⟨b, off, h6, h7, h8, h9⟩ := h5 j u hj
  exact ⟨b, off, h6, h7, fun k hk => h8 k (hs k b hk), h9⟩
 | gone => trivial
theorem Rel.upto {S S' : List Ow} {r : Env} {w : World} (h : Rel w0 G S r w) {n : Nat} (hn : S'.length = n) (_hnS : n ≤ S.length) (hG : G.fix.length ≤ n) (hS : ∀ (i : Nat) (o : Ow), S'[i]? = some o → o.holds (r.upto n) w i) : Rel w0 G S' (r.upto n) w := by
 refine ⟨h.os, h.tape, h.output, h.size, h.old, hS, fun i j b hi hj => ?_, fun i b hi => ?_, fun i hi => ?_, fun i hi => ?_, fun i g hg => ?_⟩
 ·simp only [Env.upto] at hi hj
  split at hi <;> split at hj <;> first | cases hi | cases hj | exact h.inj i j b hi hj
 ·simp only [Env.upto] at hi
  split at hi
  ·exact h.new i b hi
  ·cases hi
 ·simp only [Env.upto]; rw [if_neg (by omega)]
 ·simp only [Env.upto]; rw [if_neg (by omega)]
 ·simp only [Env.upto]
  have : i < G.fix.length := by
   rcases Nat.lt_or_ge i G.fix.length with h1 | h1
   ·exact h1
   ·rw [List.getElem?_eq_none h1] at hg; cases hg
  rw [if_pos (by omega)]; exact h.first i g hg
theorem allDst_put : ∀ (l : List Oper), allDst N.n l = true → ∀ {f : Fr} {S : List Ow} {a : Act} {w : World} {j : Nat} {pol x : Bool} {Q : Act → World → Prop} {rest : List Oper} {d : Nat}, slotOf ops j = some d → (∀ o ∈ l, o.guard = some (j, pol)) → x ≠ pol → f.get d = one (.bool x) → d ∉ dstsOf l →
  Good w0 G N f S a w → (∀ a', Good w0 G N (putsAny l f) S a' w → seL P ops Q rest a' w) → seL P ops Q (l ++ rest) a w
 | [], _, f, S, a, w, j, pol, x, Q, rest, d, _, _, _, _, _, hg, h => h a hg
 | o :: l, hD, f, S, a, w, j, pol, x, Q, rest, d, hs, hgd, hx, hfx, hnd, hg, h => by
  simp only [allDst] at hD
  split at hD
  ·rename_i ho
   obtain ⟨r, hR, hf, hN, hd⟩ := hg
   refine step_not ?_ ?_
   ·rw [wanted_some (hgd o (List.mem_cons_self ..)), yielded_of hf hs hfx]; simpa using hx
   ·have hnd' : d ∉ dstsOf l ∧ ∀ e, o.dst = some e → d ≠ e := by
     simp only [dstsOf] at hnd
     cases hod : o.dst with
     | none => rw [hod] at hnd; exact ⟨hnd, nofun⟩
     | some e => rw [hod] at hnd; exact ⟨fun h => hnd (List.mem_cons_of_mem _ h), fun e' he => by injection he with he; subst he; rintro rfl; exact hnd (List.mem_cons_self ..)⟩
    refine allDst_put l hD hs (fun o ho => hgd o (List.mem_cons_of_mem _ ho)) hx (f := f.put o.dst (.p (.c .any))) ?_ hnd'.1 ⟨r, hR, hf.putAny undef (by rw [hN]; exact ho), (put_size a _ _).trans hN, (put_defers a _ _).trans hd⟩ h
    cases hod : o.dst with
    | none => simpa [Fr.put, hod] using hfx
    | some e =>
     have := hnd'.2 e hod
     simp only [Fr.put, Fr.get]
     split
     ·rename_i he; exact absurd (Nat.eq_of_beq_eq_true he).symm this
     ·exact hfx
  ·cases hD
theorem pick_run {p : Oper} {d b : Nat} {pol x y : Bool} (hp : pickOf p d pol = some b) {a : Act} (hd : a.eval (.tmp d) = .bool x) (hb : x = pol → a.eval (.tmp b) = .bool y) (w : World) : p.guard = none ∧ (execOp a.eval p).run P w = .ok (.value (.bool (cmb pol x y))) w := by
 unfold pickOf at hp
 split at hp
 ·cases hp
 ·rename_i hg
  refine ⟨hg, ?_⟩
  split at hp
  ·rename_i c b' hop
   split at hp
   ·rename_i hc
    have := Nat.eq_of_beq_eq_true hc; subst this
    split at hp
    ·injection hp with hp; subst hp
     cases x
     ·have e1 : a.eval (.const (.bool false)) = .bool false := rfl
      simp [execOp, hop, hd, asBool, cmb, e1]
     ·simp [execOp, hop, hd, asBool, cmb, hb rfl]
    ·cases hp
   ·cases hp
  ·rename_i c b' hop
   split at hp
   ·rename_i hc
    have := Nat.eq_of_beq_eq_true hc; subst this
    split at hp
    ·injection hp with hp; subst hp
     cases x
     ·simp [execOp, hop, hd, asBool, cmb, hb rfl]
     ·have e1 : a.eval (.const (.bool true)) = .bool true := rfl
      simp [execOp, hop, hd, asBool, cmb, e1]
    ·cases hp
   ·cases hp
  ·cases hp
end
end Go.Proofs.YtnhdcclpjildjaaGreat
