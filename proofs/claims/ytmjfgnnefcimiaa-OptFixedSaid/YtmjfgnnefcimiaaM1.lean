/- The plain functions that this claim's walks show the program to compute: the middle form's operations and blocks, without any program in sight. The words in which this claim's contracts speak of memory: a slice whose cells read as a list, and how such readings are carried over steps that leave old memory alone. How operations and blocks lie in memory. Maps with integer keys that the call makes: block b holds the map that reads as the plain function f. Walks: the small functions on operations, of the program and of the reference. Walks: what an operation reads and writes. Walks: the variables that an operation reads. Walks: small tests on operations and numbers; a list that contains a number. More words on memory: cells of one's own that a call turns. A region that draws its order and ends in a tail whose order is forced: all but the tail walked once, in the world behind the draw. States that are known part by part: what a frame's slots and the blocks of a call's own hold, the rest of memory being as it was. The words. -/
import Derived.Test.YtmjfgnnefcimiaaRows
import Derived.WalkKit
import Derived.WalkSpells
import Derived.WalkLawsBesides
import Derived.BigQuiet
import Derived.BigGuardPart
import Derived.Deep.QuietTactic
import Derived.Deep.Draws
import Derived.StillTailTactics
import Derived.Lib.Hide
import Derived.Maps.AppendAt
import Derived.Deep.AppendLies
import Derived.Maps.OwnSet
import Derived.Maps.RangeWalk
namespace Go.Proofs.Ytmjfgnnefcimiaa

/-- An operation of the middle form. -/
structure BOp where
  code : Int
  d : Int
  a : Int
  b : Int
  n : Int

/-- A block of the middle form. -/
structure Blk where
  at_ : List Int
  pages : List Int
  ops : List BOp

instance : DecidableEq BOp := fun x y =>
  if h : x.code = y.code ∧ x.d = y.d ∧ x.a = y.a ∧ x.b = y.b ∧ x.n = y.n then
    isTrue (by cases x; cases y; simp_all)
  else isFalse (by rintro rfl; exact h ⟨rfl, rfl, rfl, rfl, rfl⟩)
instance : Inhabited BOp := ⟨⟨0, 0, 0, 0, 0⟩⟩
instance : Inhabited Blk := ⟨⟨[], [], []⟩⟩

/-! The table of operations. -/
def isBin (c : Int) : Bool := decide (3 ≤ c ∧ c ≤ 15)
def isOp (c : Int) : Bool := decide (1 ≤ c ∧ c ≤ 25)
def hasD (c : Int) : Bool := decide (1 ≤ c ∧ c ≤ 17)
def hasA (c : Int) : Bool := decide ((2 ≤ c ∧ c ≤ 19) ∨ c = 21 ∨ c = 23 ∨ c = 25)
def hasB (c : Int) : Bool := decide ((3 ≤ c ∧ c ≤ 15) ∨ c = 18 ∨ c = 19)
def hasN (c : Int) : Bool := decide (c = 1 ∨ (16 ≤ c ∧ c ≤ 20) ∨ c = 23 ∨ c = 24)
def leaves (c : Int) : Bool := decide ((16 ≤ c ∧ c ≤ 19) ∨ c = 21 ∨ c = 22)
def stores (c : Int) : Bool := decide (c = 18 ∨ c = 19)
def endsB (c : Int) : Bool := decide (c = 24 ∨ c = 25 ∨ c = 22)

def writes (o : BOp) : Int := if hasD o.code then o.d else -1
def reads (o : BOp) : List Int := (if hasA o.code then [o.a] else []) ++ (if hasB o.code && !(o.b == o.a) then [o.b] else [])

/-- Whether a field holds a variable, or 0 if the operation does not have it. -/
def fieldB (has : Bool) (v : Int) : Bool := if has then decide (0 ≤ v ∧ v < 28 ∧ v ≠ 19) else decide (v = 0)

/-- A field within int64, with room to spare; a word. -/
def mid (x : Int) : Prop := -1099511627776 ≤ x ∧ x ≤ 1099511627776
def word (x : Int) : Prop := 0 ≤ x ∧ x < 4294967296
structure BOp.ok (o : BOp) : Prop where
  code : mid o.code
  d : mid o.d
  a : mid o.a
  b : mid o.b
  n : word o.n
structure Blk.ok (b : Blk) : Prop where
  at_ : ∀ x ∈ b.at_, word x
  pages : ∀ x ∈ b.pages, mid x
  ops : ∀ o ∈ b.ops, o.ok
  lat : b.at_.length ≤ 1000000
  lpages : b.pages.length ≤ 1000000
  lops : b.ops.length ≤ 1000000

def pureB (o : BOp) : Bool := decide (0 ≤ writes o) && !leaves o.code
def twoB (c : Int) : Bool := isBin c || c == 18 || c == 19
/-- Whether guest variables can be observed at an operation. -/
def observesB (o : BOp) : Bool := leaves o.code || o.code == 23 || o.code == 24 || o.code == 25
def signedI (n : Int) : Int := if 2147483648 ≤ n then n - 4294967296 else n
def sizeI (c : Int) : Int := if c == 17 || c == 19 then 1 else 4
def memI (v : Int) (l : List Int) : Bool := l.any fun x => x == v

/-! Words: numbers from 0 to 2^32 - 1. -/
def andI (a b : Int) : Int := ((a.toNat &&& b.toNat : Nat) : Int)
def orI (a b : Int) : Int := ((a.toNat ||| b.toNat : Nat) : Int)
def xorI (a b : Int) : Int := ((a.toNat ^^^ b.toNat : Nat) : Int)
def bitI (x : Bool) : Int := if x then 1 else 0
/-- What an operation from OpAdd to OpLts gives. -/
def wordOp (c a b : Int) : Int :=
  if c = 3 then (a + b) % 4294967296
  else if c = 4 then (a - b) % 4294967296
  else if c = 5 then andI a b
  else if c = 6 then orI a b
  else if c = 7 then xorI a b
  else if c = 8 then a * 2 ^ (b % 32).toNat % 4294967296
  else if c = 9 then a / 2 ^ (b % 32).toNat
  else if c = 10 then signedI a / 2 ^ (b % 32).toNat % 4294967296
  else if c = 11 then a * b % 4294967296
  else if c = 12 then (if b = 0 then 0 else a / b)
  else if c = 13 then bitI (decide (a = b))
  else if c = 14 then bitI (decide (a < b))
  else if c = 15 then bitI (decide (signedI a < signedI b))
  else 0

/-! Validity, as the program checks it: one pass with a state. -/
def pagesFrom : Option Int → List Int → Bool
  | _, [] => true
  | q, p :: l => decide (0 ≤ p ∧ p < 4096) && (match q with | none => true | some q => decide (q < p)) && pagesFrom (some p) l
def headerB (b : Blk) : Bool :=
  pagesFrom none b.pages && decide (1 ≤ b.at_.length ∧ b.at_.length ≤ 64) && decide (1 ≤ b.ops.length ∧ b.ops.length ≤ 2000) && (match b.ops with | [] => false | o :: _ => o.code == 20)
/-- Marks so far; the temporaries written since the last mark, as bits; whether a guest variable or the memory has been written since. -/
structure Ck where
  marks : Nat
  written : Nat
  changed : Bool
def formedB (o : BOp) : Bool := isOp o.code && fieldB (hasD o.code) o.d && fieldB (hasA o.code) o.a && fieldB (hasB o.code) o.b && (hasN o.code || o.n == 0)
def placedB (s : Ck) (o : BOp) (last exit : Bool) : Bool := (endsB o.code == last) && !(o.code == 23 && !exit) && !(leaves o.code && s.changed)
def readB (s : Ck) (v : Int) : Bool := decide (v < 20) || s.written.testBit v.toNat
def ckNext (s : Ck) (o : BOp) (last exit : Bool) : Option Ck :=
  if formedB o && placedB s o last exit then
    if o.code == 20 then (if o.n == (s.marks : Int) then some ⟨s.marks + 1, 0, false⟩ else none)
    else if (reads o).all (readB s) then
      some ⟨s.marks, if 20 ≤ writes o then s.written ||| 2 ^ (writes o).toNat else s.written, s.changed || (stores o.code || decide (0 ≤ writes o ∧ writes o < 20))⟩
    else none
  else none
def ckRun : Ck → List BOp → Option Ck
  | s, [] => some s
  | s, o :: l => match ckNext s o l.isEmpty (match l with | [] => false | p :: _ => p.code == 24) with
    | some s' => ckRun s' l
    | none => none
/-- The program's ir.Valid. -/
def validB (b : Blk) : Bool := headerB b && (match ckRun ⟨0, 0, false⟩ b.ops with | some s => s.marks == b.at_.length | none => false)

end Go.Proofs.Ytmjfgnnefcimiaa
namespace Go.Proofs.Ytmjfgnnefcimiaa
open Go.RowKit

/-- The slice's address A leads to cells that read as xs (one Value a cell), below block B. Of an empty list nothing is asked. -/
def SlAt (w : World) (B : Nat) (A : Option Addr) (xs : List Value) : Prop :=
  ∀ j u, xs[j]? = some u → ∃ b off, A = some ⟨b, off, none⟩ ∧ b < B ∧ w.cell? ⟨b, off + j, none⟩ = some u

section
variable {w w' : World} {B B' : Nat} {A : Option Addr} {xs : List Value}
theorem SlAt.nil : SlAt w B A [] := fun j u h => by simp at h
/-- One address serves all cells. -/
theorem SlAt.open_ (h : SlAt w B A xs) (hx : 0 < xs.length) : ∃ b off, A = some ⟨b, off, none⟩ ∧ b < B ∧ ∀ j u, xs[j]? = some u → w.cell? ⟨b, off + j, none⟩ = some u := by
  obtain ⟨b, off, hA, hb, _⟩ := h 0 xs[0] (List.getElem?_eq_getElem hx)
  refine ⟨b, off, hA, hb, fun j u hj => ?_⟩
  obtain ⟨b', off', hA', _, hc⟩ := h j u hj
  rw [hA] at hA'
  injection hA' with hA'
  injection hA' with h1 h2
  subst h1; subst h2
  exact hc
theorem SlAt.mk_ {b off : Nat} (hb : b < B) (h : ∀ j u, xs[j]? = some u → w.cell? ⟨b, off + j, none⟩ = some u) : SlAt w B (some ⟨b, off, none⟩) xs :=
  fun j u hj => ⟨b, off, rfl, hb, h j u hj⟩
theorem SlAt.keep (h : SlAt w B A xs) (hk : ∀ p : Addr, p.block < B → w'.cell? p = w.cell? p) : SlAt w' B A xs := fun j u hj => by
  obtain ⟨b, off, hA, hb, hc⟩ := h j u hj
  exact ⟨b, off, hA, hb, (hk _ hb).trans hc⟩
theorem SlAt.more (h : SlAt w B A xs) (hB : B ≤ B') : SlAt w B' A xs := fun j u hj => by
  obtain ⟨b, off, hA, hb, hc⟩ := h j u hj
  exact ⟨b, off, hA, by omega, hc⟩
theorem SlAt.below {B1 : Nat} (h : SlAt w B A xs) (hb : Below B1 w w') (hB : B ≤ B1) : SlAt w' B A xs := h.keep fun _ hp => hb.cell (by omega)
theorem SlAt.drew (h : SlAt w B A xs) : SlAt w.drew B A xs := h
theorem SlAt.drewN (h : SlAt w B A xs) (k : Nat) : SlAt (w.drewN k) B A xs := h
theorem SlAt.alloc (h : SlAt w B A xs) (hB : B ≤ w.heap.size) (o : Obj) : SlAt (w.alloc o) B A xs := h.keep fun p hp => World.cell?_alloc_lt w o p (by omega)
theorem SlAt.setCell (h : SlAt w B A xs) {p : Addr} (hB : B ≤ p.block) (u : Value) : SlAt (w.setCell p u) B A xs :=
  h.keep fun q hq => World.cell?_setCell_other w p q u (fun e => by subst e; omega)
theorem SlAt.of_own {base : Nat} {e : TypeId} {n c size : Nat} (h : w.ownsRow base e size (.slice A n c) n xs) : SlAt w w.heap.size A xs := by
  intro j u hj
  rcases h.2 with ⟨h0, hx⟩ | ⟨g, cap, cur, hv, _, hh, _⟩
  · have hl := h.1
    rw [hx, Nat.zero_mul] at hl
    rw [List.eq_nil_of_length_eq_zero hl] at hj
    simp at hj
  · have hA : A = some ⟨g, 0, none⟩ := by injection hv
    subst hA
    have hlt : g < w.heap.size := by
      rcases Nat.lt_or_ge g w.heap.size with h1 | h1
      · exact h1
      · rw [Array.getElem?_eq_none h1] at hh; cases hh
    have := h.cells (g := g) rfl j u hj
    refine ⟨g, 0, rfl, hlt, ?_⟩
    unfold Addr.add at this
    by_cases h0 : j = 0
    · subst h0; simpa using this
    · simpa [h0] using this
end

/-- What a row of the call's own is as a slice. -/
theorem own_slice {w : World} {base : Nat} {e : TypeId} {size n : Nat} {v : Value} {xs : List Value} (h : w.ownsRow base e size v n xs) :
    ∃ A c, v = .slice A n c ∧ SlAt w w.heap.size A xs ∧ n ≤ c ∧ c ≤ maxLen ∧ xs.length = n * size := by
  have hl := h.1
  rcases h.2 with ⟨h0, hn⟩ | ⟨g, cap, cur, hv, hg, hh, hnc, hcm, r⟩
  · subst hn
    refine ⟨none, 0, h0, ?_, Nat.le_refl _, by simp [maxLen], hl⟩
    rw [Nat.zero_mul] at hl
    rw [List.eq_nil_of_length_eq_zero hl]
    exact SlAt.nil
  · subst hv
    exact ⟨_, _, rfl, SlAt.of_own h, hnc, hcm, hl⟩

theorem own_base {w : World} {base base' : Nat} {e : TypeId} {size n : Nat} {v : Value} {xs : List Value} (h : w.ownsRow base e size v n xs) (hb : base' ≤ base) : w.ownsRow base' e size v n xs := by
  obtain ⟨h1, h2⟩ := h
  rcases h2 with h2 | ⟨g, cap, cur, hv, hg, r⟩
  · exact ⟨h1, .inl h2⟩
  · exact ⟨h1, .inr ⟨g, cap, cur, hv, Nat.le_trans hb hg, r⟩⟩
theorem own_is {w : World} {base base' : Nat} {e : TypeId} {size n n' : Nat} {v : Value} {xs xs' : List Value} (h : w.ownsRow base e size v n xs) (hb : base' ≤ base) (hn : n = n') (hx : xs = xs') : w.ownsRow base' e size v n' xs' := by
  subst hn; subst hx; exact own_base h hb

/-- A row of the call's own turned by an append: below its base nothing has. -/
theorem grown_below {w w' : World} {base : Nat} {e : TypeId} {size n : Nat} {v : Value} {xs : List Value} (hown : w.ownsRow base e size v n xs) (hg : w.grownBy w' v.ownBlock) (hbase : base ≤ w.heap.size) : Below base w w' :=
  (Below.refl _ _).grown hg hbase fun k hk => (hown.lt k hk).1

/-- 'append(s, x..)' onto a row of the call's own, what is appended lying in the block that was laid last. -/
theorem wpList_app {P : Program} {W : World} {ops : Array Oper} {rest : List Oper} {o : Oper} {a : Act} {Q : Exit → Act → World → Prop} (hgd : o.guard = none) (s x : Operand) (t : TypeId)
    (ho : o.op = .call { callee := .builtin .append, args := #[s, x], argTypes := #[t, t] })
    (base : Nat) (e : TypeId) (z : Value) (size bytes : Nat) (ht : P.underlying t = some (.slice e)) (hi : (P.info? e).map (fun i => (i.zero, i.size, i.bytes)) = some (some z, size, bytes))
    (hzs : z.cells.size = size) (hsz : 0 < size)
    (v : Value) (n : Nat) (xs : List Value) (hs : a.eval s = v) (hown : W.ownsRow base e size v n xs)
    (cs : Array Value) (te : TypeId) (m N : Nat) (hx : a.eval x = .slice (some ⟨N, 0, none⟩) m m) (hN : W.heap.size = N) (hl : cs.size = m * size) (h1 : ∀ u ∈ cs.toList, u.oneCell' = true)
    (h63 : n + m ≤ 1000000000) (hb : bytes ≤ 100000) (hbase : base ≤ N)
    (h : ∀ v' w', w'.ownsRow base e size v' (n + m) (xs ++ cs.toList) → Below base W w' → N < w'.heap.size → wpList P ops Q rest (a.put o.dst v') w') :
    wpList P ops Q (o :: rest) a (W.alloc (.cells cs te)) := by
  subst hN
  obtain ⟨i, hi, hz, hz1, hz2⟩ := info_parts hi
  have hm : (n + m) * bytes ≤ 1000000000 * 100000 := Nat.mul_le_mul h63 hb
  refine wpList_append_own_at (W.alloc (.cells cs te)) hgd s x t ho base e i z size bytes ht hi hz hz1 hz2 hzs hsz v n xs hs (hown.alloc _) ⟨W.heap.size, 0, none⟩ m m cs.toList hx (by simpa using hl)
    (World.news_of_block (heap_alloc_new W _)) h1 (by unfold maxLen; omega) (by omega) (by simp; omega) ?_
  intro v' w' hown' hg _ _
  have hb' : Below base W w' := ((Below.refl _ _).alloc hbase _).trans (grown_below (hown.alloc _) hg (by simp; omega))
  refine h v' w' hown' hb' ?_
  have := hg.size
  simp at this
  omega

/-- Below, said of cells and marks: two rules that the walk uses by itself. -/
theorem bcell {W w1 : World} (hb : Below W.heap.size W w1) : (∀ b o, b < W.heap.size → w1.cell? ⟨b, o, none⟩ = W.cell? ⟨b, o, none⟩) ∧ (∀ b o, b < W.heap.size → w1.frozen? ⟨b, o, none⟩ = W.frozen? ⟨b, o, none⟩) :=
  ⟨fun b o h => hb.cell (p := ⟨b, o, none⟩) h, fun b o h => hb.frozen (p := ⟨b, o, none⟩) h⟩

theorem below_drewN {B : Nat} {a w : World} (h : Below B a w) (n : Nat) : Below B a (w.drewN n) := ⟨h.os, h.tape, h.output, h.size, h.block⟩

/-- Behind a call that leaves alone what lay there. -/
theorem below_call {B B1 : Nat} {w W w1 : World} (h : Below B w W) (hb : Below B1 W w1) (hB : B ≤ B1) : Below B w w1 := h.trans (hb.mono hB)

/-- What is known of cells below a bound of one's own choice. -/
theorem bcellAt {B : Nat} {W w1 : World} (hb : Below B W w1) : (∀ b o, b < B → w1.cell? ⟨b, o, none⟩ = W.cell? ⟨b, o, none⟩) ∧ (∀ b o, b < B → w1.frozen? ⟨b, o, none⟩ = W.frozen? ⟨b, o, none⟩) :=
  ⟨fun b o h => hb.cell (p := ⟨b, o, none⟩) h, fun b o h => hb.frozen (p := ⟨b, o, none⟩) h⟩

/-! Only block g, and what is new, has turned. -/
theorem only_refl (w : World) (g : Nat) : w.grownBy w (some g) := World.grownBy.refl w _
theorem only_drewN {a w : World} {row : Option Nat} (h : a.grownBy w row) (n : Nat) : a.grownBy (w.drewN n) row := ⟨h.os, h.tape, h.output, h.size, h.block⟩
theorem only_drew {a w : World} {row : Option Nat} (h : a.grownBy w row) : a.grownBy w.drew row := ⟨h.os, h.tape, h.output, h.size, h.block⟩
theorem only_alloc {a w : World} {row : Option Nat} (h : a.grownBy w row) (o : Obj) : a.grownBy (w.alloc o) row :=
  ⟨h.os, h.tape, h.output, Nat.le_trans h.size (by simp), fun i hi hne => (Below.heap_alloc w o i (Nat.lt_of_lt_of_le hi h.size)).trans (h.block i hi hne)⟩
theorem only_setCell {a w : World} {g : Nat} (h : a.grownBy w (some g)) {p : Addr} (hp : p.block = g ∨ a.heap.size ≤ p.block) (u : Value) : a.grownBy (w.setCell p u) (some g) :=
  ⟨h.os, h.tape, h.output, by simpa [World.setCell] using h.size, fun i hi hne => (Below.heap_setCell w p u i (by
    rintro rfl
    rcases hp with hp | hp
    · exact hne (by rw [hp])
    · omega)).trans (h.block i hi hne)⟩
theorem only_below {a w w1 : World} {row : Option Nat} {B : Nat} (h : a.grownBy w row) (hb : Below B w w1) (hB : a.heap.size ≤ B) : a.grownBy w1 row :=
  ⟨hb.os.trans h.os, hb.tape.trans h.tape, hb.output.trans h.output, Nat.le_trans h.size hb.size, fun i hi hn => (hb.block i (Nat.lt_of_lt_of_le hi hB)).trans (h.block i hi hn)⟩

/-! A block that is known whole. -/
section
variable {w w' : World} {g : Nat} {t : TypeId} {cs : Array Value}
def RowIs (w : World) (g : Nat) (t : TypeId) (cs : Array Value) : Prop := w.heap[g]? = some (.cells cs t (0, 0))
theorem RowIs.lt (h : RowIs w g t cs) : g < w.heap.size := by
  rcases Nat.lt_or_ge g w.heap.size with hlt | hge
  · exact hlt
  · unfold RowIs at h; rw [Array.getElem?_eq_none hge] at h; cases h
theorem RowIs.cell (h : RowIs w g t cs) (i : Nat) : w.cell? ⟨g, i, none⟩ = cs[i]? := cell_of_row w g i cs t (0, 0) h
theorem RowIs.frozen (h : RowIs w g t cs) (i : Nat) : w.frozen? ⟨g, i, none⟩ = false := by
  unfold RowIs at h
  simp [World.frozen?, h]
theorem RowIs.new (w : World) (t : TypeId) (cs : Array Value) : RowIs (w.alloc (.cells cs t)) w.heap.size t cs := heap_alloc_new w _
theorem RowIs.drew (h : RowIs w g t cs) : RowIs w.drew g t cs := h
theorem RowIs.drewN (h : RowIs w g t cs) (n : Nat) : RowIs (w.drewN n) g t cs := h
theorem RowIs.alloc (h : RowIs w g t cs) (o : Obj) : RowIs (w.alloc o) g t cs := (Below.heap_alloc w o g h.lt).trans h
theorem RowIs.set_ (h : RowIs w g t cs) (i : Nat) (u : Value) : RowIs (w.setCell ⟨g, i, none⟩ u) g t (cs.setIfInBounds i u) := by
  unfold RowIs at h ⊢
  simp [World.setCell, Array.getElem?_modify, h]
theorem RowIs.far (h : RowIs w g t cs) {p : Addr} (hp : g ≠ p.block) (u : Value) : RowIs (w.setCell p u) g t cs := (Below.heap_setCell w p u g hp).trans h
theorem RowIs.below {B : Nat} (h : RowIs w g t cs) (hb : Below B w w') (hg : g < B) : RowIs w' g t cs := (hb.block g hg).trans h
end

/-- Cells of block g that may be written. -/
def Has (w : World) (g : Nat) (cs : List Value) : Prop := ∀ i u, cs[i]? = some u → w.cell? ⟨g, i, none⟩ = some u ∧ w.frozen? ⟨g, i, none⟩ = false
theorem Has.at_ {w : World} {g : Nat} {cs : List Value} (h : Has w g cs) (i : Nat) (u : Value) (hu : cs[i]? = some u) : w.cell? ⟨g, i, none⟩ = some u ∧ w.frozen? ⟨g, i, none⟩ = false := h i u hu
theorem has1 {w : World} {g : Nat} {a : Value} (h0 : w.cell? ⟨g, 0, none⟩ = some a) (f0 : w.frozen? ⟨g, 0, none⟩ = false) : Has w g [a] := by
  intro i u hu
  match i, hu with
  | 0, hu => simp at hu; subst hu; exact ⟨h0, f0⟩
theorem has3 {w : World} {g : Nat} {a b c : Value} (h0 : w.cell? ⟨g, 0, none⟩ = some a) (h1 : w.cell? ⟨g, 1, none⟩ = some b) (h2 : w.cell? ⟨g, 2, none⟩ = some c)
    (f0 : w.frozen? ⟨g, 0, none⟩ = false) (f1 : w.frozen? ⟨g, 1, none⟩ = false) (f2 : w.frozen? ⟨g, 2, none⟩ = false) : Has w g [a, b, c] := by
  intro i u hu
  match i, hu with
  | 0, hu => simp at hu; subst hu; exact ⟨h0, f0⟩
  | 1, hu => simp at hu; subst hu; exact ⟨h1, f1⟩
  | 2, hu => simp at hu; subst hu; exact ⟨h2, f2⟩
theorem Has.below {w w' : World} {g B : Nat} {cs : List Value} (h : Has w g cs) (hb : Below B w w') (hg : g < B) : Has w' g cs := fun i u hu =>
  ⟨(hb.cell (p := ⟨g, i, none⟩) hg).trans (h i u hu).1, (hb.frozen (p := ⟨g, i, none⟩) hg).trans (h i u hu).2⟩
theorem Has.lt {w : World} {g : Nat} {a : Value} {cs : List Value} (h : Has w g (a :: cs)) : g < w.heap.size := by
  have := (h 0 a rfl).1
  rcases Nat.lt_or_ge g w.heap.size with hlt | hge
  · exact hlt
  · simp [World.cell?, Array.getElem?_eq_none hge] at this

/-- The world under a name, known by its cells alone: ahead of a loop. -/
theorem wp_world {P : Program} {c : Code} {Q : Exit → Act → World → Prop} {a : Act} {w : World}
    (h : ∀ W : World, (∀ p, W.cell? p = w.cell? p) → (∀ p, W.frozen? p = w.frozen? p) → W.heap.size = w.heap.size → (∀ B u, Below B u w → Below B u W) → c.wp P Q a W) : c.wp P Q a w :=
  h w (fun _ => rfl) (fun _ => rfl) rfl fun _ _ h => h

theorem ret_int {k : IntKind} {a b : Int} (h : a = b) : Ending.returned (.int k a) = .returned (.int k b) := by rw [h]
theorem ret_bool {a b : Bool} (h : a = b) : Ending.returned (.bool a) = .returned (.bool b) := by rw [h]

end Go.Proofs.Ytmjfgnnefcimiaa
namespace Go.Proofs.Ytmjfgnnefcimiaa
open Go.RowKit

abbrev opV (o : BOp) : Value := .agg #[.int .i64 o.code, .int .i64 o.d, .int .i64 o.a, .int .i64 o.b, .int .u32 o.n]
def opC (o : BOp) : List Value := [.int .i64 o.code, .int .i64 o.d, .int .i64 o.a, .int .i64 o.b, .int .u32 o.n]

theorem opC_length (o : BOp) : (opC o).length = 5 := rfl
theorem flat_length : ∀ l : List BOp, (l.flatMap opC).length = l.length * 5
  | [] => rfl
  | o :: l => by rw [List.flatMap_cons, List.length_append, flat_length l, opC_length, List.length_cons]; omega
theorem flat_at : ∀ (l : List BOp) (k j : Nat) (o : BOp), l[k]? = some o → j < 5 → (l.flatMap opC)[k * 5 + j]? = (opC o)[j]?
  | [], k, j, o, h, _ => by simp at h
  | x :: l, 0, j, o, h, hj => by
    simp at h; subst h
    rw [List.flatMap_cons, List.getElem?_append_left (by rw [opC_length]; omega)]
    simp
  | x :: l, k + 1, j, o, h, hj => by
    rw [List.flatMap_cons, List.getElem?_append_right (by rw [opC_length]; omega), opC_length, show (k + 1) * 5 + j - 5 = k * 5 + j by omega]
    exact flat_at l k j o (by simpa using h) hj

/-- The operations of a slice, cell by cell. -/
def OpsAt (w : World) (B : Nat) (A : Option Addr) (l : List BOp) : Prop := SlAt w B A (l.flatMap opC)

theorem OpsAt.open_ {w : World} {B : Nat} {A : Option Addr} {l : List BOp} (h : OpsAt w B A l) (hx : 0 < l.length) :
    ∃ b off, A = some ⟨b, off, none⟩ ∧ b < B ∧ ∀ k o, l[k]? = some o →
      w.cell? ⟨b, off + k * 5, none⟩ = some (.int .i64 o.code) ∧ w.cell? ⟨b, off + k * 5 + 1, none⟩ = some (.int .i64 o.d) ∧ w.cell? ⟨b, off + k * 5 + 2, none⟩ = some (.int .i64 o.a) ∧
      w.cell? ⟨b, off + k * 5 + 3, none⟩ = some (.int .i64 o.b) ∧ w.cell? ⟨b, off + k * 5 + 4, none⟩ = some (.int .u32 o.n) := by
  obtain ⟨b, off, hA, hb, hc⟩ := SlAt.open_ h (by rw [flat_length]; omega)
  refine ⟨b, off, hA, hb, fun k o hk => ?_⟩
  have g := fun j hj => flat_at l k j o hk hj
  refine ⟨?_, ?_, ?_, ?_, ?_⟩
  · have := hc (k * 5 + 0) _ (g 0 (by omega)); simpa using this
  · have := hc (k * 5 + 1) _ (g 1 (by omega)); simpa [Nat.add_assoc] using this
  · have := hc (k * 5 + 2) _ (g 2 (by omega)); simpa [Nat.add_assoc] using this
  · have := hc (k * 5 + 3) _ (g 3 (by omega)); simpa [Nat.add_assoc] using this
  · have := hc (k * 5 + 4) _ (g 4 (by omega)); simpa [Nat.add_assoc] using this

/-- An element of a slice of integers, where it lies. -/
theorem ints_at {w : World} {B : Nat} {A : Option Addr} {q : IntKind} {xs : List Int} (h : SlAt w B A (xs.map (.int q))) {k : Nat} (hk : k < xs.length) :
    ∃ b off x, A = some ⟨b, off, none⟩ ∧ b < B ∧ xs[k]? = some x ∧ w.cell? ⟨b, off + k, none⟩ = some (.int q x) := by
  obtain ⟨b, off, hA, hb, hc⟩ := h.open_ (by simpa using Nat.lt_of_le_of_lt (Nat.zero_le _) hk)
  exact ⟨b, off, xs[k], hA, hb, List.getElem?_eq_getElem hk, hc k _ (by simp [List.getElem?_eq_getElem hk])⟩
/-- An operation of a slice, where it lies. -/
theorem ops_at {w : World} {B : Nat} {A : Option Addr} {l : List BOp} (h : OpsAt w B A l) {k : Nat} (hk : k < l.length) :
    ∃ b off o, A = some ⟨b, off, none⟩ ∧ b < B ∧ l[k]? = some o ∧
      w.cell? ⟨b, off + k * 5, none⟩ = some (.int .i64 o.code) ∧ w.cell? ⟨b, off + k * 5 + 1, none⟩ = some (.int .i64 o.d) ∧ w.cell? ⟨b, off + k * 5 + 2, none⟩ = some (.int .i64 o.a) ∧
      w.cell? ⟨b, off + k * 5 + 3, none⟩ = some (.int .i64 o.b) ∧ w.cell? ⟨b, off + k * 5 + 4, none⟩ = some (.int .u32 o.n) := by
  obtain ⟨b, off, hA, hb, hc⟩ := h.open_ (Nat.lt_of_le_of_lt (Nat.zero_le _) hk)
  exact ⟨b, off, l[k], hA, hb, List.getElem?_eq_getElem hk, hc k _ (List.getElem?_eq_getElem hk)⟩

/-- A block as a value: three slices that read as its lists. -/
def BlkIs (w : World) (B : Nat) (v : Value) (b : Blk) : Prop :=
  ∃ A1 c1 A2 c2 A3 c3, v = .agg #[.slice A1 b.at_.length c1, .slice A2 b.pages.length c2, .slice A3 b.ops.length c3] ∧
    SlAt w B A1 (b.at_.map (.int .u32)) ∧ SlAt w B A2 (b.pages.map (.int .i64)) ∧ OpsAt w B A3 b.ops ∧
    b.at_.length ≤ c1 ∧ b.pages.length ≤ c2 ∧ b.ops.length ≤ c3 ∧ c1 ≤ maxLen ∧ c2 ≤ maxLen ∧ c3 ≤ maxLen

theorem BlkIs.keep {w w' : World} {B : Nat} {v : Value} {b : Blk} (h : BlkIs w B v b) (hk : ∀ p : Addr, p.block < B → w'.cell? p = w.cell? p) : BlkIs w' B v b := by
  obtain ⟨A1, c1, A2, c2, A3, c3, hv, h1, h2, h3, hr⟩ := h
  exact ⟨A1, c1, A2, c2, A3, c3, hv, h1.keep hk, h2.keep hk, SlAt.keep h3 hk, hr⟩
theorem BlkIs.more {w : World} {B B' : Nat} {v : Value} {b : Blk} (h : BlkIs w B v b) (hB : B ≤ B') : BlkIs w B' v b := by
  obtain ⟨A1, c1, A2, c2, A3, c3, hv, h1, h2, h3, hr⟩ := h
  exact ⟨A1, c1, A2, c2, A3, c3, hv, h1.more hB, h2.more hB, SlAt.more h3 hB, hr⟩
theorem BlkIs.below {w w' : World} {B B1 : Nat} {v : Value} {b : Blk} (h : BlkIs w B v b) (hb : Below B1 w w') (hB : B ≤ B1) : BlkIs w' B v b := h.keep fun _ hp => hb.cell (by omega)

end Go.Proofs.Ytmjfgnnefcimiaa
namespace Go.Proofs.Ytmjfgnnefcimiaa
open Go.RowKit
open Go.Maps (Keyed)

theorem law_int : Keyed Try.prog 3 := Maps.int_keyed Try.underlying3
theorem key_int {a : Int} (hw : (Lit.int .i64 a).wf = true) : keyOf Try.prog 3 (.int .i64 a) = some (.int .i64 a) := Maps.keyOf_int_mk Try.underlying3 hw

theorem wf_mid {x : Int} (h : mid x) : (Lit.int .i64 x).wf = true := WalkArith.wf_i64 (by unfold mid at h; omega)
theorem wf_word {x : Int} (h : word x) : (Lit.int .u32 x).wf = true := WalkArith.wf_u32 (by unfold word at h; omega)

/-- How a map's elements are laid: the value of a number, and how it reads. -/
structure Elems (R : Value → Option (DataW Unit × List MemPlace)) (mk : Int → Value) (cd : Int → DataW Unit) (good : Int → Prop) : Prop where
  to : ∀ x, good x → R (mk x) = some (cd x, [])
  from_ : ∀ v x ps, R v = some (cd x, ps) → v = mk x

def IMap (R : Value → Option (DataW Unit × List MemPlace)) (cd : Int → DataW Unit) (w : World) (b n : Nat) (f : Int → Option Int) : Prop :=
  ∃ D : DataW Unit, w.ownsMap Try.prog 3 R b n D ∧ ∀ k, (Lit.int .i64 k).wf = true → Maps.has D (.int .i64 k) = (f k).isSome ∧ ∀ z, D.atKey (.int .i64 k) z = ((f k).map cd).getD z

def mput (f : Int → Option Int) (k x : Int) : Int → Option Int := fun j => if j = k then some x else f j
def mdel (f : Int → Option Int) (k : Int) : Int → Option Int := fun j => if j = k then none else f j

theorem lit_ne {j k : Int} (h : j ≠ k) : (Lit.int .i64 j) ≠ (Lit.int .i64 k) := fun e => h (by injection e)
theorem isKey {k : Int} (_hw : (Lit.int .i64 k).wf = true) : WideAt.IsKeyLit (.int .i64 k) := by
  first | trivial | simp [WideAt.IsKeyLit] | exact hw

section
variable {R : Value → Option (DataW Unit × List MemPlace)} {mk : Int → Value} {cd : Int → DataW Unit} {good : Int → Prop} {w w' : World} {b n : Nat} {f : Int → Option Int}

theorem IMap.made (w : World) : IMap R cd (w.alloc (.map #[] 0)) w.heap.size 0 (fun _ => none) :=
  ⟨.map [], World.ownsMap_made _ _ _ _, fun _k _ => ⟨rfl, fun _z => rfl⟩⟩
theorem IMap.lt (h : IMap R cd w b n f) : b < w.heap.size := by obtain ⟨D, h, _⟩ := h; exact h.lt
theorem IMap.mono {n' : Nat} (h : IMap R cd w b n f) (hn : n ≤ n') : IMap R cd w b n' f := by obtain ⟨D, h, hf⟩ := h; exact ⟨D, h.mono hn, hf⟩
theorem IMap.below {B : Nat} (h : IMap R cd w b n f) (hb : Below B w w') (hB : b < B) : IMap R cd w' b n f := by
  obtain ⟨D, ⟨es, clock, hh, r⟩, hf⟩ := h
  exact ⟨D, ⟨es, clock, (hb.block b hB).trans hh, r⟩, hf⟩
theorem IMap.block (h : IMap R cd w b n f) (hb : w'.heap[b]? = w.heap[b]?) : IMap R cd w' b n f := by
  obtain ⟨D, ⟨es, clock, hh, r⟩, hf⟩ := h
  exact ⟨D, ⟨es, clock, hb.trans hh, r⟩, hf⟩
theorem IMap.alloc (h : IMap R cd w b n f) (o : Obj) : IMap R cd (w.alloc o) b n f := h.block (Below.heap_alloc w o b h.lt)
theorem IMap.setCell (h : IMap R cd w b n f) {a : Addr} (ha : b ≠ a.block) (u : Value) : IMap R cd (w.setCell a u) b n f := h.block (Below.heap_setCell w a u b ha)
theorem IMap.drewN (h : IMap R cd w b n f) (k : Nat) : IMap R cd (w.drewN k) b n f := h
theorem IMap.drew (h : IMap R cd w b n f) : IMap R cd w.drew b n f := h
theorem IMap.is {f' : Int → Option Int} (h : IMap R cd w b n f) (hf : ∀ k, f k = f' k) : IMap R cd w b n f' := by rw [← funext hf]; exact h

/-- 'm[k] = x'. -/
theorem IMap.put (h : IMap R cd w b n f) (E : Elems R mk cd good) {t e : TypeId} (ht : Try.prog.underlying t = some (.map 3 e)) (hn : n < 1000000) {k x : Int} (hk : (Lit.int .i64 k).wf = true) (hx : good x) :
    ∃ w', (Instr.mapUpdate t (.map (some b)) (.int .i64 k) (mk x)).run Try.prog w = .ok () w' ∧ IMap R cd w' b (n + 1) (mput f k x) ∧ w.grownBy w' (some b) := by
  obtain ⟨D, h, hf⟩ := h
  obtain ⟨w', hr, h', hg⟩ := h.update law_int ht (by unfold maxLen; omega) (key_int hk) (E.to x hx)
  have hm := h.isMap
  refine ⟨w', hr, ⟨_, h', fun j hj => ?_⟩, hg⟩
  by_cases hjk : j = k
  · subst hjk
    exact ⟨by rw [Maps.has_put_same hm (isKey hj)]; simp [mput], fun z => by rw [Maps.atKey_put_same hm (isKey hj)]; simp [mput]⟩
  · exact ⟨by rw [Maps.has_put_other (lit_ne hjk)]; simp [mput, hjk, (hf j hj).1], fun z => by rw [Maps.atKey_put_other (lit_ne hjk)]; simp [mput, hjk, (hf j hj).2 z]⟩

/-- 'delete(m, k)'. -/
theorem IMap.del (h : IMap R cd w b n f) {t e : TypeId} (ht : Try.prog.underlying t = some (.map 3 e)) (ty : TypeId) {k : Int} (hk : (Lit.int .i64 k).wf = true) :
    ∃ w', (Builtin.delete_ #[t, 3] ty #[.map (some b), .int .i64 k]).run Try.prog w = .ok (.tuple #[]) w' ∧ IMap R cd w' b n (mdel f k) ∧ w.grownBy w' (some b) := by
  obtain ⟨D, h, hf⟩ := h
  obtain ⟨w', hr, h', hg⟩ := h.drop law_int ht (key_int hk) ty
  refine ⟨w', hr, ⟨_, h', fun j hj => ?_⟩, hg.grown⟩
  by_cases hjk : j = k
  · subst hjk
    exact ⟨by rw [Maps.has_del_same]; simp [mdel], fun z => by rw [Maps.atKey_del_same]; simp [mdel]⟩
  · exact ⟨by rw [Maps.has_del_other (lit_ne hjk)]; simp [mdel, hjk, (hf j hj).1], fun z => by rw [Maps.atKey_del_other (lit_ne hjk)]; simp [mdel, hjk, (hf j hj).2 z]⟩

/-- 'x, ok := m[k]'. -/
theorem IMap.look (h : IMap R cd w b n f) (E : Elems R mk cd good) {t e : TypeId} (ht : Try.prog.underlying t = some (.map 3 e)) {z : Value} {_x0 : Int} (hz : (zeroValue e).run Try.prog w = .ok z w) {zd : DataW Unit} (hzd : R z = some (zd, [])) (hzi : ∀ v ps, R v = some (zd, ps) → v = z) {k : Int} (hk : (Lit.int .i64 k).wf = true) :
    (Instr.lookup t (.map (some b)) (.int .i64 k) true).run Try.prog w = .ok (.tuple #[((f k).map mk).getD z, .bool (f k).isSome]) w := by
  obtain ⟨D, h, hf⟩ := h
  obtain ⟨v, ps, hr, hv⟩ := h.look_ok law_int ht hz hzd (key_int hk)
  obtain ⟨h1, h2⟩ := hf k hk
  rw [hr, h1]
  rw [h2 zd] at hv
  cases hfk : f k with
  | none =>
    rw [hfk] at hv
    have := hzi v ps hv
    subst this
    rfl
  | some x =>
    rw [hfk] at hv
    have := E.from_ v x ps hv
    subst this
    rfl
end
end Go.Proofs.Ytmjfgnnefcimiaa
namespace Go.Proofs.Ytmjfgnnefcimiaa
open Go.RowKit

set_option maxHeartbeats 400000 in
theorem shapeOf_any (c : Int) (w : World) :
    Calls Try.prog 73 #[.int .i64 c] w fun e w' => e = .returned (.tuple #[.agg #[.bool (hasD c), .bool (hasA c), .bool (hasB c), .bool (hasN c), .bool (leaves c), .bool (stores c)], .bool (isOp c)]) ∧ Below w.heap.size w w' := by
  go_enter Try.func73, Try.ntmps73
  go_wp2
  all_goals
   refine bodyPost_ret (v := .tuple #[.agg #[.bool (hasD c), .bool (hasA c), .bool (hasB c), .bool (hasN c), .bool (leaves c), .bool (stores c)], .bool (isOp c)]) ?_ rfl ⟨rfl, ?_⟩
  all_goals first
   | exact (((Below.refl _ _).alloc (Nat.le_refl _) _))
   | (simp only [results, Try.results73]; simp [go_sem]; simp [hasD, hasA, hasB, hasN, leaves, stores, isOp] at *; try omega)
  all_goals (repeat' apply And.intro)
  all_goals (first | omega | (rw [Bool.eq_iff_iff]; simp; omega))

set_option maxHeartbeats 400000 in
theorem shapeOf_ref (c : Int) (w : World) :
    Calls Try.prog 78 #[.int .i64 c] w fun e w' => e = .returned (.agg #[.bool (isOp c), .bool (hasD c), .bool (hasA c), .bool (hasB c), .bool (hasN c), .bool (leaves c)]) ∧ Below w.heap.size w w' := by
  go_enter Try.func78, Try.ntmps78
  go_wp2
  all_goals
   refine bodyPost_ret (v := .agg #[.bool (isOp c), .bool (hasD c), .bool (hasA c), .bool (hasB c), .bool (hasN c), .bool (leaves c)]) ?_ rfl ⟨rfl, ?_⟩
  all_goals first
   | exact (((Below.refl _ _).alloc (Nat.le_refl _) _))
   | (simp only [results, Try.results78]; simp [go_sem]; simp [hasD, hasA, hasB, hasN, leaves, isOp] at *; try omega)
  all_goals (repeat' apply And.intro)
  all_goals (first | omega | (rw [Bool.eq_iff_iff]; simp; omega))
end Go.Proofs.Ytmjfgnnefcimiaa
namespace Go.Proofs.Ytmjfgnnefcimiaa
open Go.RowKit

set_option maxRecDepth 100000 in
set_option maxHeartbeats 400000 in
theorem writes_ir (o : BOp) (w : World) :
    Calls Try.prog 40 #[opV o] w fun e w' => e = .returned (.int .i64 (writes o)) ∧ Below w.heap.size w w' := by
  unfold opV
  go_enter Try.func40, Try.ntmps40
  go_wp2_with (go_at_call 73; refine (shapeOf_any _ _).mono ?_; rintro e w1 ⟨rfl, hb1⟩; obtain ⟨hc1, hf1⟩ := bcell hb1; have hz1 := hb1.size; try simp only [World.size_alloc] at hz1; have hy1_0 : w.heap.size < w1.heap.size := (by omega); have hc1_0 := fun o => hc1 (w.heap.size) o (by first | omega | (simp; done) | (simp; omega)); have hf1_0 := fun o => hf1 (w.heap.size) o (by first | omega | (simp; done) | (simp; omega)))
  all_goals go_ret
  all_goals exact ⟨by simp [writes, *], (by repeat (first | exact Below.refl _ _ | assumption | (with_reducible refine Below.drew ?_) | (with_reducible refine below_drewN ?_ _) | (with_reducible refine Below.alloc ?_ (by first | exact Nat.le_refl _ | assumption | (simp; done) | (simp; omega) | omega) _) | (with_reducible refine Below.setCell ?_ (by first | exact Nat.le_refl _ | assumption | (simp; done) | (simp; omega) | omega) _) | (with_reducible refine below_call ?_ (by assumption) (by first | exact Nat.le_refl _ | assumption | (simp; done) | (simp; omega) | omega)) | (with_reducible refine below_only ?_ (by assumption) (by first | exact Nat.le_refl _ | assumption | (simp; done) | (simp; omega) | omega) (by first | exact Nat.le_refl _ | assumption | (simp; done) | (simp; omega) | omega))))⟩

set_option maxRecDepth 100000 in
set_option maxHeartbeats 400000 in
theorem writes_ref (o : BOp) (w : World) :
    Calls Try.prog 81 #[opV o] w fun e w' => e = .returned (.int .i64 (writes o)) ∧ Below w.heap.size w w' := by
  unfold opV
  go_enter Try.func81, Try.ntmps81
  go_wp2_with (go_at_call 78; refine (shapeOf_ref _ _).mono ?_; rintro e w1 ⟨rfl, hb1⟩; obtain ⟨hc1, hf1⟩ := bcell hb1; have hz1 := hb1.size; try simp only [World.size_alloc] at hz1; have hy1_0 : w.heap.size < w1.heap.size := (by omega); have hc1_0 := fun o => hc1 (w.heap.size) o (by first | omega | (simp; done) | (simp; omega)); have hf1_0 := fun o => hf1 (w.heap.size) o (by first | omega | (simp; done) | (simp; omega)))
  all_goals go_ret
  all_goals exact ⟨by simp [writes, *], (by repeat (first | exact Below.refl _ _ | assumption | (with_reducible refine Below.drew ?_) | (with_reducible refine below_drewN ?_ _) | (with_reducible refine Below.alloc ?_ (by first | exact Nat.le_refl _ | assumption | (simp; done) | (simp; omega) | omega) _) | (with_reducible refine Below.setCell ?_ (by first | exact Nat.le_refl _ | assumption | (simp; done) | (simp; omega) | omega) _) | (with_reducible refine below_call ?_ (by assumption) (by first | exact Nat.le_refl _ | assumption | (simp; done) | (simp; omega) | omega)) | (with_reducible refine below_only ?_ (by assumption) (by first | exact Nat.le_refl _ | assumption | (simp; done) | (simp; omega) | omega) (by first | exact Nat.le_refl _ | assumption | (simp; done) | (simp; omega) | omega))))⟩

set_option maxRecDepth 100000 in
set_option maxHeartbeats 400000 in
theorem mayLeave_ir (o : BOp) (w : World) :
    Calls Try.prog 76 #[opV o] w fun e w' => e = .returned (.bool (leaves o.code)) ∧ Below w.heap.size w w' := by
  unfold opV
  go_enter Try.func76, Try.ntmps76
  go_wp2_with (go_at_call 73; refine (shapeOf_any _ _).mono ?_; rintro e w1 ⟨rfl, hb1⟩; obtain ⟨hc1, hf1⟩ := bcell hb1; have hz1 := hb1.size; try simp only [World.size_alloc] at hz1; have hy1_0 : w.heap.size < w1.heap.size := (by omega); have hc1_0 := fun o => hc1 (w.heap.size) o (by first | omega | (simp; done) | (simp; omega)); have hf1_0 := fun o => hf1 (w.heap.size) o (by first | omega | (simp; done) | (simp; omega)))
  all_goals go_ret
  all_goals exact ⟨rfl, (by repeat (first | exact Below.refl _ _ | assumption | (with_reducible refine Below.drew ?_) | (with_reducible refine below_drewN ?_ _) | (with_reducible refine Below.alloc ?_ (by first | exact Nat.le_refl _ | assumption | (simp; done) | (simp; omega) | omega) _) | (with_reducible refine Below.setCell ?_ (by first | exact Nat.le_refl _ | assumption | (simp; done) | (simp; omega) | omega) _) | (with_reducible refine below_call ?_ (by assumption) (by first | exact Nat.le_refl _ | assumption | (simp; done) | (simp; omega) | omega)) | (with_reducible refine below_only ?_ (by assumption) (by first | exact Nat.le_refl _ | assumption | (simp; done) | (simp; omega) | omega) (by first | exact Nat.le_refl _ | assumption | (simp; done) | (simp; omega) | omega))))⟩

theorem shape_leaves (a b c d e f : Bool) (w : World) : (Instr.field 112 (.agg #[.bool a, .bool b, .bool c, .bool d, .bool e, .bool f]) 5).run Try.prog w = .ok (.bool f) w := by kernel_rfl
attribute [local go_sem] shape_leaves

set_option maxHeartbeats 400000 in
theorem mayLeave_ref (o : BOp) (w : World) :
    Calls Try.prog 82 #[opV o] w fun e w' => e = .returned (.bool (leaves o.code)) ∧ Below w.heap.size w w' := by
  unfold opV
  go_enter Try.func82, Try.ntmps82
  go_wp2_with (go_at_call 78; refine (shapeOf_ref _ _).mono ?_; rintro e w1 ⟨rfl, hb1⟩; obtain ⟨hc1, hf1⟩ := bcell hb1; have hz1 := hb1.size; try simp only [World.size_alloc] at hz1; have hy1_0 : w.heap.size < w1.heap.size := (by omega); have hc1_0 := fun o => hc1 (w.heap.size) o (by first | omega | (simp; done) | (simp; omega)); have hf1_0 := fun o => hf1 (w.heap.size) o (by first | omega | (simp; done) | (simp; omega)))
  all_goals go_ret
  all_goals exact ⟨rfl, (by repeat (first | exact Below.refl _ _ | assumption | (with_reducible refine Below.drew ?_) | (with_reducible refine below_drewN ?_ _) | (with_reducible refine Below.alloc ?_ (by first | exact Nat.le_refl _ | assumption | (simp; done) | (simp; omega) | omega) _) | (with_reducible refine Below.setCell ?_ (by first | exact Nat.le_refl _ | assumption | (simp; done) | (simp; omega) | omega) _) | (with_reducible refine below_call ?_ (by assumption) (by first | exact Nat.le_refl _ | assumption | (simp; done) | (simp; omega) | omega)) | (with_reducible refine below_only ?_ (by assumption) (by first | exact Nat.le_refl _ | assumption | (simp; done) | (simp; omega) | omega) (by first | exact Nat.le_refl _ | assumption | (simp; done) | (simp; omega) | omega))))⟩

set_option maxRecDepth 100000 in
set_option maxHeartbeats 400000 in
theorem field_ir (h : Bool) (v : Int) (w : World) :
    Calls Try.prog 94 #[.bool h, .int .i64 v] w fun e w' => e = .returned (.bool (fieldB h v)) ∧ w = w' := by
  cases h
  all_goals
    go_enter Try.func94, Try.ntmps94
    go_wp2
    all_goals go_ret
    all_goals exact ⟨ret_bool (by rw [Bool.eq_iff_iff]; simp [fieldB]; try omega), rfl⟩

set_option maxRecDepth 100000 in
set_option maxHeartbeats 400000 in
theorem field_ref (h : Bool) (v : Int) (w : World) :
    Calls Try.prog 79 #[.bool h, .int .i64 v] w fun e w' => e = .returned (.bool (fieldB h v)) ∧ w = w' := by
  cases h
  all_goals
    go_enter Try.func79, Try.ntmps79
    go_wp2
    all_goals go_ret
    all_goals exact ⟨ret_bool (by rw [Bool.eq_iff_iff]; simp [fieldB]; try omega), rfl⟩

set_option maxRecDepth 100000 in
set_option maxHeartbeats 400000 in
theorem ends_ir (c : Int) (w : World) :
    Calls Try.prog 95 #[.int .i64 c] w fun e w' => e = .returned (.bool (endsB c)) ∧ w = w' := by
  go_enter Try.func95, Try.ntmps95
  go_wp2
  all_goals go_ret
  all_goals exact ⟨ret_bool (by rw [Bool.eq_iff_iff]; simp [endsB] at *; try omega), rfl⟩

set_option maxRecDepth 100000 in
set_option maxHeartbeats 400000 in
theorem ends_ref (c : Int) (w : World) :
    Calls Try.prog 53 #[.int .i64 c] w fun e w' => e = .returned (.bool (endsB c)) ∧ w = w' := by
  go_enter Try.func53, Try.ntmps53
  go_wp2
  all_goals go_ret
  all_goals exact ⟨ret_bool (by rw [Bool.eq_iff_iff]; simp [endsB] at *; try omega), rfl⟩
end Go.Proofs.Ytmjfgnnefcimiaa
namespace Go.Proofs.Ytmjfgnnefcimiaa
open Go.RowKit

theorem info_int : (Try.prog.info? 3).map (fun i => (i.zero, i.size, i.bytes)) = some (some (.int .i64 0), 1, 8) := by kernel_rfl
theorem info_u32 : (Try.prog.info? 24).map (fun i => (i.zero, i.size, i.bytes)) = some (some (.int .u32 0), 1, 4) := by kernel_rfl
theorem info_op : (Try.prog.info? 53).map (fun i => (i.zero, i.size, i.bytes)) = some (some (.agg #[.int .i64 0, .int .i64 0, .int .i64 0, .int .i64 0, .int .u32 0]), 5, 40) := by kernel_rfl

set_option maxHeartbeats 400000 in
theorem reads_ir (o : BOp) (w : World) :
    Calls Try.prog 44 #[opV o] w fun e w' => ∃ v, e = .returned v ∧ w'.ownsRow w.heap.size 3 1 v (reads o).length ((reads o).map (.int .i64)) ∧ Below w.heap.size w w' := by
  unfold opV
  by_cases hA : hasA o.code = true
  · by_cases hB : hasB o.code = true
    · by_cases hE : o.b = o.a
      · have e0 : (o.b != o.a) = false := by simp [hE]
        have hr : Hid (reads o = [o.a]) := by unfold Hid; simp [reads, hA, hB, hE]
        clear hE
        go_enter Try.func44, Try.ntmps44
        go_wp2_with (first | (go_at_call 73; refine (shapeOf_any _ _).mono ?_; rintro e w1 ⟨rfl, hb1⟩; obtain ⟨hc1, hf1⟩ := bcell hb1; have hz1 := hb1.size; try simp only [World.size_alloc] at hz1; have hy1_0 : w.heap.size < w1.heap.size := (by omega); have hc1_0 := fun o => hc1 (w.heap.size) o (by first | omega | (simp; done) | (simp; omega)); have hf1_0 := fun o => hf1 (w.heap.size) o (by first | omega | (simp; done) | (simp; omega))) | (at_builtin; (refine wpList_app rfl _ _ 22 rfl (w1.heap.size+1) 3 (.int .i64 0) 1 8 Try.underlying22 info_int rfl (by decide) _ _ _ rfl (World.ownsRow_nil _ _ _ _) _ _ 1 _ rfl (by simp) rfl (by intro u hu; simp at hu; first | (subst hu; rfl) | (rcases hu with rfl | rfl | rfl | rfl | rfl <;> rfl)) (by omega) (by decide) (by first | exact Nat.le_refl _ | assumption | (simp; done) | (simp; omega) | omega) ?_); intro v2 w2 hown2 hb2 hz2; obtain ⟨hc2, hf2⟩ := bcellAt hb2))
        go_ret
        exact ⟨_, rfl, own_is hown2 (by omega) (by rw [hr.out]; rfl) (by rw [hr.out]; rfl), (by repeat (first | exact Below.refl _ _ | assumption | (with_reducible refine Below.drew ?_) | (with_reducible refine below_drewN ?_ _) | (with_reducible refine Below.alloc ?_ (by first | exact Nat.le_refl _ | assumption | (simp; done) | (simp; omega) | omega) _) | (with_reducible refine Below.setCell ?_ (by first | exact Nat.le_refl _ | assumption | (simp; done) | (simp; omega) | omega) _) | (with_reducible refine below_call ?_ (by assumption) (by first | exact Nat.le_refl _ | assumption | (simp; done) | (simp; omega) | omega)) | (with_reducible refine below_only ?_ (by assumption) (by first | exact Nat.le_refl _ | assumption | (simp; done) | (simp; omega) | omega) (by first | exact Nat.le_refl _ | assumption | (simp; done) | (simp; omega) | omega))))⟩
      · have e0 : (o.b != o.a) = true := by simp [hE]
        have hr : Hid (reads o = [o.a, o.b]) := by unfold Hid; simp [reads, hA, hB, hE]
        clear hE
        go_enter Try.func44, Try.ntmps44
        go_wp2_with (first | (go_at_call 73; refine (shapeOf_any _ _).mono ?_; rintro e w1 ⟨rfl, hb1⟩; obtain ⟨hc1, hf1⟩ := bcell hb1; have hz1 := hb1.size; try simp only [World.size_alloc] at hz1; have hy1_0 : w.heap.size < w1.heap.size := (by omega); have hc1_0 := fun o => hc1 (w.heap.size) o (by first | omega | (simp; done) | (simp; omega)); have hf1_0 := fun o => hf1 (w.heap.size) o (by first | omega | (simp; done) | (simp; omega))) | (at_builtin; (refine wpList_app rfl _ _ 22 rfl (w1.heap.size+1) 3 (.int .i64 0) 1 8 Try.underlying22 info_int rfl (by decide) _ _ _ rfl (hown2) _ _ 1 _ rfl (by simp) rfl (by intro u hu; simp at hu; first | (subst hu; rfl) | (rcases hu with rfl | rfl | rfl | rfl | rfl <;> rfl)) (by omega) (by decide) (by first | exact Nat.le_refl _ | assumption | (simp; done) | (simp; omega) | omega) ?_); intro v3 w3 hown3 hb3 hz3; obtain ⟨hc3, hf3⟩ := bcellAt hb3) | (at_builtin; (refine wpList_app rfl _ _ 22 rfl (w1.heap.size+1) 3 (.int .i64 0) 1 8 Try.underlying22 info_int rfl (by decide) _ _ _ rfl (World.ownsRow_nil _ _ _ _) _ _ 1 _ rfl (by simp) rfl (by intro u hu; simp at hu; first | (subst hu; rfl) | (rcases hu with rfl | rfl | rfl | rfl | rfl <;> rfl)) (by omega) (by decide) (by first | exact Nat.le_refl _ | assumption | (simp; done) | (simp; omega) | omega) ?_); intro v2 w2 hown2 hb2 hz2; obtain ⟨hc2, hf2⟩ := bcellAt hb2))
        go_ret
        exact ⟨_, rfl, own_is hown3 (by omega) (by rw [hr.out]; rfl) (by rw [hr.out]; rfl), (by repeat (first | exact Below.refl _ _ | assumption | (with_reducible refine Below.drew ?_) | (with_reducible refine below_drewN ?_ _) | (with_reducible refine Below.alloc ?_ (by first | exact Nat.le_refl _ | assumption | (simp; done) | (simp; omega) | omega) _) | (with_reducible refine Below.setCell ?_ (by first | exact Nat.le_refl _ | assumption | (simp; done) | (simp; omega) | omega) _) | (with_reducible refine below_call ?_ (by assumption) (by first | exact Nat.le_refl _ | assumption | (simp; done) | (simp; omega) | omega)) | (with_reducible refine below_only ?_ (by assumption) (by first | exact Nat.le_refl _ | assumption | (simp; done) | (simp; omega) | omega) (by first | exact Nat.le_refl _ | assumption | (simp; done) | (simp; omega) | omega))))⟩
    · have hB' : hasB o.code = false := by simpa using hB
      have hr : Hid (reads o = [o.a]) := by unfold Hid; simp [reads, hA, hB']
      clear hB
      go_enter Try.func44, Try.ntmps44
      go_wp2_with (first | (go_at_call 73; refine (shapeOf_any _ _).mono ?_; rintro e w1 ⟨rfl, hb1⟩; obtain ⟨hc1, hf1⟩ := bcell hb1; have hz1 := hb1.size; try simp only [World.size_alloc] at hz1; have hy1_0 : w.heap.size < w1.heap.size := (by omega); have hc1_0 := fun o => hc1 (w.heap.size) o (by first | omega | (simp; done) | (simp; omega)); have hf1_0 := fun o => hf1 (w.heap.size) o (by first | omega | (simp; done) | (simp; omega))) | (at_builtin; (refine wpList_app rfl _ _ 22 rfl (w1.heap.size+1) 3 (.int .i64 0) 1 8 Try.underlying22 info_int rfl (by decide) _ _ _ rfl (World.ownsRow_nil _ _ _ _) _ _ 1 _ rfl (by simp) rfl (by intro u hu; simp at hu; first | (subst hu; rfl) | (rcases hu with rfl | rfl | rfl | rfl | rfl <;> rfl)) (by omega) (by decide) (by first | exact Nat.le_refl _ | assumption | (simp; done) | (simp; omega) | omega) ?_); intro v2 w2 hown2 hb2 hz2; obtain ⟨hc2, hf2⟩ := bcellAt hb2))
      go_ret
      exact ⟨_, rfl, own_is hown2 (by omega) (by rw [hr.out]; rfl) (by rw [hr.out]; rfl), (by repeat (first | exact Below.refl _ _ | assumption | (with_reducible refine Below.drew ?_) | (with_reducible refine below_drewN ?_ _) | (with_reducible refine Below.alloc ?_ (by first | exact Nat.le_refl _ | assumption | (simp; done) | (simp; omega) | omega) _) | (with_reducible refine Below.setCell ?_ (by first | exact Nat.le_refl _ | assumption | (simp; done) | (simp; omega) | omega) _) | (with_reducible refine below_call ?_ (by assumption) (by first | exact Nat.le_refl _ | assumption | (simp; done) | (simp; omega) | omega)) | (with_reducible refine below_only ?_ (by assumption) (by first | exact Nat.le_refl _ | assumption | (simp; done) | (simp; omega) | omega) (by first | exact Nat.le_refl _ | assumption | (simp; done) | (simp; omega) | omega))))⟩
  · have hA' : hasA o.code = false := by simpa using hA
    have hB' : hasB o.code = false := by
      rw [Bool.eq_false_iff]; intro h; simp [hasA, hasB] at hA h; omega
    have hr : Hid (reads o = []) := by unfold Hid; simp [reads, hA', hB']
    clear hA
    go_enter Try.func44, Try.ntmps44
    go_wp2_with (go_at_call 73; refine (shapeOf_any _ _).mono ?_; rintro e w1 ⟨rfl, hb1⟩; obtain ⟨hc1, hf1⟩ := bcell hb1; have hz1 := hb1.size; try simp only [World.size_alloc] at hz1; have hy1_0 : w.heap.size < w1.heap.size := (by omega); have hc1_0 := fun o => hc1 (w.heap.size) o (by first | omega | (simp; done) | (simp; omega)); have hf1_0 := fun o => hf1 (w.heap.size) o (by first | omega | (simp; done) | (simp; omega)))
    go_ret
    exact ⟨_, rfl, by rw [hr.out]; exact World.ownsRow_nil _ _ _ _, (by repeat (first | exact Below.refl _ _ | assumption | (with_reducible refine Below.drew ?_) | (with_reducible refine below_drewN ?_ _) | (with_reducible refine Below.alloc ?_ (by first | exact Nat.le_refl _ | assumption | (simp; done) | (simp; omega) | omega) _) | (with_reducible refine Below.setCell ?_ (by first | exact Nat.le_refl _ | assumption | (simp; done) | (simp; omega) | omega) _) | (with_reducible refine below_call ?_ (by assumption) (by first | exact Nat.le_refl _ | assumption | (simp; done) | (simp; omega) | omega)) | (with_reducible refine below_only ?_ (by assumption) (by first | exact Nat.le_refl _ | assumption | (simp; done) | (simp; omega) | omega) (by first | exact Nat.le_refl _ | assumption | (simp; done) | (simp; omega) | omega))))⟩

set_option maxHeartbeats 400000 in
theorem reads_ref (o : BOp) (w : World) :
    Calls Try.prog 55 #[opV o] w fun e w' => ∃ v, e = .returned v ∧ w'.ownsRow w.heap.size 3 1 v (reads o).length ((reads o).map (.int .i64)) ∧ Below w.heap.size w w' := by
  unfold opV
  by_cases hA : hasA o.code = true
  · by_cases hB : hasB o.code = true
    · by_cases hE : o.b = o.a
      · have e0 : (o.b != o.a) = false := by simp [hE]
        have hr : Hid (reads o = [o.a]) := by unfold Hid; simp [reads, hA, hB, hE]
        clear hE
        go_enter Try.func55, Try.ntmps55
        go_wp2_with (first | (go_at_call 78; refine (shapeOf_ref _ _).mono ?_; rintro e w1 ⟨rfl, hb1⟩; obtain ⟨hc1, hf1⟩ := bcell hb1; have hz1 := hb1.size; try simp only [World.size_alloc] at hz1; have hy1_0 : w.heap.size < w1.heap.size := (by omega); have hc1_0 := fun o => hc1 (w.heap.size) o (by first | omega | (simp; done) | (simp; omega)); have hf1_0 := fun o => hf1 (w.heap.size) o (by first | omega | (simp; done) | (simp; omega))) | (at_builtin; (refine wpList_app rfl _ _ 22 rfl (w1.heap.size+1) 3 (.int .i64 0) 1 8 Try.underlying22 info_int rfl (by decide) _ _ _ rfl (World.ownsRow_nil _ _ _ _) _ _ 1 _ rfl (by simp) rfl (by intro u hu; simp at hu; first | (subst hu; rfl) | (rcases hu with rfl | rfl | rfl | rfl | rfl <;> rfl)) (by omega) (by decide) (by first | exact Nat.le_refl _ | assumption | (simp; done) | (simp; omega) | omega) ?_); intro v2 w2 hown2 hb2 hz2; obtain ⟨hc2, hf2⟩ := bcellAt hb2))
        go_ret
        exact ⟨_, rfl, own_is hown2 (by omega) (by rw [hr.out]; rfl) (by rw [hr.out]; rfl), (by repeat (first | exact Below.refl _ _ | assumption | (with_reducible refine Below.drew ?_) | (with_reducible refine below_drewN ?_ _) | (with_reducible refine Below.alloc ?_ (by first | exact Nat.le_refl _ | assumption | (simp; done) | (simp; omega) | omega) _) | (with_reducible refine Below.setCell ?_ (by first | exact Nat.le_refl _ | assumption | (simp; done) | (simp; omega) | omega) _) | (with_reducible refine below_call ?_ (by assumption) (by first | exact Nat.le_refl _ | assumption | (simp; done) | (simp; omega) | omega)) | (with_reducible refine below_only ?_ (by assumption) (by first | exact Nat.le_refl _ | assumption | (simp; done) | (simp; omega) | omega) (by first | exact Nat.le_refl _ | assumption | (simp; done) | (simp; omega) | omega))))⟩
      · have e0 : (o.b != o.a) = true := by simp [hE]
        have hr : Hid (reads o = [o.a, o.b]) := by unfold Hid; simp [reads, hA, hB, hE]
        clear hE
        go_enter Try.func55, Try.ntmps55
        go_wp2_with (first | (go_at_call 78; refine (shapeOf_ref _ _).mono ?_; rintro e w1 ⟨rfl, hb1⟩; obtain ⟨hc1, hf1⟩ := bcell hb1; have hz1 := hb1.size; try simp only [World.size_alloc] at hz1; have hy1_0 : w.heap.size < w1.heap.size := (by omega); have hc1_0 := fun o => hc1 (w.heap.size) o (by first | omega | (simp; done) | (simp; omega)); have hf1_0 := fun o => hf1 (w.heap.size) o (by first | omega | (simp; done) | (simp; omega))) | (at_builtin; (refine wpList_app rfl _ _ 22 rfl (w1.heap.size+1) 3 (.int .i64 0) 1 8 Try.underlying22 info_int rfl (by decide) _ _ _ rfl (hown2) _ _ 1 _ rfl (by simp) rfl (by intro u hu; simp at hu; first | (subst hu; rfl) | (rcases hu with rfl | rfl | rfl | rfl | rfl <;> rfl)) (by omega) (by decide) (by first | exact Nat.le_refl _ | assumption | (simp; done) | (simp; omega) | omega) ?_); intro v3 w3 hown3 hb3 hz3; obtain ⟨hc3, hf3⟩ := bcellAt hb3) | (at_builtin; (refine wpList_app rfl _ _ 22 rfl (w1.heap.size+1) 3 (.int .i64 0) 1 8 Try.underlying22 info_int rfl (by decide) _ _ _ rfl (World.ownsRow_nil _ _ _ _) _ _ 1 _ rfl (by simp) rfl (by intro u hu; simp at hu; first | (subst hu; rfl) | (rcases hu with rfl | rfl | rfl | rfl | rfl <;> rfl)) (by omega) (by decide) (by first | exact Nat.le_refl _ | assumption | (simp; done) | (simp; omega) | omega) ?_); intro v2 w2 hown2 hb2 hz2; obtain ⟨hc2, hf2⟩ := bcellAt hb2))
        go_ret
        exact ⟨_, rfl, own_is hown3 (by omega) (by rw [hr.out]; rfl) (by rw [hr.out]; rfl), (by repeat (first | exact Below.refl _ _ | assumption | (with_reducible refine Below.drew ?_) | (with_reducible refine below_drewN ?_ _) | (with_reducible refine Below.alloc ?_ (by first | exact Nat.le_refl _ | assumption | (simp; done) | (simp; omega) | omega) _) | (with_reducible refine Below.setCell ?_ (by first | exact Nat.le_refl _ | assumption | (simp; done) | (simp; omega) | omega) _) | (with_reducible refine below_call ?_ (by assumption) (by first | exact Nat.le_refl _ | assumption | (simp; done) | (simp; omega) | omega)) | (with_reducible refine below_only ?_ (by assumption) (by first | exact Nat.le_refl _ | assumption | (simp; done) | (simp; omega) | omega) (by first | exact Nat.le_refl _ | assumption | (simp; done) | (simp; omega) | omega))))⟩
    · have hB' : hasB o.code = false := by simpa using hB
      have hr : Hid (reads o = [o.a]) := by unfold Hid; simp [reads, hA, hB']
      clear hB
      go_enter Try.func55, Try.ntmps55
      go_wp2_with (first | (go_at_call 78; refine (shapeOf_ref _ _).mono ?_; rintro e w1 ⟨rfl, hb1⟩; obtain ⟨hc1, hf1⟩ := bcell hb1; have hz1 := hb1.size; try simp only [World.size_alloc] at hz1; have hy1_0 : w.heap.size < w1.heap.size := (by omega); have hc1_0 := fun o => hc1 (w.heap.size) o (by first | omega | (simp; done) | (simp; omega)); have hf1_0 := fun o => hf1 (w.heap.size) o (by first | omega | (simp; done) | (simp; omega))) | (at_builtin; (refine wpList_app rfl _ _ 22 rfl (w1.heap.size+1) 3 (.int .i64 0) 1 8 Try.underlying22 info_int rfl (by decide) _ _ _ rfl (World.ownsRow_nil _ _ _ _) _ _ 1 _ rfl (by simp) rfl (by intro u hu; simp at hu; first | (subst hu; rfl) | (rcases hu with rfl | rfl | rfl | rfl | rfl <;> rfl)) (by omega) (by decide) (by first | exact Nat.le_refl _ | assumption | (simp; done) | (simp; omega) | omega) ?_); intro v2 w2 hown2 hb2 hz2; obtain ⟨hc2, hf2⟩ := bcellAt hb2))
      go_ret
      exact ⟨_, rfl, own_is hown2 (by omega) (by rw [hr.out]; rfl) (by rw [hr.out]; rfl), (by repeat (first | exact Below.refl _ _ | assumption | (with_reducible refine Below.drew ?_) | (with_reducible refine below_drewN ?_ _) | (with_reducible refine Below.alloc ?_ (by first | exact Nat.le_refl _ | assumption | (simp; done) | (simp; omega) | omega) _) | (with_reducible refine Below.setCell ?_ (by first | exact Nat.le_refl _ | assumption | (simp; done) | (simp; omega) | omega) _) | (with_reducible refine below_call ?_ (by assumption) (by first | exact Nat.le_refl _ | assumption | (simp; done) | (simp; omega) | omega)) | (with_reducible refine below_only ?_ (by assumption) (by first | exact Nat.le_refl _ | assumption | (simp; done) | (simp; omega) | omega) (by first | exact Nat.le_refl _ | assumption | (simp; done) | (simp; omega) | omega))))⟩
  · have hA' : hasA o.code = false := by simpa using hA
    have hB' : hasB o.code = false := by
      rw [Bool.eq_false_iff]; intro h; simp [hasA, hasB] at hA h; omega
    have hr : Hid (reads o = []) := by unfold Hid; simp [reads, hA', hB']
    clear hA
    go_enter Try.func55, Try.ntmps55
    go_wp2_with (go_at_call 78; refine (shapeOf_ref _ _).mono ?_; rintro e w1 ⟨rfl, hb1⟩; obtain ⟨hc1, hf1⟩ := bcell hb1; have hz1 := hb1.size; try simp only [World.size_alloc] at hz1; have hy1_0 : w.heap.size < w1.heap.size := (by omega); have hc1_0 := fun o => hc1 (w.heap.size) o (by first | omega | (simp; done) | (simp; omega)); have hf1_0 := fun o => hf1 (w.heap.size) o (by first | omega | (simp; done) | (simp; omega)))
    go_ret
    exact ⟨_, rfl, by rw [hr.out]; exact World.ownsRow_nil _ _ _ _, (by repeat (first | exact Below.refl _ _ | assumption | (with_reducible refine Below.drew ?_) | (with_reducible refine below_drewN ?_ _) | (with_reducible refine Below.alloc ?_ (by first | exact Nat.le_refl _ | assumption | (simp; done) | (simp; omega) | omega) _) | (with_reducible refine Below.setCell ?_ (by first | exact Nat.le_refl _ | assumption | (simp; done) | (simp; omega) | omega) _) | (with_reducible refine below_call ?_ (by assumption) (by first | exact Nat.le_refl _ | assumption | (simp; done) | (simp; omega) | omega)) | (with_reducible refine below_only ?_ (by assumption) (by first | exact Nat.le_refl _ | assumption | (simp; done) | (simp; omega) | omega) (by first | exact Nat.le_refl _ | assumption | (simp; done) | (simp; omega) | omega))))⟩
end Go.Proofs.Ytmjfgnnefcimiaa
namespace Go.Proofs.Ytmjfgnnefcimiaa
open Go.RowKit

set_option maxHeartbeats 400000 in
theorem pure_ir (o : BOp) (w : World) :
    Calls Try.prog 48 #[opV o] w fun e w' => e = .returned (.bool (pureB o)) ∧ Below w.heap.size w w' := by
  unfold opV
  go_enter Try.func48, Try.ntmps48
  go_wp2_with (first | (go_at_call 40; refine (writes_ir o _).mono ?_; rintro e w1 ⟨rfl, hb1⟩; obtain ⟨hc1, hf1⟩ := bcell hb1; have hz1 := hb1.size; try simp only [World.size_alloc] at hz1; have hy1_0 : w.heap.size < w1.heap.size := (by omega); have hc1_0 := fun o => hc1 (w.heap.size) o (by first | omega | (simp; done) | (simp; omega)); have hf1_0 := fun o => hf1 (w.heap.size) o (by first | omega | (simp; done) | (simp; omega))) | (go_at_call 76; refine (mayLeave_ir o _).mono ?_; rintro e w2 ⟨rfl, hb2⟩; obtain ⟨hc2, hf2⟩ := bcell hb2; have hz2 := hb2.size; try simp only [World.size_alloc, World.size_setCell, World.heap_drewN, World.size_drew] at hz2; have hy2_0 : w.heap.size < w2.heap.size := (by omega); have hc2_0 := fun o => hc2 (w.heap.size) o (by first | omega | (simp; done) | (simp; omega)); have hf2_0 := fun o => hf2 (w.heap.size) o (by first | omega | (simp; done) | (simp; omega))))
  all_goals go_ret
  all_goals exact ⟨ret_bool (by rw [Bool.eq_iff_iff]; simp [pureB, *]; try (intros; omega)), (by repeat (first | exact Below.refl _ _ | assumption | (with_reducible refine Below.drew ?_) | (with_reducible refine below_drewN ?_ _) | (with_reducible refine Below.alloc ?_ (by first | exact Nat.le_refl _ | assumption | (simp; done) | (simp; omega) | omega) _) | (with_reducible refine Below.setCell ?_ (by first | exact Nat.le_refl _ | assumption | (simp; done) | (simp; omega) | omega) _) | (with_reducible refine below_call ?_ (by assumption) (by first | exact Nat.le_refl _ | assumption | (simp; done) | (simp; omega) | omega)) | (with_reducible refine below_only ?_ (by assumption) (by first | exact Nat.le_refl _ | assumption | (simp; done) | (simp; omega) | omega) (by first | exact Nat.le_refl _ | assumption | (simp; done) | (simp; omega) | omega))))⟩

set_option maxHeartbeats 400000 in
theorem pure_ref (o : BOp) (w : World) :
    Calls Try.prog 58 #[opV o] w fun e w' => e = .returned (.bool (pureB o)) ∧ Below w.heap.size w w' := by
  unfold opV
  go_enter Try.func58, Try.ntmps58
  go_wp2_with (first | (go_at_call 81; refine (writes_ref o _).mono ?_; rintro e w2 ⟨rfl, hb2⟩; obtain ⟨hc2, hf2⟩ := bcell hb2; have hz2 := hb2.size; try simp only [World.size_alloc, World.size_setCell, World.heap_drewN, World.size_drew] at hz2; have hy2_0 : w.heap.size < w2.heap.size := (by omega); have hc2_0 := fun o => hc2 (w.heap.size) o (by first | omega | (simp; done) | (simp; omega)); have hf2_0 := fun o => hf2 (w.heap.size) o (by first | omega | (simp; done) | (simp; omega))) | (go_at_call 82; refine (mayLeave_ref o _).mono ?_; rintro e w1 ⟨rfl, hb1⟩; obtain ⟨hc1, hf1⟩ := bcell hb1; have hz1 := hb1.size; try simp only [World.size_alloc] at hz1; have hy1_0 : w.heap.size < w1.heap.size := (by omega); have hc1_0 := fun o => hc1 (w.heap.size) o (by first | omega | (simp; done) | (simp; omega)); have hf1_0 := fun o => hf1 (w.heap.size) o (by first | omega | (simp; done) | (simp; omega))))
  all_goals go_ret
  all_goals exact ⟨ret_bool (by rw [Bool.eq_iff_iff]; simp [pureB, *]; try (intros; omega)), (by repeat (first | exact Below.refl _ _ | assumption | (with_reducible refine Below.drew ?_) | (with_reducible refine below_drewN ?_ _) | (with_reducible refine Below.alloc ?_ (by first | exact Nat.le_refl _ | assumption | (simp; done) | (simp; omega) | omega) _) | (with_reducible refine Below.setCell ?_ (by first | exact Nat.le_refl _ | assumption | (simp; done) | (simp; omega) | omega) _) | (with_reducible refine below_call ?_ (by assumption) (by first | exact Nat.le_refl _ | assumption | (simp; done) | (simp; omega) | omega)) | (with_reducible refine below_only ?_ (by assumption) (by first | exact Nat.le_refl _ | assumption | (simp; done) | (simp; omega) | omega) (by first | exact Nat.le_refl _ | assumption | (simp; done) | (simp; omega) | omega))))⟩

set_option maxHeartbeats 400000 in
theorem observes_ref (o : BOp) (w : World) :
    Calls Try.prog 86 #[opV o] w fun e w' => e = .returned (.bool (observesB o)) ∧ Below w.heap.size w w' := by
  unfold opV
  go_enter Try.func86, Try.ntmps86
  go_wp2_with (go_at_call 82; refine (mayLeave_ref o _).mono ?_; rintro e w1 ⟨rfl, hb1⟩; obtain ⟨hc1, hf1⟩ := bcell hb1; have hz1 := hb1.size; try simp only [World.size_alloc] at hz1; have hy1_0 : w.heap.size < w1.heap.size := (by omega); have hc1_0 := fun o => hc1 (w.heap.size) o (by first | omega | (simp; done) | (simp; omega)); have hf1_0 := fun o => hf1 (w.heap.size) o (by first | omega | (simp; done) | (simp; omega)))
  all_goals go_ret
  all_goals exact ⟨by simp [observesB, *], (by repeat (first | exact Below.refl _ _ | assumption | (with_reducible refine Below.drew ?_) | (with_reducible refine below_drewN ?_ _) | (with_reducible refine Below.alloc ?_ (by first | exact Nat.le_refl _ | assumption | (simp; done) | (simp; omega) | omega) _) | (with_reducible refine Below.setCell ?_ (by first | exact Nat.le_refl _ | assumption | (simp; done) | (simp; omega) | omega) _) | (with_reducible refine below_call ?_ (by assumption) (by first | exact Nat.le_refl _ | assumption | (simp; done) | (simp; omega) | omega)) | (with_reducible refine below_only ?_ (by assumption) (by first | exact Nat.le_refl _ | assumption | (simp; done) | (simp; omega) | omega) (by first | exact Nat.le_refl _ | assumption | (simp; done) | (simp; omega) | omega))))⟩

set_option maxHeartbeats 400000 in
theorem binary_any (c : Int) (w : World) :
    Calls Try.prog 71 #[.int .i64 c] w fun e w' => e = .returned (.bool (isBin c)) ∧ w = w' := by
  go_enter Try.func71, Try.ntmps71
  go_wp2
  all_goals go_ret
  all_goals exact ⟨ret_bool (by rw [Bool.eq_iff_iff]; simp [isBin]; try omega), rfl⟩

set_option maxHeartbeats 400000 in
theorem two_any (c : Int) (w : World) :
    Calls Try.prog 46 #[.int .i64 c] w fun e w' => e = .returned (.bool (twoB c)) ∧ w = w' := by
  go_enter Try.func46, Try.ntmps46
  go_wp2_with (go_at_call 71; refine (binary_any _ _).mono ?_; rintro e w' ⟨rfl, rfl⟩)
  all_goals go_ret
  all_goals exact ⟨by simp [twoB, *], rfl⟩

set_option maxHeartbeats 400000 in
theorem guest_ref (v : Int) (w : World) :
    Calls Try.prog 83 #[.int .i64 v] w fun e w' => e = .returned (.bool (decide (0 ≤ v ∧ v ≤ 18))) ∧ w = w' := by
  go_enter Try.func83, Try.ntmps83
  go_wp2
  all_goals go_ret
  all_goals exact ⟨ret_bool (by rw [Bool.eq_iff_iff]; simp; try omega), rfl⟩

set_option maxHeartbeats 400000 in
theorem index_int (A : Option Addr) (n c : Nat) (v : Int) (xs : List Int) (w : World) (h : SlAt w w.heap.size A (xs.map (.int .i64))) (hn : xs.length = n) (hm : n ≤ 1000000000) :
    Calls Try.prog 74 #[.slice A n c, .int .i64 v] w fun e w' => ∃ r : Int, e = .returned (.int .i64 r) ∧ decide (0 ≤ r) = memI v xs ∧ w = w' := by
  have HN := Lib.hid hn
  clear hn
  go_enter Try.func74, Try.ntmps74
  go_wp2
  go_loop [8] (fun i => ∃ k : Nat, k ≤ n ∧ i = .int .i64 k ∧ Hid (∀ x ∈ xs.take k, (x == v) = false)) (fun i => n - (intOf i).toNat)
  case atStart => exact ⟨0, Nat.zero_le _, rfl, by unfold Hid; simp⟩
  case round =>
    obtain ⟨k, hk, rfl, hp⟩ := hrel
    by_cases hlt : k < n
    · obtain ⟨b, off, x, rfl, hb, hx, hc⟩ := ints_at h (by rw [HN.out]; exact hlt)
      have HX := Lib.hid hx
      clear hx h
      go_wp2
      · have hv : (v == x) = true := by assumption
        go_ret
        have he : v = x := by simpa using hv
        refine ⟨k, rfl, ?_, rfl⟩
        have hmem : x ∈ xs := List.mem_of_getElem? HX.out
        have : memI v xs = true := by unfold memI; rw [List.any_eq_true]; exact ⟨x, hmem, by simp [he]⟩
        rw [this]; simp
      · have hv : (v == x) = false := by assumption
        go_round
        case rel =>
          refine ⟨k + 1, by omega, by go_num, ?_⟩
          have hv' := hv
          have hxx := HX.out
          unfold Hid at hp ⊢
          intro y hy
          rw [List.take_add_one, List.mem_append] at hy
          rcases hy with hy | hy
          · exact hp y hy
          · rw [hxx] at hy
            simp at hy
            subst hy
            simp at hv' ⊢
            exact fun e => hv' e.symm
        case measure => simp [intOf]; omega
    · have hkn : k = n := by omega
      go_wp2
      go_ret
      refine ⟨-1, rfl, ?_, rfl⟩
      have : memI v xs = false := by
        unfold memI
        rw [List.any_eq_false]
        intro x hx
        have := hp.out x (by rw [List.take_of_length_le (by rw [HN.out]; omega)]; exact hx)
        simp [this]
      rw [this]; rfl

set_option maxHeartbeats 400000 in
theorem contains_int (A : Option Addr) (n c : Nat) (v : Int) (xs : List Int) (w : World) (h : SlAt w w.heap.size A (xs.map (.int .i64))) (hn : xs.length = n) (hm : n ≤ 1000000000) :
    Calls Try.prog 45 #[.slice A n c, .int .i64 v] w fun e w' => e = .returned (.bool (memI v xs)) ∧ w = w' := by
  have HN := Lib.hid hn
  clear hn
  have H := Lib.hid h
  clear h
  go_enter Try.func45, Try.ntmps45
  go_wp2_with (go_at_call 74; refine (index_int _ _ _ v xs _ H.out HN.out hm).mono ?_; rintro e w' ⟨r, rfl, hr, rfl⟩; have HR := Lib.hid hr; clear hr)
  go_ret
  exact ⟨by first | rfl | (simp; exact HR.out), rfl⟩

set_option maxHeartbeats 400000 in
theorem reads_v (o : BOp) (v : Int) (w : World) :
    Calls Try.prog 85 #[opV o, .int .i64 v] w fun e w' => e = .returned (.bool (memI v (reads o))) ∧ Below w.heap.size w w' := by
  unfold opV
  go_enter Try.func85, Try.ntmps85
  go_wp2_with (go_at_call 55; refine (reads_ref o _).mono ?_; rintro e w1 ⟨r, rfl, hown, hb1⟩; obtain ⟨A, c, rfl, hs, -, -, -⟩ := own_slice hown; clear hown; obtain ⟨hc1, hf1⟩ := bcell hb1; have hz1 := hb1.size; try simp only [World.size_alloc] at hz1; have hy1_0 : w.heap.size < w1.heap.size := (by omega); have hc1_0 := fun o => hc1 (w.heap.size) o (by first | omega | (simp; done) | (simp; omega)); have hf1_0 := fun o => hf1 (w.heap.size) o (by first | omega | (simp; done) | (simp; omega)))
  have hl2 : (reads o).length ≤ 2 := by unfold reads; split <;> split <;> simp
  obtain ⟨n, hn⟩ : ∃ n, (reads o).length = n := ⟨_, rfl⟩
  rw [hn] at hl2 ⊢
  have HN := Lib.hid hn
  clear hn
  go_wp2
  go_loop [6] (fun i => ∃ k : Nat, k ≤ n ∧ i = .int .i64 k ∧ Hid (∀ x ∈ (reads o).take k, (x == v) = false)) (fun i => n - (intOf i).toNat)
  case atStart => exact ⟨0, Nat.zero_le _, rfl, by unfold Hid; simp⟩
  case round =>
    obtain ⟨k, hk, rfl, hp⟩ := hrel
    by_cases hlt : k < n
    · obtain ⟨b, off, x, rfl, hb, hx, hc⟩ := ints_at hs (by rw [HN.out]; exact hlt)
      have HX := Lib.hid hx
      clear hx hs
      go_wp2
      · have hv : (x == v) = true := by assumption
        go_ret
        refine ⟨ret_bool ?_, (by repeat (first | exact Below.refl _ _ | assumption | (with_reducible refine Below.drew ?_) | (with_reducible refine below_drewN ?_ _) | (with_reducible refine Below.alloc ?_ (by first | exact Nat.le_refl _ | assumption | (simp; done) | (simp; omega) | omega) _) | (with_reducible refine Below.setCell ?_ (by first | exact Nat.le_refl _ | assumption | (simp; done) | (simp; omega) | omega) _) | (with_reducible refine below_call ?_ (by assumption) (by first | exact Nat.le_refl _ | assumption | (simp; done) | (simp; omega) | omega)) | (with_reducible refine below_only ?_ (by assumption) (by first | exact Nat.le_refl _ | assumption | (simp; done) | (simp; omega) | omega) (by first | exact Nat.le_refl _ | assumption | (simp; done) | (simp; omega) | omega))))⟩
        have hmem : x ∈ reads o := List.mem_of_getElem? HX.out
        symm
        unfold memI; rw [List.any_eq_true]; exact ⟨x, hmem, hv⟩
      · have hv : (x == v) = false := by assumption
        go_round
        case rel =>
          refine ⟨k + 1, by omega, by go_num, ?_⟩
          have hxx := HX.out
          unfold Hid at hp ⊢
          intro y hy
          rw [List.take_add_one, List.mem_append] at hy
          rcases hy with hy | hy
          · exact hp y hy
          · rw [hxx] at hy
            simp at hy
            subst hy
            exact hv
        case measure => simp [intOf]; omega
    · go_wp2
      go_ret
      refine ⟨ret_bool ?_, (by repeat (first | exact Below.refl _ _ | assumption | (with_reducible refine Below.drew ?_) | (with_reducible refine below_drewN ?_ _) | (with_reducible refine Below.alloc ?_ (by first | exact Nat.le_refl _ | assumption | (simp; done) | (simp; omega) | omega) _) | (with_reducible refine Below.setCell ?_ (by first | exact Nat.le_refl _ | assumption | (simp; done) | (simp; omega) | omega) _) | (with_reducible refine below_call ?_ (by assumption) (by first | exact Nat.le_refl _ | assumption | (simp; done) | (simp; omega) | omega)) | (with_reducible refine below_only ?_ (by assumption) (by first | exact Nat.le_refl _ | assumption | (simp; done) | (simp; omega) | omega) (by first | exact Nat.le_refl _ | assumption | (simp; done) | (simp; omega) | omega))))⟩
      symm
      unfold memI
      rw [List.any_eq_false]
      intro x hx
      have := hp.out x (by rw [List.take_of_length_le (by rw [HN.out]; omega)]; exact hx)
      simp [this]
end Go.Proofs.Ytmjfgnnefcimiaa
namespace Go.Proofs.Ytmjfgnnefcimiaa
open Go.RowKit

theorem Has.alloc {w : World} {g : Nat} {cs : List Value} (h : Has w g cs) (o : Obj) (hg : g < w.heap.size) : Has (w.alloc o) g cs :=
  h.below (B := w.heap.size) ((Below.refl _ w).alloc (Nat.le_refl _) o) hg
theorem Has.drew {w : World} {g : Nat} {cs : List Value} (h : Has w g cs) : Has w.drew g cs := h
theorem Has.drewN {w : World} {g : Nat} {cs : List Value} (h : Has w g cs) (n : Nat) : Has (w.drewN n) g cs := h
theorem Has.setFar {w : World} {g : Nat} {cs : List Value} (h : Has w g cs) {p : Addr} (hp : g ≠ p.block) (u : Value) : Has (w.setCell p u) g cs := fun i v hv => by
  obtain ⟨h1, h2⟩ := h i v hv
  have hh := Below.heap_setCell w p u g hp
  exact ⟨(World.cell?_of_block (w := w) (a := ⟨g, i, none⟩) hh).trans h1, (World.frozen?_of_block (w := w) (a := ⟨g, i, none⟩) hh).trans h2⟩
theorem Has.new (w : World) (t : TypeId) (cs : List Value) : Has (w.alloc (.cells cs.toArray t)) w.heap.size cs := fun i u hu =>
  ⟨by rw [World.cell?_alloc_new]; simpa using hu, (RowIs.new w t cs.toArray).frozen i⟩
theorem Has.only {w w' : World} {g k : Nat} {cs : List Value} (h : Has w g cs) (hb : w.grownBy w' (some k)) (hne : g ≠ k) (hg : g < w.heap.size) : Has w' g cs := fun i v hv => by
  obtain ⟨h1, h2⟩ := h i v hv
  have hh := hb.block g hg (fun e => hne (by injection e))
  exact ⟨(World.cell?_of_block (w := w) (a := ⟨g, i, none⟩) hh).trans h1, (World.frozen?_of_block (w := w) (a := ⟨g, i, none⟩) hh).trans h2⟩

/-- What is known of cells where only block g has turned. -/
theorem only_cells {W w1 : World} {g : Nat} (hb : W.grownBy w1 (some g)) : (∀ b o, b < W.heap.size → b ≠ g → w1.cell? ⟨b, o, none⟩ = W.cell? ⟨b, o, none⟩) ∧ (∀ b o, b < W.heap.size → b ≠ g → w1.frozen? ⟨b, o, none⟩ = W.frozen? ⟨b, o, none⟩) :=
  ⟨fun b o h hn => World.cell?_of_block (w := W) (a := ⟨b, o, none⟩) (hb.block b h (fun e => hn (by injection e))), fun b o h hn => World.frozen?_of_block (w := W) (a := ⟨b, o, none⟩) (hb.block b h (fun e => hn (by injection e)))⟩

theorem below_only {B g : Nat} {w W w1 : World} (h : Below B w W) (hb : W.grownBy w1 (some g)) (hg : B ≤ g) (hB : B ≤ W.heap.size) : Below B w w1 :=
  h.grown hb hB (fun k e => by injection e with e; omega)

theorem below_alloc_le {B : Nat} {a w : World} (h : Below B a w) (o : Obj) (hB : B ≤ a.heap.size) : Below B a (w.alloc o) := h.alloc (Nat.le_trans hB h.size) o

/-- A test of two numbers, as the walk writes it. -/
theorem beq_of {a b : Int} (h : a = b) : (a == b) = true := by simp [h]
theorem beq_ne {a b : Int} (h : a ≠ b) : (a == b) = false := by simp [h]

end Go.Proofs.Ytmjfgnnefcimiaa
namespace Go.Proofs.Ytmjfgnnefcimiaa
open Go.RowKit
theorem ltH {g : Nat} {w : World} (h : g < w.heap.size) : g < w.heap.size + 1 := by omega
theorem wp_still_tail {P : Program} {id : Nat} {Q : Exit → Act → World → Prop} {a : Act} {w : World} {l : List Oper} (n : Nat) (hm : P.follows .mixedOrders = true) (hB : Region.lexTailB .any l.toArray n = true)
    (h : wpStill P l.toArray w.drew (fun a' => wpList P l.toArray Q (l.drop n) a' w.drew) (l.take n) a) : (Code.region id l.toArray true).wp P Q a w :=
  wp_region_still_tail n hm hB h
/-- A region that draws its order, whose operations only read and whose callees leave alone what lay there: walked once, in the order of the text. -/
theorem wp_region_below {P : Program} {id : Nat} {Q : Exit → Act → World → Prop} {a : Act} {w : World} {l : List Oper} (hm : P.follows .mixedOrders = true) (hB : Region.lexB .any l.toArray = true)
    (h : wpQuiet P l.toArray (fun w' => Below w.heap.size w w') (fun a' => ∀ w', Below w.heap.size w w' → Q .normal a' w') l a) : (Code.region id l.toArray true).wp P Q a w :=
  wp_region_quiet (C := fun w' => Below w.heap.size w w') hm hB ((Below.refl _ w).drew) (by simpa using h)

/-- An operation of such a region whose guard says no. -/
theorem wpStill_skip {P : Program} {ops : Array Oper} {w : World} {Q : Act → Prop} {o : Oper} {rest : List Oper} {a : Act} (hw : Region.wanted o (yielded ops a.tmps) = false) (h : wpStill P ops w Q rest (a.put o.dst undef)) : wpStill P ops w Q (o :: rest) a := by
  unfold wpStill
  rw [hw]
  exact h
end Go.Proofs.Ytmjfgnnefcimiaa
namespace Go.Proofs.Ytmjfgnnefcimiaa
open Go.RowKit

/-- The blocks from before that may be turned: the first own entries, in their order; and others. -/
structure Gs where
  fix : List Nat
  ext : List Nat
instance : Membership Nat Gs := ⟨fun G b => b ∈ G.fix ∨ b ∈ G.ext⟩
def Gs.nil : Gs := ⟨[], []⟩
@[simp] theorem Gs.mem_nil (b : Nat) : ¬ b ∈ Gs.nil := by rintro (h | h) <;> cases h
theorem Gs.mem_fix {G : Gs} {b : Nat} (h : b ∈ G.fix) : b ∈ G := .inl h
/-- What is known of one cell's value: itself; an address in own entry i; the slice or the map that own entry i is; a closure. -/
inductive CV where
  | v (x : Value)
  | ref (i off : Nat)
  | vref (i off : Nat)
  | row (i : Nat)
  | sl (i off n c : Nat)
  | mp (i : Nat)
  | clo (f : Fn) (cap : List CV)
  | any
inductive Pc where
  | c (x : CV)
  | agg (l : List CV)
inductive AV where
  | p (x : Pc)
  | tup (l : List Pc)
/-- Where the own entries lie: their blocks, and the slices that they are. -/
structure Env where
  blk : Nat → Option Nat
  val : Nat → Option Value
structure Env.le (a b : Env) : Prop where
  blk : ∀ i x, a.blk i = some x → b.blk i = some x
  val : ∀ i x, a.val i = some x → b.val i = some x
theorem Env.le.refl (a : Env) : a.le a := ⟨fun _ _ h => h, fun _ _ h => h⟩
theorem Env.le.trans {a b c : Env} (h : a.le b) (k : b.le c) : a.le c := ⟨fun i x hx => k.blk i x (h.blk i x hx), fun i x hx => k.val i x (h.val i x hx)⟩

mutual
def CV.den (r : Env) : CV → Value → Prop
  | .v x, u => u = x
  | .ref i off, u => ∃ b, r.blk i = some b ∧ u = .pointer (some ⟨b, off, none⟩)
  | .vref i off, u => ∃ b o n c, r.val i = some (.slice (some ⟨b, o, none⟩) n c) ∧ u = .pointer (some ⟨b, o + off, none⟩)
  | .row i, u => r.val i = some u
  | .sl i off n c, u => ∃ b, r.blk i = some b ∧ u = .slice (some ⟨b, off, none⟩) n c
  | .mp i, u => ∃ b, r.blk i = some b ∧ u = .map (some b)
  | .clo f cap, u => ∃ us : List Value, u = .func f #[] us.toArray ∧ denL r cap us
  | .any, _ => True
def denL (r : Env) : List CV → List Value → Prop
  | [], us => us = []
  | c :: cs, us => ∃ u l, us = u :: l ∧ c.den r u ∧ denL r cs l
end
def Pc.den (r : Env) : Pc → Value → Prop
  | .c x, u => x.den r u
  | .agg l, u => ∃ us : List Value, u = .agg us.toArray ∧ denL r l us
def pdenL (r : Env) : List Pc → List Value → Prop
  | [], us => us = []
  | c :: cs, us => ∃ u l, us = u :: l ∧ c.den r u ∧ pdenL r cs l
def AV.den (r : Env) : AV → Value → Prop
  | .p x, u => x.den r u
  | .tup l, u => ∃ us : List Value, u = .tuple us.toArray ∧ pdenL r l us

mutual
theorem CV.den_mono {r r' : Env} (h : r.le r') : ∀ (c : CV) (u : Value), c.den r u → c.den r' u
  | .v x, u, hd => by simpa only [CV.den] using hd
  | .ref i off, u, hd => by simp only [CV.den] at hd ⊢; obtain ⟨b, hb, hu⟩ := hd; exact ⟨b, h.blk _ _ hb, hu⟩
  | .vref i off, u, hd => by simp only [CV.den] at hd ⊢; obtain ⟨b, o, n, c, hb, hu⟩ := hd; exact ⟨b, o, n, c, h.val _ _ hb, hu⟩
  | .row i, u, hd => by simp only [CV.den] at hd ⊢; exact h.val _ _ hd
  | .sl i off n c, u, hd => by simp only [CV.den] at hd ⊢; obtain ⟨b, hb, hu⟩ := hd; exact ⟨b, h.blk _ _ hb, hu⟩
  | .mp i, u, hd => by simp only [CV.den] at hd ⊢; obtain ⟨b, hb, hu⟩ := hd; exact ⟨b, h.blk _ _ hb, hu⟩
  | .clo f cap, u, hd => by simp only [CV.den] at hd ⊢; obtain ⟨us, hu, hl⟩ := hd; exact ⟨us, hu, denL_mono h cap us hl⟩
  | .any, u, hd => by simp only [CV.den]
theorem denL_mono {r r' : Env} (h : r.le r') : ∀ (l : List CV) (us : List Value), denL r l us → denL r' l us
  | [], us, hd => by simpa only [denL] using hd
  | c :: cs, us, hd => by simp only [denL] at hd ⊢; obtain ⟨u, l, hu, hc, hl⟩ := hd; exact ⟨u, l, hu, CV.den_mono h c u hc, denL_mono h cs l hl⟩
end
theorem Pc.den_mono {r r' : Env} (h : r.le r') : ∀ (c : Pc) (u : Value), c.den r u → c.den r' u
  | .c x, u, hd => CV.den_mono h x u hd
  | .agg l, u, hd => by obtain ⟨us, hu, hl⟩ := hd; exact ⟨us, hu, denL_mono h l us hl⟩
theorem pdenL_mono {r r' : Env} (h : r.le r') : ∀ (l : List Pc) (us : List Value), pdenL r l us → pdenL r' l us
  | [], us, hd => hd
  | c :: cs, us, hd => by obtain ⟨u, l, hu, hc, hl⟩ := hd; exact ⟨u, l, hu, Pc.den_mono h c u hc, pdenL_mono h cs l hl⟩
theorem AV.den_mono {r r' : Env} (h : r.le r') : ∀ (c : AV) (u : Value), c.den r u → c.den r' u
  | .p x, u, hd => Pc.den_mono h x u hd
  | .tup l, u, hd => by obtain ⟨us, hu, hl⟩ := hd; exact ⟨us, hu, pdenL_mono h l us hl⟩

theorem denL_at {r : Env} : ∀ {l : List CV} {us : List Value} {k : Nat} {c : CV}, denL r l us → l[k]? = some c → ∃ u, us[k]? = some u ∧ c.den r u
  | [], us, k, c, hd, h => by simp at h
  | a :: l, us, 0, c, hd, h => by
    simp only [denL] at hd; obtain ⟨u, l', hu, hc, hl⟩ := hd; subst hu
    simp at h; subst h; exact ⟨u, by simp, hc⟩
  | a :: l, us, k + 1, c, hd, h => by
    simp only [denL] at hd; obtain ⟨u, l', hu, hc, hl⟩ := hd; subst hu
    simpa using denL_at hl (by simpa using h)
theorem denL_length {r : Env} : ∀ {l : List CV} {us : List Value}, denL r l us → us.length = l.length
  | [], us, hd => by simp only [denL] at hd; subst hd; rfl
  | a :: l, us, hd => by simp only [denL] at hd; obtain ⟨u, l', hu, hc, hl⟩ := hd; subst hu; simp [denL_length hl]
theorem denL_drop {r : Env} : ∀ {l : List CV} {us : List Value} (k : Nat), denL r l us → denL r (l.drop k) (us.drop k)
  | l, us, 0, hd => by simpa using hd
  | [], us, k + 1, hd => by simp only [denL] at hd; subst hd; simp [denL]
  | a :: l, us, k + 1, hd => by simp only [denL] at hd; obtain ⟨u, l', hu, hc, hl⟩ := hd; subst hu; simpa using denL_drop k hl
theorem denL_take {r : Env} : ∀ {l : List CV} {us : List Value} (k : Nat), denL r l us → denL r (l.take k) (us.take k)
  | l, us, 0, hd => by simp [denL]
  | [], us, k + 1, hd => by simp only [denL] at hd; subst hd; simp [denL]
  | a :: l, us, k + 1, hd => by
    simp only [denL] at hd; obtain ⟨u, l', hu, hc, hl⟩ := hd; subst hu
    simp only [List.take_succ_cons, denL]; exact ⟨u, _, rfl, hc, denL_take k hl⟩
theorem denL_append {r : Env} : ∀ {l m : List CV} {us vs : List Value}, denL r l us → denL r m vs → denL r (l ++ m) (us ++ vs)
  | [], m, us, vs, hd, h => by simp only [denL] at hd; subst hd; simpa using h
  | a :: l, m, us, vs, hd, h => by
    simp only [denL] at hd; obtain ⟨u, l', hu, hc, hl⟩ := hd; subst hu
    simp only [List.cons_append, denL]; exact ⟨u, _, rfl, hc, denL_append hl h⟩
theorem denL_set {r : Env} : ∀ {l : List CV} {us : List Value} (k : Nat) {c : CV} {u : Value}, denL r l us → c.den r u → denL r (l.set k c) (us.set k u)
  | [], us, k, c, u, hd, h => by simp only [denL] at hd; subst hd; simp [denL]
  | a :: l, us, 0, c, u, hd, h => by
    simp only [denL] at hd; obtain ⟨u', l', hu, hc, hl⟩ := hd; subst hu
    simp only [List.set_cons_zero, denL]; exact ⟨u, _, rfl, h, hl⟩
  | a :: l, us, k + 1, c, u, hd, h => by
    simp only [denL] at hd; obtain ⟨u', l', hu, hc, hl⟩ := hd; subst hu
    simp only [List.set_cons_succ, denL]; exact ⟨u', _, rfl, hc, denL_set k hl h⟩
theorem denL_vals {r : Env} : ∀ us : List Value, denL r (us.map .v) us
  | [] => by simp [denL]
  | u :: us => by simp only [List.map_cons, denL]; exact ⟨u, us, rfl, by simp [CV.den], denL_vals us⟩
theorem denL_vals_inv {r : Env} : ∀ {us vs : List Value}, denL r (us.map .v) vs → vs = us
  | [], vs, h => by simpa [denL] using h
  | u :: us, vs, h => by
    simp only [List.map_cons, denL] at h; obtain ⟨u', l, hu, hc, hl⟩ := h
    simp only [CV.den] at hc; subst hc; subst hu; rw [denL_vals_inv hl]

/-- A value as it stands. -/
def pcOf : Value → Pc
  | .agg cs => .agg (cs.toList.map .v)
  | x => .c (.v x)
def AV.of : Value → AV
  | .tuple vs => .tup (vs.toList.map pcOf)
  | .agg cs => .p (.agg (cs.toList.map .v))
  | x => .p (.c (.v x))
theorem pcOf_den (r : Env) (x : Value) : (pcOf x).den r x := by
  unfold pcOf
  split
  · rename_i cs; exact ⟨cs.toList, by simp, denL_vals _⟩
  · simp [Pc.den, CV.den]
theorem pdenL_of (r : Env) : ∀ l : List Value, pdenL r (l.map pcOf) l
  | [] => rfl
  | x :: l => ⟨x, l, rfl, pcOf_den r x, pdenL_of r l⟩
theorem AV.of_den (r : Env) (x : Value) : (AV.of x).den r x := by
  unfold AV.of
  split
  · rename_i vs; exact ⟨vs.toList, by simp, pdenL_of r _⟩
  · rename_i cs; exact ⟨cs.toList, by simp, denL_vals _⟩
  · simp [AV.den, Pc.den, CV.den]

/-! Frames: the slots of which something is known, the latest first. -/
abbrev Fr := List (Nat × AV)
def Fr.get : Fr → Nat → AV
  | [], _ => .p (.c .any)
  | (d, x) :: r, k => match Nat.beq d k with | true => x | false => Fr.get r k
def Fr.put (f : Fr) (dst : Option Tmp) (x : AV) : Fr := match dst with | some d => (d, x) :: f | none => f
def Fr.ev (f : Fr) : Operand → AV
  | .tmp t => f.get t
  | .const x => AV.of x
  | .global g => .p (.c (.v (.pointer (some ⟨g, 0, none⟩))))
  | .func fn => .p (.c (.clo (.func fn) []))
def FDen (r : Env) (f : Fr) (a : Act) : Prop := ∀ k, (f.get k).den r (a.tmps.getD k undef)
theorem FDen.mono {r r' : Env} {f : Fr} {a : Act} (h : FDen r f a) (hr : r.le r') : FDen r' f a := fun k => AV.den_mono hr _ _ (h k)
theorem FDen.ev {r : Env} {f : Fr} {a : Act} (h : FDen r f a) (x : Operand) : (f.ev x).den r (a.eval x) := by
  cases x with
  | tmp t => exact h t
  | const x => exact AV.of_den r x
  | global g => simp [Fr.ev, AV.den, Pc.den, CV.den, Act.eval]
  | func fn => simp [Fr.ev, AV.den, Pc.den, CV.den, Act.eval, denL]
def dstOk (N : Nat) : Option Tmp → Bool
  | none => true
  | some d => Nat.blt d N
theorem FDen.put {r : Env} {f : Fr} {a : Act} (h : FDen r f a) {dst : Option Tmp} {x : AV} {u : Value} (hx : x.den r u) (hN : dstOk a.tmps.size dst = true) : FDen r (f.put dst x) (a.put dst u) := by
  cases dst with
  | none => exact h
  | some d =>
    have hd : d < a.tmps.size := by simpa [dstOk, Nat.blt_eq] using hN
    intro k
    simp only [Fr.put, Fr.get, Act.put]
    by_cases hk : d = k
    · subst hk
      simp only [Nat.beq_refl]
      rw [Array.getD_eq_getD_getElem?, Array.getElem?_setIfInBounds]
      simp [hd, hx]
    · have : Nat.beq d k = false := by
        cases h2 : Nat.beq d k
        · rfl
        · exact absurd (Nat.eq_of_beq_eq_true h2) hk
      simp only [this]
      rw [Array.getD_eq_getD_getElem?, Array.getElem?_setIfInBounds, if_neg hk, ← Array.getD_eq_getD_getElem?]
      exact h k
theorem put_size (a : Act) (dst : Option Tmp) (u : Value) : (a.put dst u).tmps.size = a.tmps.size := by cases dst <;> simp [Act.put]
theorem put_defers (a : Act) (dst : Option Tmp) (u : Value) : (a.put dst u).defers = a.defers := by cases dst <;> rfl
/-- Nothing is known of a slot any more. -/
theorem FDen.putAny {r : Env} {f : Fr} {a : Act} (h : FDen r f a) {dst : Option Tmp} (u : Value) (hN : dstOk a.tmps.size dst = true) : FDen r (f.put dst (.p (.c .any))) (a.put dst u) := h.put (by simp [AV.den, Pc.den, CV.den]) hN

/-! What the call owns. -/
inductive Ow where
  | cells (t : TypeId) (l : List CV)
  | row (e : TypeId) (size n : Nat) (xs : List Value)
  | ext (φ : Nat → World → Prop)
  | view (φ : Option Addr → Prop) (n : Nat) (xs : List Value)
  | gone
def Ow.holds (r : Env) (w : World) (i : Nat) : Ow → Prop
  | .cells t l => ∃ b us, r.blk i = some b ∧ w.heap[b]? = some (.cells us.toArray t (0, 0)) ∧ denL r l us
  | .row e size n xs => ∃ v, r.val i = some v ∧ v.ownBlock = r.blk i ∧ w.ownsRow 0 e size v n xs
  | .ext φ => ∃ b, r.blk i = some b ∧ φ b w ∧ ∀ w' : World, w'.heap[b]? = w.heap[b]? → φ b w'
  | .view φ n xs => ∃ A c, r.val i = some (.slice A n c) ∧ n ≤ c ∧ (c ≤ maxLen ∧ φ A) ∧ r.blk i = none ∧ ∀ j u, xs[j]? = some u → ∃ b off, A = some ⟨b, off, none⟩ ∧ b < w.heap.size ∧ (∀ k, r.blk k ≠ some b) ∧ w.cell? ⟨b, off + j, none⟩ = some u
  | .gone => True

/-- The state of the call's memory: w0 the world at its start, G the blocks from before that it may turn (the first own entries). -/
structure Rel (w0 : World) (G : Gs) (S : List Ow) (r : Env) (w : World) : Prop where
  os : w.os = w0.os
  tape : w.tape = w0.tape
  output : w.output = w0.output
  size : w0.heap.size ≤ w.heap.size
  old : ∀ k, k < w0.heap.size → k ∉ G → w.heap[k]? = w0.heap[k]?
  own : ∀ (i : Nat) (o : Ow), S[i]? = some o → o.holds r w i
  inj : ∀ i j b, r.blk i = some b → r.blk j = some b → i = j
  new : ∀ i b, r.blk i = some b → b < w.heap.size ∧ (b < w0.heap.size → b ∈ G)
  outB : ∀ i, S.length ≤ i → r.blk i = none
  outV : ∀ i, S.length ≤ i → r.val i = none
  first : ∀ (i g : Nat), G.fix[i]? = some g → r.blk i = some g

theorem Ow.holds_block {r : Env} {w w' : World} {i : Nat} {o : Ow} (h : o.holds r w i) (hb : ∀ b, r.blk i = some b → w'.heap[b]? = w.heap[b]?) (hs : w.heap.size ≤ w'.heap.size) (hv : ∀ b, b < w.heap.size → (∀ k, r.blk k ≠ some b) → w'.heap[b]? = w.heap[b]?) : o.holds r w' i := by
  cases o with
  | cells t l => obtain ⟨b, us, h1, h2, h3⟩ := h; exact ⟨b, us, h1, (hb b h1).trans h2, h3⟩
  | row e size n xs =>
    obtain ⟨v, h1, h2, h3, h4⟩ := h
    refine ⟨v, h1, h2, h3, ?_⟩
    rcases h4 with h4 | ⟨g, cap, cur, hv, hg, hh, hr⟩
    · exact .inl h4
    · have : r.blk i = some g := by rw [← h2, hv]; rfl
      exact .inr ⟨g, cap, cur, hv, hg, (hb g this).trans hh, hr⟩
  | ext φ => obtain ⟨b, h1, h2, h3⟩ := h; exact ⟨b, h1, h3 w' (hb b h1), fun w'' hw => h3 w'' (hw.trans (hb b h1))⟩
  | view φ n xs =>
    obtain ⟨A, c, h1, h2, h3, h4, h5⟩ := h
    refine ⟨A, c, h1, h2, h3, h4, fun j u hj => ?_⟩
    obtain ⟨b, off, h6, h7, h8, h9⟩ := h5 j u hj
    exact ⟨b, off, h6, Nat.lt_of_lt_of_le h7 hs, h8, (World.cell?_of_block (w := w) (a := ⟨b, off + j, none⟩) (hv b h7 h8)).trans h9⟩
  | gone => trivial
theorem Ow.holds_mono {r r' : Env} (hr : r.le r') {w : World} {i : Nat} {o : Ow} (h : o.holds r w i) (hb : r'.blk i = r.blk i) (hn : ∀ k b, r'.blk k = some b → r.blk k = some b ∨ w.heap.size ≤ b) : o.holds r' w i := by
  cases o with
  | cells t l => obtain ⟨b, us, h1, h2, h3⟩ := h; exact ⟨b, us, hr.blk _ _ h1, h2, denL_mono hr _ _ h3⟩
  | row e size n xs => obtain ⟨v, h1, h2, h3⟩ := h; exact ⟨v, hr.val _ _ h1, h2.trans hb.symm, h3⟩
  | ext φ => obtain ⟨b, h1, h2⟩ := h; exact ⟨b, hr.blk _ _ h1, h2⟩
  | view φ n xs =>
    obtain ⟨A, c, h1, h2, h3, h4, h5⟩ := h
    refine ⟨A, c, hr.val _ _ h1, h2, h3, hb.trans h4, fun j u hj => ?_⟩
    obtain ⟨b, off, h6, h7, h8, h9⟩ := h5 j u hj
    refine ⟨b, off, h6, h7, fun k hk => ?_, h9⟩
    rcases hn k b hk with h | h
    · exact h8 k h
    · omega
  | gone => trivial

section
variable {w0 : World} {G : Gs} {S : List Ow} {r : Env} {w : World}
/-- Behind what leaves alone all that lies there. -/
theorem Rel.below (h : Rel w0 G S r w) {w' : World} (hb : Below w.heap.size w w') : Rel w0 G S r w' :=
  ⟨hb.os.trans h.os, hb.tape.trans h.tape, hb.output.trans h.output, Nat.le_trans h.size hb.size,
    fun k hk hg => (hb.block k (Nat.lt_of_lt_of_le hk h.size)).trans (h.old k hk hg),
    fun i o ho => Ow.holds_block (h.own i o ho) (fun b hb' => hb.block b (h.new i b hb').1) hb.size (fun b hb' _ => hb.block b hb'),
    h.inj, fun i b hb' => ⟨Nat.lt_of_lt_of_le (h.new i b hb').1 hb.size, (h.new i b hb').2⟩, h.outB, h.outV, h.first⟩
theorem Rel.drew (h : Rel w0 G S r w) : Rel w0 G S r w.drew := h.below ((Below.refl _ _).drew)
/-- A cell of an own entry. -/
theorem Rel.cell (h : Rel w0 G S r w) {i off : Nat} {t : TypeId} {l : List CV} {c : CV} (hi : S[i]? = some (.cells t l)) (hc : l[off]? = some c) :
    ∃ b u, r.blk i = some b ∧ w.cell? ⟨b, off, none⟩ = some u ∧ c.den r u := by
  obtain ⟨b, us, h1, h2, h3⟩ := h.own i _ hi
  obtain ⟨u, hu, hd⟩ := denL_at h3 hc
  exact ⟨b, u, h1, by simp [World.cell?, h2, hu], hd⟩
end
/-- Cells from before the call that it may not turn. -/
def CellsAt (w0 : World) (G : Gs) (b off : Nat) (xs : List Value) : Prop := b < w0.heap.size ∧ b ∉ G ∧ ∀ j u, xs[j]? = some u → w0.cell? ⟨b, off + j, none⟩ = some u
theorem Rel.oldCell {w0 : World} {G : Gs} {S : List Ow} {r : Env} {w : World} (h : Rel w0 G S r w) {b : Nat} (hb : b < w0.heap.size) (hg : b ∉ G) (off : Nat) : w.cell? ⟨b, off, none⟩ = w0.cell? ⟨b, off, none⟩ :=
  World.cell?_of_block (w := w0) (a := ⟨b, off, none⟩) (h.old b hb hg)

/-- How many slots; what is deferred. -/
structure Nd where
  n : Nat
  ds : List Deferred
/-- What is known of a state of the walk. -/
def Good (w0 : World) (G : Gs) (N : Nd) (f : Fr) (S : List Ow) (a : Act) (w : World) : Prop :=
  ∃ r, Rel w0 G S r w ∧ FDen r f a ∧ a.tmps.size = N.n ∧ a.defers = N.ds
end Go.Proofs.Ytmjfgnnefcimiaa
