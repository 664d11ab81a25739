/- Walks: a new memory. Plain: the evaluation of a block; each pass of the optimizer keeps it. Walks: the variables and the memory of an evaluation that are described. Plain: the evaluation does not depend on variables that are not live; Dead keeps it. Plain: where an evaluation stands; the result of Opt is equivalent. The arguments of a law, opened: a setup; an array of words. Walks: two memories with the same content are the same. Walks: whole variables in cells; what a function that is handed a memory gives. Plain: what an evaluation gives is well-formed; the result of Opt is equivalent. -/
import Derived.Deep.Strs
import Derived.Test.YtmjfgnnefcimiaaM1
import Derived.Test.YtmjfgnnefcimiaaM13
import Derived.Test.YtmjfgnnefcimiaaM14
import Derived.Test.YtmjfgnnefcimiaaM15
import Derived.Test.YtmjfgnnefcimiaaM16
import Derived.Test.YtmjfgnnefcimiaaM17
import Derived.Test.YtmjfgnnefcimiaaM18
import Derived.Test.YtmjfgnnefcimiaaM19
import Derived.Test.YtmjfgnnefcimiaaM20
import Derived.Test.YtmjfgnnefcimiaaM21
import Derived.Test.YtmjfgnnefcimiaaM22
import Derived.Test.YtmjfgnnefcimiaaM23
import Derived.Test.YtmjfgnnefcimiaaM24
import Derived.Test.YtmjfgnnefcimiaaM27
import Derived.Test.YtmjfgnnefcimiaaM28
import Derived.Test.YtmjfgnnefcimiaaM29
import Derived.Test.YtmjfgnnefcimiaaM3
import Derived.Test.YtmjfgnnefcimiaaM30
import Derived.Test.YtmjfgnnefcimiaaM31
import Derived.Test.YtmjfgnnefcimiaaM5
import Derived.Test.YtmjfgnnefcimiaaM6
import Derived.Test.YtmjfgnnefcimiaaM7
namespace Go.Proofs.Ytmjfgnnefcimiaa
open Go.RowKit

def MemP.zero (p : Nat) : MemP := ⟨List.replicate (256 * p) 0, List.replicate (256 * p) 0, List.replicate (256 * p) 0, List.replicate (256 * p) 0, List.replicate p 0⟩
theorem mem_zero_ok {p : Nat} (hp : p ≤ 4096) : (MemP.zero p).ok (256 * p) p :=
  ⟨List.length_replicate, List.length_replicate, List.length_replicate, rfl, hp, fun x hx => by rw [List.eq_of_mem_replicate hx]; omega, fun x hx => by rw [List.eq_of_mem_replicate hx]; omega, fun x hx => by rw [List.eq_of_mem_replicate hx]; omega⟩
theorem made_zero (z : Value) (n : Nat) : (madeCells #[z] (n * 1)).toList = List.replicate n z := by
  refine List.ext_getElem? fun i => ?_
  simp only [madeCells, Array.getElem?_toList, Array.getElem?_map, List.getElem?_replicate, Nat.mul_one]
  by_cases h : i < n <;> simp [h, Nat.mod_one]
theorem memS_bnd (n p : Nat) (M : MemP) : sbnd 6 (memS 0 n p M) = true := by
  simp only [sbnd, Ow.bnd, bndL_vals, bndL, CV.bnd]
  rfl
set_option maxRecDepth 100000 in
theorem new_mem (p : Nat) (w : World) (hp : 1 ≤ p ∧ p ≤ 64) :
    Calls Try.prog 60 #[.int .i64 (p : Int), .bool false] w fun e w' => ∃ g gs, e = .returned (.pointer (some ⟨g, 0, none⟩)) ∧ NewObjs w w' (g :: gs) (memS 0 (256 * p) p (MemP.zero p)) := by
  obtain ⟨Z, hZ⟩ : ∃ Z : List Value, Z = List.replicate (256 * p) (byteV 0) := ⟨_, rfl⟩
  obtain ⟨Y, hY⟩ : ∃ Y : List Value, Y = List.replicate p (intV 0) := ⟨_, rfl⟩
  obtain ⟨n, hn⟩ : ∃ n, n = 256 * p := ⟨_, rfl⟩
  have hmZ : (madeCells (Value.int .u8 0).cells (n * 1)).toList = Z := by rw [hZ, hn]; exact made_zero _ _
  have hmY : (madeCells (Value.int .i64 0).cells (p * 1)).toList = Y := by rw [hY]; exact made_zero _ _
  have h256 : (256 : Int) * (p : Int) = (n : Int) := by omega
  have hfb : Fr.bnd 4 [(1, one (.bool false)), (5, one (.int .i64 (p : Int))), (6, .p (.c (.ref 3 0)))] = true := rfl
  have hsb : sbnd 4 [.cells 5 (Z.map .v), .cells 5 (Z.map .v), .cells 3 (Y.map .v), .cells 95 [.sl 0 0 n n, .v (.slice none 0 0), .sl 1 0 n n, .v (.slice none 0 0), .sl 2 0 p p, .v (.bool false)]] = true := by
    simp only [sbnd, Ow.bnd, bndL_vals, bndL, CV.bnd]; rfl
  refine calls_satq [.int .i64 (p : Int), .bool false] Try.func60 Try.ntmps60 rfl (by simp) ?_
  refine satq_seq ?_
  conv => whnf
  refine satq_seq ?_
  conv => whnf
  refine op_min rfl rfl rfl rfl ?_
  rw [if_neg (by omega)]
  conv => whnf
  refine op_max rfl rfl rfl rfl ?_
  rw [if_pos (by omega)]
  conv => whnf
  refine satq_mid (α := Unit) (fun _ => [(1, one (.bool false)), (5, one (.int .i64 (p : Int))), (6, .p (.c (.ref 3 0)))]) (fun _ => [.cells 5 (Z.map .v), .cells 5 (Z.map .v), .cells 3 (Y.map .v), .cells 95 [.sl 0 0 n n, .v (.slice none 0 0), .sl 1 0 n n, .v (.slice none 0 0), .sl 2 0 p p, .v (.bool false)]]) ?_ fun _ => ?_
  · refine satq_vc ?_
    refine sat_anyG (.q 0 (.q 1 (.q 3 (.q 4 (.q 6 (.q 8 (.alt 2 (.alt 5 (.alt 7 (.q 9 (.alt 10 (.q 11 .done) .no)) .no) (.alt 7 (.alt 5 (.q 9 (.alt 10 (.q 11 .done) .no)) .no) .no)) (.alt 5 (.alt 2 (.alt 7 (.q 9 (.alt 10 (.q 11 .done) .no)) .no) (.alt 7 (.alt 2 (.q 9 (.alt 10 (.q 11 .done) .no)) .no) .no)) (.alt 7 (.alt 2 (.alt 5 (.q 9 (.alt 10 (.q 11 .done) .no)) .no) (.alt 5 (.alt 2 (.q 9 (.alt 10 (.q 11 .done) .no)) .no) .no)) .no))))))))) mixed (by kernel_rfl) (by kernel_rfl) ?_
    conv => whnf
    refine ⟨(n : Int), by rw [h256]; exact wr64 (by omega), ?_⟩
    conv => whnf
    refine ⟨(n : Int), by rw [h256]; exact wr64 (by omega), ?_⟩
    conv => whnf
    refine ⟨?_, ?_, ?_, trivial⟩
    · conv => whnf
      refine op_makeCells 1 n rfl rfl rfl rfl rfl rfl rfl (by omega) (by show 1 * n ≤ _; omega) (by show n ≤ 9223372036854775807; omega) rfl (xs := Z) hmZ ?_
      conv => whnf
      refine ⟨?_, ?_, trivial⟩
      · conv => whnf
        refine op_makeCells 1 n rfl rfl rfl rfl rfl rfl rfl (by omega) (by show 1 * n ≤ _; omega) (by show n ≤ 9223372036854775807; omega) rfl (xs := Z) hmZ ?_
        conv => whnf
        refine ⟨?_, trivial⟩
        conv => whnf
        refine op_makeCells 1 p rfl rfl rfl rfl rfl rfl rfl (by omega) (by show 8 * p ≤ _; omega) (by show p ≤ 9223372036854775807; omega) rfl (xs := Y) hmY ?_
        conv => whnf
        refine ⟨?_, trivial⟩
        conv => whnf
        exact atq_mid () (ent_ren [0, 1, 2, 3] (aI rfl (aI rfl (aI rfl trivial))) (aI ((Exists.intro _ (aI rfl (aI rfl (Or.inl (renL_vals _ _).symm))))) (aI ((Exists.intro _ (aI rfl (aI rfl (Or.inl (renL_vals _ _).symm))))) (aI ((Exists.intro _ (aI rfl (aI rfl (Or.inl (renL_vals _ _).symm))))) (aI ((Exists.intro _ (aI rfl (aI rfl (Or.inl rfl))))) trivial)))) hfb hsb rfl rfl rfl)
      · conv => whnf
        refine op_makeCells 1 p rfl rfl rfl rfl rfl rfl rfl (by omega) (by show 8 * p ≤ _; omega) (by show p ≤ 9223372036854775807; omega) rfl (xs := Y) hmY ?_
        conv => whnf
        refine ⟨?_, trivial⟩
        conv => whnf
        refine op_makeCells 1 n rfl rfl rfl rfl rfl rfl rfl (by omega) (by show 1 * n ≤ _; omega) (by show n ≤ 9223372036854775807; omega) rfl (xs := Z) hmZ ?_
        conv => whnf
        refine ⟨?_, trivial⟩
        conv => whnf
        exact atq_mid () (ent_ren [0, 2, 1, 3] (aI rfl (aI rfl (aI rfl trivial))) (aI ((Exists.intro _ (aI rfl (aI rfl (Or.inl (renL_vals _ _).symm))))) (aI ((Exists.intro _ (aI rfl (aI rfl (Or.inl (renL_vals _ _).symm))))) (aI ((Exists.intro _ (aI rfl (aI rfl (Or.inl (renL_vals _ _).symm))))) (aI ((Exists.intro _ (aI rfl (aI rfl (Or.inl rfl))))) trivial)))) hfb hsb rfl rfl rfl)
    · conv => whnf
      refine op_makeCells 1 n rfl rfl rfl rfl rfl rfl rfl (by omega) (by show 1 * n ≤ _; omega) (by show n ≤ 9223372036854775807; omega) rfl (xs := Z) hmZ ?_
      conv => whnf
      refine ⟨?_, ?_, trivial⟩
      · conv => whnf
        refine op_makeCells 1 n rfl rfl rfl rfl rfl rfl rfl (by omega) (by show 1 * n ≤ _; omega) (by show n ≤ 9223372036854775807; omega) rfl (xs := Z) hmZ ?_
        conv => whnf
        refine ⟨?_, trivial⟩
        conv => whnf
        refine op_makeCells 1 p rfl rfl rfl rfl rfl rfl rfl (by omega) (by show 8 * p ≤ _; omega) (by show p ≤ 9223372036854775807; omega) rfl (xs := Y) hmY ?_
        conv => whnf
        refine ⟨?_, trivial⟩
        conv => whnf
        exact atq_mid () (ent_ren [1, 0, 2, 3] (aI rfl (aI rfl (aI rfl trivial))) (aI ((Exists.intro _ (aI rfl (aI rfl (Or.inl (renL_vals _ _).symm))))) (aI ((Exists.intro _ (aI rfl (aI rfl (Or.inl (renL_vals _ _).symm))))) (aI ((Exists.intro _ (aI rfl (aI rfl (Or.inl (renL_vals _ _).symm))))) (aI ((Exists.intro _ (aI rfl (aI rfl (Or.inl rfl))))) trivial)))) hfb hsb rfl rfl rfl)
      · conv => whnf
        refine op_makeCells 1 p rfl rfl rfl rfl rfl rfl rfl (by omega) (by show 8 * p ≤ _; omega) (by show p ≤ 9223372036854775807; omega) rfl (xs := Y) hmY ?_
        conv => whnf
        refine ⟨?_, trivial⟩
        conv => whnf
        refine op_makeCells 1 n rfl rfl rfl rfl rfl rfl rfl (by omega) (by show 1 * n ≤ _; omega) (by show n ≤ 9223372036854775807; omega) rfl (xs := Z) hmZ ?_
        conv => whnf
        refine ⟨?_, trivial⟩
        conv => whnf
        exact atq_mid () (ent_ren [2, 0, 1, 3] (aI rfl (aI rfl (aI rfl trivial))) (aI ((Exists.intro _ (aI rfl (aI rfl (Or.inl (renL_vals _ _).symm))))) (aI ((Exists.intro _ (aI rfl (aI rfl (Or.inl (renL_vals _ _).symm))))) (aI ((Exists.intro _ (aI rfl (aI rfl (Or.inl (renL_vals _ _).symm))))) (aI ((Exists.intro _ (aI rfl (aI rfl (Or.inl rfl))))) trivial)))) hfb hsb rfl rfl rfl)
    · conv => whnf
      refine op_makeCells 1 p rfl rfl rfl rfl rfl rfl rfl (by omega) (by show 8 * p ≤ _; omega) (by show p ≤ 9223372036854775807; omega) rfl (xs := Y) hmY ?_
      conv => whnf
      refine ⟨?_, ?_, trivial⟩
      · conv => whnf
        refine op_makeCells 1 n rfl rfl rfl rfl rfl rfl rfl (by omega) (by show 1 * n ≤ _; omega) (by show n ≤ 9223372036854775807; omega) rfl (xs := Z) hmZ ?_
        conv => whnf
        refine ⟨?_, trivial⟩
        conv => whnf
        refine op_makeCells 1 n rfl rfl rfl rfl rfl rfl rfl (by omega) (by show 1 * n ≤ _; omega) (by show n ≤ 9223372036854775807; omega) rfl (xs := Z) hmZ ?_
        conv => whnf
        refine ⟨?_, trivial⟩
        conv => whnf
        exact atq_mid () (ent_ren [1, 2, 0, 3] (aI rfl (aI rfl (aI rfl trivial))) (aI ((Exists.intro _ (aI rfl (aI rfl (Or.inl (renL_vals _ _).symm))))) (aI ((Exists.intro _ (aI rfl (aI rfl (Or.inl (renL_vals _ _).symm))))) (aI ((Exists.intro _ (aI rfl (aI rfl (Or.inl (renL_vals _ _).symm))))) (aI ((Exists.intro _ (aI rfl (aI rfl (Or.inl rfl))))) trivial)))) hfb hsb rfl rfl rfl)
      · conv => whnf
        refine op_makeCells 1 n rfl rfl rfl rfl rfl rfl rfl (by omega) (by show 1 * n ≤ _; omega) (by show n ≤ 9223372036854775807; omega) rfl (xs := Z) hmZ ?_
        conv => whnf
        refine ⟨?_, trivial⟩
        conv => whnf
        refine op_makeCells 1 n rfl rfl rfl rfl rfl rfl rfl (by omega) (by show 1 * n ≤ _; omega) (by show n ≤ 9223372036854775807; omega) rfl (xs := Z) hmZ ?_
        conv => whnf
        refine ⟨?_, trivial⟩
        conv => whnf
        exact atq_mid () (ent_ren [2, 1, 0, 3] (aI rfl (aI rfl (aI rfl trivial))) (aI ((Exists.intro _ (aI rfl (aI rfl (Or.inl (renL_vals _ _).symm))))) (aI ((Exists.intro _ (aI rfl (aI rfl (Or.inl (renL_vals _ _).symm))))) (aI ((Exists.intro _ (aI rfl (aI rfl (Or.inl (renL_vals _ _).symm))))) (aI ((Exists.intro _ (aI rfl (aI rfl (Or.inl rfl))))) trivial)))) hfb hsb rfl rfl rfl)
  refine satq_vc ?_
  conv => whnf
  refine ⟨fun _ => ?_, fun h => absurd h (by decide)⟩
  conv => whnf
  refine ⟨(n : Int), by rw [h256]; exact wr64 (by omega), ?_⟩
  conv => whnf
  refine op_makeCells 1 n rfl rfl rfl rfl rfl rfl rfl (by omega) (by show 1 * n ≤ _; omega) (by show n ≤ 9223372036854775807; omega) rfl (xs := Z) hmZ ?_
  conv => whnf
  refine ⟨(n : Int), by rw [h256]; exact wr64 (by omega), ?_⟩
  conv => whnf
  refine op_makeCells 1 n rfl rfl rfl rfl rfl rfl rfl (by omega) (by show 1 * n ≤ _; omega) (by show n ≤ 9223372036854775807; omega) rfl (xs := Z) hmZ ?_
  conv => whnf
  have hd : (MemP.zero p).dV = Z := by rw [hZ]; exact List.map_replicate
  have hi : (MemP.zero p).iV = Z := by rw [hZ]; exact List.map_replicate
  have hod : (MemP.zero p).odV = Z := by rw [hZ]; exact List.map_replicate
  have hoi : (MemP.zero p).oiV = Z := by rw [hZ]; exact List.map_replicate
  have hr : (MemP.zero p).rV = Y := by rw [hY]; exact List.map_replicate
  rw [← hn]
  refine atq_as (f' := [(4, .p (.c (.ref 0 0)))]) (S' := memS 0 n p (MemP.zero p)) (ent_ren [3, 0, 4, 1, 5, 2] (aI rfl trivial) (aI ((Exists.intro _ (aI rfl (aI rfl (Or.inl rfl))))) (aI ((Exists.intro _ (aI rfl (aI rfl (Or.inl (by rw [hd]; exact (renL_vals _ _).symm)))))) (aI ((Exists.intro _ (aI rfl (aI rfl (Or.inl (by rw [hi]; exact (renL_vals _ _).symm)))))) (aI ((Exists.intro _ (aI rfl (aI rfl (Or.inl (by rw [hod]; exact (renL_vals _ _).symm)))))) (aI ((Exists.intro _ (aI rfl (aI rfl (Or.inl (by rw [hoi]; exact (renL_vals _ _).symm)))))) (aI ((Exists.intro _ (aI rfl (aI rfl (Or.inl (by rw [hr]; exact (renL_vals _ _).symm)))))) trivial)))))) rfl (memS_bnd n p _) rfl rfl rfl) (atq_ret ?_)
  conv => whnf
  exact fin_newObjs 0 (memS 0 n p (MemP.zero p)) (memS 0 n p (MemP.zero p)) (by simp) (fun i hi => by rw [Nat.zero_add]) (memS_sh 0 n p _) (memS_ob n p _) fun w' g gs h => ⟨g, gs, rfl, h⟩
end Go.Proofs.Ytmjfgnnefcimiaa
namespace Go.Proofs.Ytmjfgnnefcimiaa
open Go.RowKit

def getV (vs : List Int) (i : Int) : Int := (vs[i.toNat]?).getD 0
def szN (c : Int) : Nat := if c = 17 ∨ c = 19 then 1 else 4
/-- What an operation leaves: the variables, whether the block goes on, the memory. -/
structure Ap where
  vs : List Int
  stays : Bool
  mem : MemP
def applyP (o : BOp) (vs : List Int) (M : MemP) : Ap :=
  if o.code = 1 then ⟨vs.set o.d.toNat o.n, true, M⟩
  else if o.code = 2 then ⟨vs.set o.d.toNat (getV vs o.a), true, M⟩
  else if o.code = 16 ∨ o.code = 17 then (match M.bad ((getV vs o.a + o.n) % 4294967296) 1 0 (szN o.code) with
    | none => ⟨vs.set o.d.toNat (M.load ((getV vs o.a + o.n) % 4294967296) 0 (szN o.code)), true, M⟩
    | some _ => ⟨vs, false, M⟩)
  else if o.code = 18 ∨ o.code = 19 then ⟨vs, (M.bad ((getV vs o.a + o.n) % 4294967296) 2 0 (szN o.code)).isNone, M.storeM ((getV vs o.a + o.n) % 4294967296) (szN o.code) (getV vs o.b)⟩
  else if o.code = 21 then ⟨vs, getV vs o.a != 0, M⟩
  else if o.code = 22 then ⟨vs, false, M⟩
  else if isBin o.code = true then ⟨vs.set o.d.toNat (wordOp o.code (getV vs o.a) (getV vs o.b)), true, M⟩
  else ⟨vs, true, M⟩
structure Outc where
  leaves : Bool
  index : Int
  done : Int
  pc : Int
  vars : List Int
def Outc.zero : Outc := ⟨false, 0, 0, 0, List.replicate 28 0⟩
structure EvR where
  out : Outc
  mem : MemP
def markI (o : BOp) (i : Int) : Int := if o.code = 20 then o.n else i
def evalL (ats : List Int) : List BOp → Int → List Int → MemP → EvR
  | [], _, _, M => ⟨Outc.zero, M⟩
  | o :: l, i, vs, M =>
    if o.code = 24 ∨ (o.code = 23 ∧ getV vs o.a ≠ 0) then ⟨⟨false, 0, ats.length, o.n, guestsL vs⟩, M⟩
    else if o.code = 25 then ⟨⟨false, 0, ats.length, getV vs o.a, guestsL vs⟩, M⟩
    else if (applyP o vs M).stays = true then evalL ats l (markI o i) (applyP o vs M).vs (applyP o vs M).mem
    else ⟨⟨true, markI o i, markI o i, (ats[(markI o i).toNat]?).getD 0, guestsL vs⟩, (applyP o vs M).mem⟩
def evalBlk (b : Blk) (vs : List Int) (M : MemP) : EvR := if validB b = true then evalL b.at_ b.ops 0 vs M else ⟨Outc.zero, M⟩
structure VarsOk (vs : List Int) : Prop where
  len : vs.length = 28
  word : ∀ x ∈ vs, word x
theorem getV_word {vs : List Int} (h : VarsOk vs) (i : Int) : word (getV vs i) := by
  unfold getV
  cases hi : vs[i.toNat]? with
  | none => exact word0
  | some x => exact h.word x (List.mem_of_getElem? hi)
theorem getV_set_ne {vs : List Int} {d v x : Int} (hd : 0 ≤ d) (hv : 0 ≤ v) (hne : v ≠ d) : getV (vs.set d.toNat x) v = getV vs v := by
  unfold getV; rw [List.getElem?_set_ne (by omega)]
theorem getV_set {vs : List Int} (h : VarsOk vs) {d x : Int} (hd : 0 ≤ d ∧ d < 28) : getV (vs.set d.toNat x) d = x := by
  unfold getV; rw [List.getElem?_set_self (by rw [h.len]; omega)]; rfl
theorem set_ok {vs : List Int} (h : VarsOk vs) (i : Nat) {x : Int} (hx : Go.Proofs.Ytmjfgnnefcimiaa.word x) : VarsOk (vs.set i x) := ⟨by rw [List.length_set]; exact h.len, fun y hy => by
  rcases List.mem_or_eq_of_mem_set hy with h1 | h1
  · exact h.word y h1
  · rw [h1]; exact hx⟩
theorem applyP_ok {o : BOp} {vs : List Int} {M : MemP} (h : VarsOk vs) (hn : word o.n) : VarsOk (applyP o vs M).vs := by
  unfold applyP
  split
  · exact set_ok h _ hn
  split
  · exact set_ok h _ (getV_word h _)
  split
  · split
    · exact set_ok h _ (load_word M _ _ _)
    · exact h
  split
  · exact h
  split
  · exact h
  split
  · exact h
  split
  · exact set_ok h _ (wordOp_word (getV_word h _) (getV_word h _))
  · exact h
/-- The fields of a well-formed operation. -/
theorem formed_d {o : BOp} (hf : formedB o = true) (hD : hasD o.code = true) : 0 ≤ o.d ∧ o.d < 28 ∧ writes o = o.d := by
  have h2 := (formed_split.1 hf).2.1
  rw [hD] at h2
  simp [fieldB] at h2
  refine ⟨by omega, by omega, ?_⟩
  unfold writes; rw [hD]; rfl
theorem formed_a {o : BOp} (hf : formedB o = true) : 0 ≤ o.a ∧ o.a < 28 := by
  have h := (formed_split.1 hf).2.2.1
  cases hA : hasA o.code <;> rw [hA] at h <;> simp [fieldB] at h <;> omega
theorem formed_b {o : BOp} (hf : formedB o = true) : 0 ≤ o.b ∧ o.b < 28 := by
  have h := (formed_split.1 hf).2.2.2.1
  cases hB : hasB o.code <;> rw [hB] at h <;> simp [fieldB] at h <;> omega
theorem formed_d' {o : BOp} (hf : formedB o = true) : 0 ≤ o.d ∧ o.d < 28 := by
  have h := (formed_split.1 hf).2.1
  cases hD : hasD o.code <;> rw [hD] at h <;> simp [fieldB] at h <;> omega
/-- A pure operation: one variable is set. -/
theorem applyP_const {o : BOp} (h : o.code = 1) (vs : List Int) (M : MemP) : applyP o vs M = ⟨vs.set o.d.toNat o.n, true, M⟩ := by unfold applyP; rw [if_pos h]
theorem applyP_move {o : BOp} (h : o.code = 2) (vs : List Int) (M : MemP) : applyP o vs M = ⟨vs.set o.d.toNat (getV vs o.a), true, M⟩ := by unfold applyP; rw [if_neg (by omega), if_pos h]
theorem applyP_bin {o : BOp} (h : isBin o.code = true) (vs : List Int) (M : MemP) : applyP o vs M = ⟨vs.set o.d.toNat (wordOp o.code (getV vs o.a) (getV vs o.b)), true, M⟩ := by
  have h' : 3 ≤ o.code ∧ o.code ≤ 15 := by unfold isBin at h; simpa using h
  unfold applyP; rw [if_neg (by omega), if_neg (by omega), if_neg (by omega), if_neg (by omega), if_neg (by omega), if_neg (by omega), if_pos h]
theorem applyP_guard {o : BOp} (h : o.code = 21) (vs : List Int) (M : MemP) : applyP o vs M = ⟨vs, getV vs o.a != 0, M⟩ := by
  unfold applyP; rw [if_neg (by omega), if_neg (by omega), if_neg (by omega), if_neg (by omega), if_pos h]
theorem evalL_go {ats : List Int} {o : BOp} {l : List BOp} {i : Int} {vs : List Int} {M : MemP} (h1 : ¬ (o.code = 24 ∨ (o.code = 23 ∧ getV vs o.a ≠ 0))) (h2 : o.code ≠ 25) (h3 : (applyP o vs M).stays = true) : evalL ats (o :: l) i vs M = evalL ats l (markI o i) (applyP o vs M).vs (applyP o vs M).mem := by
  show (if _ then _ else _) = _
  rw [if_neg h1, if_neg h2, if_pos h3]
/-! Fold. -/
/-! Copies. -/
end Go.Proofs.Ytmjfgnnefcimiaa
namespace Go.Proofs.Ytmjfgnnefcimiaa
open Go.RowKit

/-- Rights of three pages, a seed, and 19 variables. -/
structure SetP where
  r0 : Int
  r1 : Int
  r2 : Int
  fill : Int
  vars : List Int
structure SetP.ok (x : SetP) : Prop where
  fill : word x.fill
  len : x.vars.length = 19
  word : ∀ v ∈ x.vars, word v
abbrev setL (x : SetP) : List Value := intV x.r0 :: intV x.r1 :: intV x.r2 :: .int .u32 x.fill :: u32L x.vars
abbrev setV (x : SetP) : Value := .agg (setL x).toArray
def SetP.all (x : SetP) : List Int := x.vars ++ List.replicate 9 0
theorem all_ok {x : SetP} (h : x.ok) : VarsOk x.all := ⟨by unfold SetP.all; rw [List.length_append, h.len, List.length_replicate], fun v hv => by
  rcases List.mem_append.1 hv with h1 | h1
  · exact h.word v h1
  · rw [List.eq_of_mem_replicate h1]; exact word0⟩
set_option maxRecDepth 100000 in
theorem vars_walk (x : SetP) (w : World) (hx : x.ok) : Calls Try.prog 31 #[setV x] w fun e w' => e = .returned (varsV x.all) ∧ Below w.heap.size w w' := by
  have hlen : (u32L x.vars).length = 19 := by rw [List.length_map, hx.len]
  refine calls_val [setV x] Try.func31 Try.ntmps31 rfl (by simp) ?_
  conv => whnf
  refine sat_tail 3 mixed (by kernel_rfl) ?_
  conv => whnf
  refine q_slice_arr 2 0 28 rfl rfl rfl rfl rfl ?_
  conv => whnf
  refine q_slice_arr 0 4 19 rfl rfl rfl rfl rfl ?_
  conv => whnf
  have hset : setAll (List.map CV.v (u32L (List.replicate 28 0))) 0 (List.map CV.v (u32L x.vars)) = List.map CV.v (u32L x.all) := by
    have e : List.map CV.v (u32L (List.replicate 28 0)) = List.map CV.v (u32L (List.replicate 19 0)) ++ List.map CV.v (u32L (List.replicate 9 0)) := rfl
    rw [e, setAll_take _ _ 0 (by rw [List.length_map, hlen]; decide) 100 (by decide), setAll_same (by simp [hx.len])]
    unfold SetP.all
    simp [u32L]
  have hl28 : (List.map CV.v (u32L x.all)).length = 28 := by rw [List.length_map, List.length_map, (all_ok hx).len]
  have hset2 : ∀ Z : List CV, Z.length = 28 → setAll Z 0 (List.map CV.v (u32L x.all)) = List.map CV.v (u32L x.all) := fun Z hZ => setAll_same (by rw [hl28, hZ])
  have hcut : cut (List.map CV.v (u32L x.all)) 0 (Try.prog.types[45].size) = some (List.map CV.v (u32L x.all)) := cut_all hl28
  refine op_copy (us := u32L x.vars) (li := List.map CV.v (u32L (List.replicate 28 0))) 2 0 28 28 0 4 19 19 rfl rfl rfl rfl rfl rfl rfl rfl ?_ hlen (fun u hu => by obtain ⟨v, _, rfl⟩ := List.mem_map.1 hu; exact ⟨nofun, nofun⟩) (by omega) (by decide) rfl ?_
  · show List.take 19 (List.map CV.v (u32L x.vars)) = _
    rw [List.take_of_length_le (by rw [List.length_map, hlen]; omega)]
  rw [hset]
  conv => whnf
  rw [hcut]
  conv => whnf
  rw [show Nat.beq (List.map CV.v (u32L x.all)).length (Try.prog.types[45].size) = true from by rw [hl28]; rfl, onesL_u32]
  conv => whnf
  rw [hl28]
  conv => whnf
  rw [hset2 _ rfl]
  conv => whnf
  rw [hcut]
  conv => whnf
  exact fin_val (val_agg _) fun w' hB => ⟨rfl, hB⟩
/-- The memory of a setup. -/
def fillM (x : SetP) : MemP := (MemP.zero 3).pokeTo (fillL 768 x.fill) 768
def SetP.right (x : SetP) : Nat → Int
  | 0 => x.r0
  | 1 => x.r1
  | _ => x.r2
/-- The rights of the first j pages are set. -/
def rightTo (x : SetP) : Nat → MemP
  | 0 => fillM x
  | j + 1 => (rightTo x j).protect j (rightsI (x.right j))
def setupM (x : SetP) : MemP := rightTo x 3
theorem fillM_ok {x : SetP} : (fillM x).ok 768 3 := pokeTo_ok (mem_zero_ok (p := 3) (by omega)) (fillL_length _ _) (fillL_byte _ _) (Nat.le_refl _)
theorem rightTo_ok {x : SetP} : ∀ j, (rightTo x j).ok 768 3
  | 0 => fillM_ok
  | j + 1 => protect_ok (rightTo_ok j) j (rightsI_lt _)
theorem setupM_ok {x : SetP} : (setupM x).ok 768 3 := rightTo_ok 3
theorem right_at (x : SetP) {j : Nat} (h : j < 3) : (List.map CV.v (setL x))[0 + 0 + j * 1]? = some (.v (intV (x.right j))) := by
  have : j = 0 ∨ j = 1 ∨ j = 2 := by omega
  rcases this with rfl | rfl | rfl <;> rfl
set_option maxRecDepth 100000 in
theorem setup_mem (x : SetP) (w : World) (hx : x.ok) : Calls Try.prog 29 #[setV x] w fun e w' => ∃ g gs, e = .returned (.pointer (some ⟨g, 0, none⟩)) ∧ NewObjs w w' (g :: gs) (memS 0 768 3 (setupM x)) := by
  refine calls_val [setV x] Try.func29 Try.ntmps29 rfl (by simp) ?_
  conv => whnf
  refine call_newObjs (xs := [.int .i64 3, .bool false]) (memS 0 (256 * 3) 3 (MemP.zero 3)) (memS 1 (256 * 3) 3 (MemP.zero 3)) rfl (by kernel_rfl) (memS_sh 1 _ 3 _) (memS_ob _ 3 _) (fun r w' hR => new_mem 3 w' (by omega)) ?_
  conv => whnf
  refine call_con (x := strV (fillL 768 x.fill)) rfl (by kernel_rfl) (fun r w' hR => fill_walk x.fill 768 w' hx.fill (by omega)) ?_
  conv => whnf
  refine call_memW (pre := []) (suf := [one (.int .u32 0), one (strV (fillL 768 x.fill))]) 1 768 3 (MemP.zero 3) (fillM x) (.tuple #[]) (fun i hi => by rw [Nat.add_comm]; rfl) rfl rfl (by kernel_rfl) (fun w' g gs hk hU => mem_poke (MemP.zero 3) 768 3 (fillL 768 x.fill) w' g gs hU (mem_zero_ok (p := 3) (by omega)) (fillL_length _ _) (fillL_byte _ _)) ?_
  conv => whnf
  refine ⟨{ j : Nat // j ≤ 3 }, fun y => [(1, .p (.c (.ref 0 0))), (3, .p (.c (.ref 1 0))), (4, one (.int .i64 (y.1 : Int)))], fun y => .cells 27 (List.map CV.v (setL x)) :: memS 1 768 3 (rightTo x y.1), fun y => 3 - y.1,
    ⟨⟨0, by omega⟩, ent_same rfl (aI rfl (aI rfl (aI rfl trivial))) (aI ((aI rfl (Or.inl rfl))) (aI ((aI rfl (Or.inl rfl))) (aI ((aI rfl (Or.inl rfl))) (aI ((aI rfl (Or.inl rfl))) (aI ((aI rfl (Or.inl rfl))) (aI ((aI rfl (Or.inl rfl))) (aI ((aI rfl (Or.inl rfl))) trivial)))))))⟩, fun y => ?_⟩
  obtain ⟨j, hj⟩ := y
  dsimp only
  conv => whnf
  refine ⟨fun hc => ?_, fun hc => ?_⟩
  · have hlt : j < 3 := by simp at hc; omega
    conv => whnf
    refine ⟨⟨by omega, by omega⟩, ?_⟩
    conv => whnf
    erw [right_at x hlt]
    conv => whnf
    refine call_con (x := .int .i64 (rightsI (x.right j))) rfl (by kernel_rfl) (fun r w' hR => rights_walk (x.right j) w') ?_
    conv => whnf
    refine call_memW (pre := []) (suf := [one (.int .i64 (j : Int)), one (.int .i64 (rightsI (x.right j)))]) 1 768 3 (rightTo x j) (rightTo x (j + 1)) (.tuple #[]) (fun i hi => by rw [Nat.add_comm]; rfl) rfl rfl (by kernel_rfl) (fun w' g gs hk hU => mem_protect (rightTo x j) 768 3 j (rightsI (x.right j)) w' g gs hU (rightTo_ok j) hlt (by omega) (rightsI_lt _)) ?_
    conv => whnf
    refine ⟨_, wr64 (by omega), ?_⟩
    conv => whnf
    exact ⟨⟨j + 1, by omega⟩, ent_same rfl (aI rfl (aI rfl (aI rfl trivial))) (aI ((aI rfl (Or.inl rfl))) (aI ((aI rfl (Or.inl rfl))) (aI ((aI rfl (Or.inl rfl))) (aI ((aI rfl (Or.inl rfl))) (aI ((aI rfl (Or.inl rfl))) (aI ((aI rfl (Or.inl rfl))) (aI ((aI rfl (Or.inl rfl))) trivial))))))), by show 3 - (j + 1) < 3 - j; omega⟩
  · have hje : j = 3 := by simp at hc; omega
    subst hje
    conv => whnf
    refine ⟨_, _, ent_refl, ?_⟩
    conv => whnf
    exact fin_newObjs 1 (memS 0 768 3 (setupM x)) (memS 1 768 3 (setupM x)) (by simp) (fun i hi => by rw [Nat.add_comm]; rfl) (memS_sh 1 768 3 _) (memS_ob 768 3 _) fun w' g gs h => ⟨g, gs, rfl, h⟩
end Go.Proofs.Ytmjfgnnefcimiaa
namespace Go.Proofs.Ytmjfgnnefcimiaa
open Go.RowKit

/-- The variables of a mask have the same values. -/
def Agree (m : Nat) (vs us : List Int) : Prop := ∀ v : Nat, v < 28 → m.testBit v = true → getV vs (v : Int) = getV us (v : Int)
/-- An operation over variables of which those agree that are live before it. -/
structure StepSame (o : BOp) (m : Nat) (vs us : List Int) (M : MemP) : Prop where
  a : hasA o.code = true → getV us o.a = getV vs o.a
  stays : (applyP o us M).stays = (applyP o vs M).stays
  mem : (applyP o us M).mem = (applyP o vs M).mem
  agree : (applyP o vs M).stays = true → Agree m (applyP o vs M).vs (applyP o us M).vs
  guests : observesB o = true → guestsL us = guestsL vs
end Go.Proofs.Ytmjfgnnefcimiaa
namespace Go.Proofs.Ytmjfgnnefcimiaa
open Go.RowKit

theorem marks_le : ∀ (l : List BOp) {s s2 : Ck}, ckRun s l = some s2 → s.marks ≤ s2.marks
  | [], s, s2, h => by injection h with h; subst h; exact Nat.le_refl _
  | o :: l, s, s2, h => by
    obtain ⟨s1, h1, h2⟩ := ck_uncons h
    have := marks_le l h2
    obtain ⟨_, _, h3, h4⟩ := ck_step h1
    by_cases hc : o.code = 20
    · have := (h3 hc).2; subst this; simp at *; omega
    · have : s1.marks = s.marks := by
        have := h4 hc
        rw [this.2]
      omega
/-- The number of the instruction, ahead of these operations. -/
def EvAt (n : Nat) (l : List BOp) (i : Int) : Prop := ∃ s s2 : Ck, ckRun s l = some s2 ∧ s2.marks = n ∧ 0 ≤ i ∧ i < n
theorem evAt_step {n : Nat} {o : BOp} {l : List BOp} {i : Int} (h : EvAt n (o :: l) i) : EvAt n l (markI o i) := by
  obtain ⟨s, s2, h1, h2, h3, h4⟩ := h
  obtain ⟨s1, k1, k2⟩ := ck_uncons h1
  obtain ⟨_, _, k3, _⟩ := ck_step k1
  have hm := marks_le l k2
  refine ⟨s1, s2, k2, h2, ?_⟩
  unfold markI
  split
  · rename_i hc
    obtain ⟨e1, e2⟩ := k3 hc
    subst e2
    have hm : s.marks + 1 ≤ s2.marks := hm
    omega
  · exact ⟨h3, h4⟩
theorem evAt_start {b : Blk} (hv : validB b = true) : EvAt b.at_.length b.ops 0 := by
  obtain ⟨hh, s, h1, h2⟩ := valid_parts.1 hv
  refine ⟨_, s, h1, h2, by omega, ?_⟩
  unfold headerB at hh
  simp only [Bool.and_eq_true, decide_eq_true_eq] at hh
  omega
theorem drop_at {l : List BOp} {j : Nat} {o : BOp} (h : l[j]? = some o) : l.drop j = o :: l.drop (j + 1) := by
  have hj : j < l.length := by
    rcases Nat.lt_or_ge j l.length with h1 | h1
    · exact h1
    · rw [List.getElem?_eq_none h1] at h; cases h
  rw [List.drop_eq_getElem_cons hj]
  rw [List.getElem?_eq_getElem hj] at h
  injection h with h; rw [h]
theorem evalL_exit {ats : List Int} {o : BOp} {l : List BOp} {i : Int} {vs : List Int} {M : MemP} (h : o.code = 24 ∨ (o.code = 23 ∧ getV vs o.a ≠ 0)) : evalL ats (o :: l) i vs M = ⟨⟨false, 0, ats.length, o.n, guestsL vs⟩, M⟩ := if_pos h
theorem evalL_var {ats : List Int} {o : BOp} {l : List BOp} {i : Int} {vs : List Int} {M : MemP} (h : o.code = 25) : evalL ats (o :: l) i vs M = ⟨⟨false, 0, ats.length, getV vs o.a, guestsL vs⟩, M⟩ := by
  show (if _ then _ else _) = _
  rw [if_neg (by omega), if_pos h]
theorem evalL_leave {ats : List Int} {o : BOp} {l : List BOp} {i : Int} {vs : List Int} {M : MemP} (h1 : ¬ (o.code = 24 ∨ (o.code = 23 ∧ getV vs o.a ≠ 0))) (h2 : o.code ≠ 25) (h3 : (applyP o vs M).stays = false) :
    evalL ats (o :: l) i vs M = ⟨⟨true, markI o i, markI o i, (ats[(markI o i).toNat]?).getD 0, guestsL vs⟩, (applyP o vs M).mem⟩ := by
  show (if _ then _ else _) = _
  rw [if_neg h1, if_neg h2, if_neg (by rw [h3]; decide)]
theorem guests_ok {vs : List Int} (h : VarsOk vs) : VarsOk (guestsL vs) := by
  refine ⟨?_, fun x hx => ?_⟩
  · unfold guestsL; simp [h.len]
  · unfold guestsL at hx
    rcases List.mem_append.1 hx with h1 | h1
    · exact h.word x (List.mem_of_mem_take h1)
    · rw [List.eq_of_mem_replicate h1]; exact word0
/-- The memory stays well-formed. -/
theorem applyP_mem {o : BOp} {vs : List Int} {M : MemP} {n p : Nat} (h : M.ok n p) (hv : VarsOk vs) : (applyP o vs M).mem.ok n p := by
  unfold applyP
  split
  · exact h
  split
  · exact h
  split
  · split <;> exact h
  split
  · exact storeM_ok h _ _ (getV_word hv _).1
  split
  · exact h
  split
  · exact h
  split <;> exact h

/-! Opt. -/
end Go.Proofs.Ytmjfgnnefcimiaa
namespace Go.Proofs.Ytmjfgnnefcimiaa
open Go.ChangeShapes Go.WideShapes Go.ChangeAt Go.RowKit

theorem word_wf {n : Int} (h : (Lit.int .u32 n).wf = true) : word n := by
  simp [Lit.wf, IntKind.min, IntKind.max, IntKind.signed, IntKind.bits] at h
  unfold word; omega
/-- An array of integers, cell by cell. -/
theorem open_ints_arr {H : Type} {enc : TypeId × Value → H} {W : World} {fuel n : Nat} {t e : TypeId} {k : IntKind} {cs : List Value} {x : DataW H × List MemPlace} (ht : Try.prog.underlying t = some (.array n e)) (he : Try.prog.underlying e = some (.int k)) (hc : Try.prog.cellsOf e = 1) (hct : Try.prog.cellsOf t = n)
    (h : DataW.trod enc Try.prog W 0 (fun _ => true) true fuel t cs = some x) : ∃ zs : List Int, cs = zs.map (Value.int k) ∧ zs.length = n ∧ ∀ z ∈ zs, (Lit.int k z).wf = true := by
  obtain ⟨xs, m, _, _, hl, hlen, hel⟩ := DataW.trod_array ht h
  rw [hct] at hl
  have get : ∀ i (hi : i < n), ∃ z, cs[i]? = some (.int k z) ∧ (Lit.int k z).wf = true := fun i hi => by
    have := hel i hi
    rw [hc, List.getElem?_eq_getElem (by omega)] at this
    obtain ⟨z, e1, _, e3⟩ := DataW.trod_int he this
    refine ⟨z, ?_, e3⟩
    have h0 : ((cs.drop (i * 1)).take 1)[0]? = some (.int k z) := by rw [e1]; rfl
    rw [List.getElem?_take, if_pos (by omega), List.getElem?_drop] at h0
    simpa using h0
  refine ⟨(List.range n).map fun i => intOf (cs.getD i undef), ?_, by simp, fun z hz => ?_⟩
  · refine List.ext_getElem? fun i => ?_
    rw [List.getElem?_map, List.getElem?_map]
    rcases Nat.lt_or_ge i n with hi | hi
    · obtain ⟨z, e1, _⟩ := get i hi
      rw [List.getElem?_range hi, e1]
      simp [List.getD_eq_getElem?_getD, e1, intOf]
    · rw [List.getElem?_eq_none (by omega), List.getElem?_eq_none (by simpa using hi)]; rfl
  · obtain ⟨i, hi, rfl⟩ := List.mem_map.1 hz
    have hi : i < n := by simpa using hi
    obtain ⟨z, e1, e2⟩ := get i hi
    simpa [List.getD_eq_getElem?_getD, e1, intOf] using e2
set_option maxRecDepth 100000 in
/-- A setup. -/
theorem open_x {H : Type} {enc : TypeId × Value → H} {W : World} {r : Reach} {b0 : Nat} {v : Value} {d : DataW H} {p : List MemPlace} (hv : Value.okWide Try.prog W r b0 27 v) (h : DataW.Trod enc Try.prog W 0 (fun _ => true) true 27 v d p) :
    ∃ x : SetP, v = setV x ∧ x.ok := by
  simp only [Value.okWide, Try.underlying27] at hv
  obtain ⟨cs, rfl, hsz, _⟩ := hv
  obtain ⟨fuel, hf⟩ := h
  have hcs : (Value.agg cs).cells.toList = cs.toList := rfl
  rw [hcs] at hf
  obtain ⟨y0, y1, y2, n, _, hl, h0, h1, h2⟩ := Go.Deep.trod_struct3 Try.underlying27 hf
  have hc : Try.prog.cellsOf 27 = 23 := by kernel_rfl
  rw [hc] at hl
  obtain ⟨z0, e0, l0, _⟩ := open_ints_arr (k := .i64) Try.underlying23 Try.underlying3 (by kernel_rfl) (by kernel_rfl) h0
  obtain ⟨f, e1, _, w1⟩ := DataW.trod_int Try.underlying24 h1
  obtain ⟨z2, e2, l2, w2⟩ := open_ints_arr (k := .u32) Try.underlying25 Try.underlying24 (by kernel_rfl) (by kernel_rfl) h2
  have q0 : (cs.toList.drop 0).take 3 = z0.map (Value.int .i64) := e0
  have q1 : (cs.toList.drop 3).take 1 = [.int .u32 f] := e1
  have q2 : (cs.toList.drop 4).take 19 = z2.map (Value.int .u32) := e2
  match z0, l0 with
  | [a, b, c], _ =>
    refine ⟨⟨a, b, c, f, z2⟩, ?_, ⟨word_wf w1, l2, fun v hv => word_wf (w2 v hv)⟩⟩
    have : cs.toList = setL ⟨a, b, c, f, z2⟩ := by
      have h3 : cs.toList = (cs.toList.drop 0).take 3 ++ ((cs.toList.drop 3).take 1 ++ (cs.toList.drop 4).take 19) := by
        rw [List.take_of_length_le (l := cs.toList.drop 4) (by simp; simp at hl; omega)]
        rw [show cs.toList.drop 4 = (cs.toList.drop 3).drop 1 from by rw [List.drop_drop], List.take_append_drop, List.drop_zero, List.take_append_drop]
      rw [h3, q0, q1, q2]; rfl
    show Value.agg cs = Value.agg (setL ⟨a, b, c, f, z2⟩).toArray
    rw [← this]
end Go.Proofs.Ytmjfgnnefcimiaa
namespace Go.Proofs.Ytmjfgnnefcimiaa
open Go.RowKit

/-- A memory, seen as plain memory. -/
structure MemAt (w : World) (g n p : Nat) (M : MemP) (g1 g5 : Nat) : Prop where
  data : CellsAt w Gs.nil g 0 [.slice (some ⟨g1, 0, none⟩) n n]
  rights : CellsAt w Gs.nil g 4 [.slice (some ⟨g5, 0, none⟩) p p]
  dat : ∀ (i : Nat) (x : Int), M.data[i]? = some x → CellsAt w Gs.nil g1 (0 + (i : Int).toNat * 1) [byteV x]
  rig : ∀ (i : Nat) (x : Int), M.rights[i]? = some x → CellsAt w Gs.nil g5 (0 + (i : Int).toNat * 1) [intV x]
theorem memAt_of {w : World} {g n p : Nat} {gs : List Nat} {M : MemP} (h : ObjsAt w (g :: gs) (memS 0 n p M)) : ∃ g1 g5, MemAt w g n p M g1 g5 := by
  obtain ⟨g0, g1, g2, g3, g4, g5, hg⟩ := six_blocks h
  injection hg with hg0 hgs
  subst hgs; subst hg0
  have vals : ∀ (k gk : Nat) (t : TypeId) (us : List Value), (memS 0 n p M)[k]? = some (.cells t (us.map CV.v)) → [g, g1, g2, g3, g4, g5][k]? = some gk → gk < w.heap.size ∧ w.heap[gk]? = some (.cells us.toArray t (0, 0)) := fun k gk t us hk hgk => by
    obtain ⟨b, us', e1, e2, e3⟩ := h.own k _ hk
    have e1 : [g, g1, g2, g3, g4, g5][k]? = some b := e1
    rw [hgk] at e1; injection e1 with e1; subst e1
    obtain rfl := denL_vals_inv e3
    exact ⟨h.lt gk (List.mem_of_getElem? hgk), e2⟩
  obtain ⟨b, us, e1, e2, e3⟩ := h.own 0 _ rfl
  have e1 : g = b := by have : some g = some b := e1; injection this
  subst e1
  simp only [denL, CV.den] at e3
  obtain ⟨u0, l0, rfl, ⟨b0, hb0, rfl⟩, u1, l1, rfl, ⟨b1, hb1, rfl⟩, u2, l2, rfl, ⟨b2, hb2, rfl⟩, u3, l3, rfl, ⟨b3, hb3, rfl⟩, u4, l4, rfl, ⟨b4, hb4, rfl⟩, u5, l5, rfl, rfl, rfl⟩ := e3
  have e0 : g1 = b0 := by have : some g1 = some b0 := hb0; injection this
  have e4 : g5 = b4 := by have : some g5 = some b4 := hb4; injection this
  subst e0; subst e4
  have hlt : g < w.heap.size := h.lt g (by simp)
  obtain ⟨d1, d2⟩ := vals 1 g1 5 M.dV rfl rfl
  obtain ⟨r1, r2⟩ := vals 5 g5 3 M.rV rfl rfl
  refine ⟨g1, g5, cells_one hlt (by simp) (by simp [World.cell?, e2]), cells_one hlt (by simp) (by simp [World.cell?, e2]), fun i x hx => cells_one d1 (by simp) ?_, fun i x hx => cells_one r1 (by simp) ?_⟩
  · simp [World.cell?, d2, MemP.dV, hx]
  · simp [World.cell?, r2, MemP.rV, hx]
set_option maxRecDepth 100000 in
theorem mem_same (M : MemP) (n p : Nat) (w : World) (g h : Nat) (gs hs : List Nat) (hU : ObjsAt w (g :: gs) (memS 0 n p M)) (hV : ObjsAt w (h :: hs) (memS 0 n p M)) (hM : M.ok n p) :
    Calls Try.prog 32 #[.pointer (some ⟨g, 0, none⟩), .pointer (some ⟨h, 0, none⟩)] w fun e w' => e = .returned (.bool true) ∧ Below w.heap.size w w' := by
  obtain ⟨g1, g5, A⟩ := memAt_of hU
  obtain ⟨h1, h5, B⟩ := memAt_of hV
  have hnp := hM.np
  have hpm := hM.pmax
  refine calls_val [.pointer (some ⟨g, 0, none⟩), .pointer (some ⟨h, 0, none⟩)] Try.func32 Try.ntmps32 rfl (by simp) ?_
  conv => whnf
  refine sat_quiet mixed (by kernel_rfl) ?_
  conv => whnf
  refine ⟨_, A.rights, ?_⟩
  conv => whnf
  refine ⟨_, B.rights, ?_⟩
  conv => whnf
  refine ⟨fun hc => absurd hc (by simp), fun _ => ?_⟩
  conv => whnf
  refine ⟨{ j : Nat // j ≤ p }, fun y => [(0, one (.pointer (some ⟨g, 0, none⟩))), (1, one (.pointer (some ⟨h, 0, none⟩))), (5, one (.int .i64 (y.1 : Int)))], fun y => [], fun y => p - y.1, ⟨⟨0, by omega⟩, ent_same rfl (aI rfl (aI rfl (aI rfl trivial))) trivial⟩, fun y => ?_⟩
  obtain ⟨j, hj⟩ := y
  dsimp only
  conv => whnf
  refine ⟨_, A.rights, ?_⟩
  conv => whnf
  refine ⟨fun hc => ?_, fun hc => ?_⟩
  · have hlt : j < p := by simpa using hc
    obtain ⟨x, hx⟩ : ∃ x, M.rights[j]? = some x := ⟨_, List.getElem?_eq_getElem (by rw [hM.lr]; exact hlt)⟩
    conv => whnf
    refine sat_quiet mixed (by kernel_rfl) ?_
    conv => whnf
    refine ⟨_, A.rights, ?_⟩
    conv => whnf
    refine ⟨⟨by omega, by omega⟩, ?_⟩
    conv => whnf
    refine ⟨_, A.rig j x hx, ?_⟩
    conv => whnf
    refine ⟨_, B.rights, ?_⟩
    conv => whnf
    refine ⟨⟨by omega, by omega⟩, ?_⟩
    conv => whnf
    refine ⟨_, B.rig j x hx, ?_⟩
    conv => whnf
    refine ⟨fun hc => absurd hc (by simp), fun _ => ?_⟩
    conv => whnf
    refine ⟨_, wr64 (by omega), ?_⟩
    conv => whnf
    exact ⟨⟨j + 1, by omega⟩, ent_drop (aI rfl (aI rfl (aI rfl trivial))) trivial rfl rfl, by show p - (j + 1) < p - j; omega⟩
  have hje : p = j := by simp at hc; omega
  subst hje
  conv => whnf
  refine ⟨_, _, ent_refl, ?_⟩
  conv => whnf
  refine ⟨{ j : Nat // j ≤ n }, fun y => [(0, one (.pointer (some ⟨g, 0, none⟩))), (1, one (.pointer (some ⟨h, 0, none⟩))), (6, one (.int .i64 (y.1 : Int)))], fun y => [], fun y => n - y.1, ⟨⟨0, by omega⟩, ent_same rfl (aI rfl (aI rfl (aI rfl trivial))) trivial⟩, fun y => ?_⟩
  obtain ⟨j, hj⟩ := y
  dsimp only
  conv => whnf
  refine ⟨_, A.data, ?_⟩
  conv => whnf
  refine ⟨fun hc => ?_, fun hc => ?_⟩
  · have hlt : j < n := by simpa using hc
    obtain ⟨x, hx⟩ : ∃ x, M.data[j]? = some x := ⟨_, List.getElem?_eq_getElem (by rw [hM.ld]; exact hlt)⟩
    conv => whnf
    refine sat_anyG (.q 0 (.q 1 (.q 2 (.q 3 (.q 4 (.q 5 (.q 6 (.q 7 (.q 8 (.q 9 (.q 10 (.q 11 (.q 12 (.q 13 (.q 14 (.q 15 (.q 16 (.q 17 (.q 18 (.q 20 (.q 21 (.q 22 (.alt 19 (.alt 23 (.q 24 (.q 25 .done)) .no) .no))))))))))))))))))))))) mixed (by kernel_rfl) (by kernel_rfl) ?_
    conv => whnf
    refine ⟨_, A.data, ?_⟩
    conv => whnf
    refine ⟨⟨by omega, by omega⟩, ?_⟩
    conv => whnf
    refine ⟨_, A.dat j x hx, ?_⟩
    conv => whnf
    refine ⟨_, B.data, ?_⟩
    conv => whnf
    refine ⟨⟨by omega, by omega⟩, ?_⟩
    conv => whnf
    refine ⟨_, B.dat j x hx, ?_⟩
    conv => whnf
    rw [show (x != x) = false by simp]
    have hw : word (j : Int) := by unfold word; omega
    have hcode := fun (w : World) (g : Nat) (gs : List Nat) (hU : ObjsAt w (g :: gs) (memS 0 n p M)) => mem_code M n p (j : Int) w g gs hU hM hw (by omega)
    conv => whnf
    refine ⟨(j : Int), by rw [wr32]; omega, ?_⟩
    conv => whnf
    refine ⟨(j : Int), by rw [wr32]; omega, ?_⟩
    conv => whnf
    refine ⟨?_, trivial⟩
    conv => whnf
    refine call_memP rfl (by kernel_rfl) hU (fun w' hU' => hcode w' g gs hU') ?_
    conv => whnf
    refine ⟨?_, trivial⟩
    conv => whnf
    refine call_memP rfl (by kernel_rfl) hV (fun w' hU' => hcode w' h hs hU') ?_
    conv => whnf
    rw [show (M.code (j : Int) != M.code (j : Int)) = false by simp]
    conv => whnf
    refine ⟨fun hc => absurd hc (by decide), fun _ => ?_⟩
    conv => whnf
    refine ⟨_, wr64 (by omega), ?_⟩
    conv => whnf
    exact ⟨⟨j + 1, by omega⟩, ent_drop (aI rfl (aI rfl (aI rfl trivial))) trivial rfl rfl, by show n - (j + 1) < n - j; omega⟩
  have hje : j = n := by simp at hc; omega
  subst hje
  conv => whnf
  refine ⟨_, _, ent_refl, ?_⟩
  conv => whnf
  exact fin_val rfl fun w' hB => ⟨rfl, hB⟩
end Go.Proofs.Ytmjfgnnefcimiaa
namespace Go.Proofs.Ytmjfgnnefcimiaa
open Go.RowKit

abbrev varsC (vs : List Int) : List CV := List.map CV.v (u32L vs)
theorem varsC_length {vs : List Int} (h : VarsOk vs) : (varsC vs).length = 28 := by simp [h.len]
theorem zeroC_length : (varsC (List.replicate 28 0)).length = 28 := rfl
theorem beq_len {l : List CV} {n : Nat} (h : l.length = n) : Nat.beq l.length n = true := by rw [h]; exact Nat.beq_refl n
theorem ble_of {l m : List CV} (h : l.length = m.length) : Nat.ble (0 + l.length) m.length = true := Nat.ble_eq_true_of_le (by omega)
theorem var_at {vs : List Int} (h : VarsOk vs) {i : Int} (hi : 0 ≤ i ∧ i < 28) : (varsC vs)[0 + i.toNat * 1]? = some (.v (.int .u32 (getV vs i))) := by
  have hlt : i.toNat < vs.length := by rw [h.len]; omega
  unfold getV
  rw [Nat.zero_add, Nat.mul_one, List.getElem?_map, List.getElem?_map, List.getElem?_eq_getElem hlt]
  rfl
theorem var_ble {vs : List Int} (h : VarsOk vs) {i : Int} (hi : 0 ≤ i ∧ i < 28) (c : CV) : Nat.ble (0 + i.toNat * 1 + [c].length) (varsC vs).length = true := Nat.ble_eq_true_of_le (by rw [varsC_length h]; show 0 + _ * 1 + 1 ≤ 28; omega)
theorem var_ble8 {vs : List Int} (h : VarsOk vs) : Nat.ble (varsC vs).length 8 = false := by rw [varsC_length h]; rfl
theorem var_set (vs : List Int) (i : Int) (x : Int) : setAll (varsC vs) (0 + i.toNat * 1) [.v (.int .u32 x)] = varsC (vs.set i.toNat x) := by
  rw [set_vals, Nat.zero_add, Nat.mul_one]
  show _ = List.map CV.v (List.map (Value.int .u32) (vs.set i.toNat x))
  rw [List.map_set (f := Value.int .u32)]
theorem vars_put {vs : List Int} (h : VarsOk vs) (Z : List CV) (hZ : Z.length = 28) : setAll Z 0 (varsC vs) = varsC vs := setAll_same (by rw [hZ, varsC_length h])
theorem val_tup2 (us : List Value) (x : Value) : (AV.tup [.agg (List.map CV.v us), .c (.v x)]).val = some (.tuple #[.agg us.toArray, x]) := by
  simp only [AV.val, pvalL, Pc.val, valL_vals us, CV.val]
/-- The first of several objects. -/
theorem ObjsAt.pre {w : World} {gs hs : List Nat} {U V : List Ow} (hl : U.length = gs.length) (hob : ObAll U.length U) (h : ObjsAt w (gs ++ hs) (U ++ V)) : ObjsAt w gs U := by
  have at_ : ∀ {i b : Nat}, gs[i]? = some b → (gs ++ hs)[i]? = some b := fun {i b} hb => by
    have : i < gs.length := by
      rcases Nat.lt_or_ge i gs.length with h1 | h1
      · exact h1
      · rw [List.getElem?_eq_none h1] at hb; cases hb
    rw [List.getElem?_append_left this]; exact hb
  have back : ∀ i b, i < U.length → (envOf (gs ++ hs)).blk i = some b → (envOf gs).blk i = some b := fun i b hi hb => by
    have hb : (gs ++ hs)[i]? = some b := hb
    rw [List.getElem?_append_left (by omega)] at hb; exact hb
  refine ⟨hl, fun i j b hi hj => h.nodup i j b (at_ hi) (at_ hj), fun g hg => h.lt g (List.mem_append.2 (.inl hg)), fun i o ho => ?_⟩
  have hi : i < U.length := by
    rcases Nat.lt_or_ge i U.length with h1 | h1
    · exact h1
    · rw [List.getElem?_eq_none h1] at ho; cases ho
  have h1 := h.own i o (by rw [List.getElem?_append_left hi]; exact ho)
  have h2 := hob o (List.mem_of_getElem? ho)
  cases o with
  | cells t l =>
    obtain ⟨b, us, e1, e2, e3⟩ := h1
    refine ⟨b, us, back i b hi e1, e2, denL_sh (k := 0) (n := U.length) (fun j b hj hb => back j b hj (by rwa [Nat.zero_add] at hb)) h2 ?_⟩
    have : ∀ l : List CV, l.map (CV.sh 0) = l := fun l => by
      refine (List.map_congr_left fun c _ => ?_).trans (List.map_id l)
      cases c <;> simp [CV.sh]
    rw [this]; exact e3
  | row => exact h2.elim
  | ext => exact h2.elim
  | view => exact h2.elim
  | gone => exact h2.elim
theorem GrownBys.trans {w w1 w2 : World} {gs gs' : List Nat} (h : GrownBys w w1 gs) (k : GrownBys w1 w2 gs') (hn : ∀ g ∈ gs', g ∈ gs ∨ w.heap.size ≤ g) : GrownBys w w2 gs :=
  ⟨k.os.trans h.os, k.tape.trans h.tape, k.output.trans h.output, Nat.le_trans h.size k.size, fun b hb hg => (k.block b (Nat.lt_of_lt_of_le hb h.size) (fun hm => by
    rcases hn b hm with h1 | h1
    · exact hg h1
    · omega)).trans (h.block b hb hg)⟩
section
variable {P : Program} {w0 : World} {G : Gs} {N : Nd} {f : Fr} {S : List Ow} {Q : Exit → Act → World → Prop}
theorem atq_ret_block {id : Nat} (h : AtQ w0 G N .ret f S Q) : AtQ w0 G N .ret f S (Exit.inBlock id Q) := ⟨fun a w hg => h.out a w hg⟩
theorem atq_ret_mid {α : Type} {T : α → Fr} {U : α → List Ow} (h : AtQ w0 G N .ret f S Q) : AtQ w0 G N .ret f S (MidQ w0 G N T U Q) := ⟨fun a w hg => h.out a w hg⟩
theorem atq_ret_round {α : Type} {T : α → Fr} {U : α → List Ow} {m : α → Nat} {n : Nat} (h : AtQ w0 G N .ret f S Q) : AtQ w0 G N .ret f S (RoundQ w0 G N T U m n Q) := ⟨fun a w hg => h.out a w hg⟩
theorem equal_nil_at {t e : TypeId} (ht : P.underlying t = some (.pointer e)) (p : Addr) (d : Nat) (w : World) : (Op.equalIn (d + 1) t (.pointer (some p)) (.pointer none)).run P w = .ok false w := by
  simp [Op.equalIn, run_underlying ht]
theorem equal_nil {t e : TypeId} (ht : P.underlying t = some (.pointer e)) (p : Addr) (_ : Unit) (w : World) : (Op.equal t (.pointer (some p)) (.pointer none)).run P w = .ok false w := equal_nil_at ht p 9999 w
/-- A pointer that is known is not nil. -/
theorem q_not_nil {K : AV → Prop} {o : Oper} {t t' e : TypeId} {x y : Operand} {i off : Nat} (hop : o.op = .binOp .eql t x y t') (ht : P.underlying t = some (.pointer e)) (hx : f.ev x = .p (.c (.ref i off))) (hy : f.ev y = one (.pointer none)) (hk : K (one (.bool false))) : QRun P w0 G S f o K := by
  refine ⟨_, hk, fun r a hf => ?_⟩
  have h1 := hf.ev x
  have h2 := hf.ev y
  rw [hx] at h1; rw [hy] at h2
  obtain ⟨b, hb, hu⟩ := den_ref h1
  refine ⟨_, den_one _ _, fun w hR => ?_⟩
  have he : (Op.equal t (.pointer (some ⟨b, off, none⟩)) (.pointer none)).run P w = .ok false w := equal_nil ht _ () w
  simp [execOp, hop, hu, den_v h2, eqGuard, binOp, he]
end
end Go.Proofs.Ytmjfgnnefcimiaa
namespace Go.Proofs.Ytmjfgnnefcimiaa
open Go.RowKit

theorem evalL_ok {ats : List Int} {n p : Nat} : ∀ (l : List BOp) (i : Int) (vs : List Int) (M : MemP), VarsOk vs → M.ok n p → (∀ o ∈ l, o.ok) → (evalL ats l i vs M).out.vars.length = 28 ∧ (evalL ats l i vs M).mem.ok n p
  | [], i, vs, M, hv, hM, _ => ⟨rfl, hM⟩
  | o :: l, i, vs, M, hv, hM, ho => by
    have hg := (guests_ok hv).len
    have hoo := ho o (by simp)
    have hol : ∀ p ∈ l, p.ok := fun p hp => ho p (by simp [hp])
    have hA := applyP_mem (o := o) hM hv
    by_cases h1 : o.code = 24 ∨ (o.code = 23 ∧ getV vs o.a ≠ 0)
    · rw [evalL_exit h1]; exact ⟨hg, hM⟩
    by_cases h2 : o.code = 25
    · rw [evalL_var h2]; exact ⟨hg, hM⟩
    cases h3 : (applyP o vs M).stays with
    | true => rw [evalL_go h1 h2 h3]; exact evalL_ok l _ _ _ (applyP_ok hv hoo.n) hA hol
    | false => rw [evalL_leave h1 h2 h3]; exact ⟨hg, hA⟩
theorem evalBlk_ok {b : Blk} {n p : Nat} {vs : List Int} {M : MemP} (hb : b.ok) (hv : VarsOk vs) (hM : M.ok n p) : (evalBlk b vs M).out.vars.length = 28 ∧ (evalBlk b vs M).mem.ok n p := by
  unfold evalBlk
  split
  · exact evalL_ok b.ops 0 vs M hv hM hb.ops
  · exact ⟨rfl, hM⟩
/-- The result of Opt. -/
structure OptOk (b : Blk) (l : List BOp) : Prop where
  valid : validB ⟨b.at_, b.pages, l⟩ = true
  ok : (⟨b.at_, b.pages, l⟩ : Blk).ok
  same : ∀ vs M, VarsOk vs → evalBlk ⟨b.at_, b.pages, l⟩ vs M = evalBlk b vs M
end Go.Proofs.Ytmjfgnnefcimiaa
