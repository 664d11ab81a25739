/- Calls that are handed objects, with rows of one's own as other arguments. -/
import Derived.Test.YtnhdcclpjildjaaGreatC16
import Derived.Test.YtnhdcclpjildjaaGreatMExtentsD
namespace Go.Proofs.YtnhdcclpjildjaaGreat
open Go.RowKit
theorem call_objsX {P : Program} {w0 : World} {G : Gs} {fid : FuncId} {S : List Ow} {K : AV → List Ow → Prop} {pre suf : List AV} {α : Type} (k : Nat) (U V : List Ow) (U' V' : α → List Ow) (X : α → Value) (post : α → Prop) (hpos : 0 < U.length) (hsh : ShAll k U V) (hob : ObAll U.length U) (hS : ∀ i, i < U.length → S[k + i]? = V[i]?)
  (hok : fnOk P fid = true) (hsh' : ∀ x, post x → ShAll k (U' x) (V' x)) (hob' : ∀ x, post x → ObAll U.length (U' x)) (hlen' : ∀ x, post x → (U' x).length = U.length)
  (h : ∀ r w g gs xs ys, Rel w0 G S r w → avdenL r pre xs → avdenL r suf ys → (∀ b, b ∈ g :: gs → ∃ i, i < U.length ∧ r.blk (k + i) = some b) → ObjsAt w (g :: gs) U → Calls P fid (xs ++ .pointer (some ⟨g, 0, none⟩) :: ys).toArray w fun e w' => ∃ x, post x ∧ e = .returned (X x) ∧ ObjsAt w' (g :: gs) (U' x) ∧ GrownBys w w' (g :: gs))
  (hK : ∀ x, post x → K (AV.of (X x)) (putS S k (V' x))) : CallS P w0 G fid (pre ++ .p (.c (.ref k 0)) :: suf) S K := by
 refine ⟨hok, fun r w vs hR hd => ?_⟩
 have hSlen : k + U.length ≤ S.length := by
  have h1 := hS (U.length - 1) (by omega)
  obtain ⟨o', h2, _⟩ := hsh.get (U.length - 1) (List.getElem?_eq_getElem (by omega) : U[U.length - 1]? = some U[U.length - 1])
  rw [h2] at h1
  rcases Nat.lt_or_ge (k + (U.length - 1)) S.length with h3 | h3
  ·omega
  ·rw [List.getElem?_eq_none h3] at h1; cases h1
 have hblk : ∀ i, i < U.length → ∃ b, r.blk (k + i) = some b := fun i hi => by
  obtain ⟨o', h2, h3⟩ := hsh.get i (List.getElem?_eq_getElem hi)
  have h4 := hR.own (k + i) o' (by rw [hS i hi, h2])
  have h5 := hob _ (List.getElem_mem hi)
  cases hu : U[i] with
  | cells t l =>
   rw [hu] at h3
   cases o' with
   | cells t' l' => obtain ⟨b, us, e1, _⟩ := h4; exact ⟨b, e1⟩
   | row => exact h3.elim
   | ext => exact h3.elim
   | view => exact h3.elim
   | gone => exact h3.elim
  | row => rw [hu] at h5; exact h5.elim
  | ext => rw [hu] at h5; exact h5.elim
  | view => rw [hu] at h5; exact h5.elim
  | gone => rw [hu] at h5; exact h5.elim
 obtain ⟨gs, hgl, hgs⟩ : ∃ gs : List Nat, gs.length = U.length ∧ ∀ i, i < U.length → gs[i]? = r.blk (k + i) := by
  refine ⟨(List.range U.length).map fun i => (r.blk (k + i)).getD 0, by simp, fun i hi => ?_⟩
  obtain ⟨b, hb⟩ := hblk i hi
  rw [List.getElem?_map, List.getElem?_range hi, hb]
  simp [hb]
 have hto : ∀ i b, i < U.length → r.blk (k + i) = some b → (envOf gs).blk i = some b := fun i b hi hb => by
  show gs[i]? = some b
  rw [hgs i hi]; exact hb
 have hfrom : ∀ i b, i < U.length → (envOf gs).blk i = some b → r.blk (k + i) = some b := fun i b hi hb => by
  have hb : gs[i]? = some b := hb
  rw [hgs i hi] at hb; exact hb
 have hin : ∀ (i b : Nat), gs[i]? = some b → i < U.length ∧ r.blk (k + i) = some b := fun i b hb => by
  have hi : i < U.length := by
   rcases Nat.lt_or_ge i U.length with h1 | h1
   ·exact h1
   ·rw [List.getElem?_eq_none (by omega)] at hb; cases hb
  exact ⟨hi, by rw [← hgs i hi]; exact hb⟩
 have hmem : ∀ b, b ∈ gs → ∃ i, i < U.length ∧ r.blk (k + i) = some b := fun b hb => by
  obtain ⟨i, hi⟩ := List.getElem?_of_mem hb
  exact ⟨i, hin i b hi⟩
 have hU : ObjsAt w gs U := by
  refine ⟨hgl.symm, fun i j b hi hj => ?_, fun g hg => ?_, fun i o ho => ?_⟩
  ·have := hR.inj _ _ b (hin i b hi).2 (hin j b hj).2
   omega
  ·obtain ⟨i, _, hi⟩ := hmem g hg
   exact (hR.new _ g hi).1
  ·have hi : i < U.length := by
    rcases Nat.lt_or_ge i U.length with h1 | h1
    ·exact h1
    ·rw [List.getElem?_eq_none h1] at ho; cases ho
   obtain ⟨o', h2, h3⟩ := hsh.get i ho
   have h4 := hR.own (k + i) o' (by rw [hS i hi, h2])
   have h5 := hob o (List.mem_of_getElem? ho)
   cases o with
   | cells t l =>
    cases o' with
    | cells t' l' =>
     obtain ⟨rfl, rfl⟩ := h3
     obtain ⟨b, us, e1, e2, e3⟩ := h4
     exact ⟨b, us, hto i b hi e1, e2, denL_sh (n := U.length) hto h5 e3⟩
    | row => exact h3.elim
    | ext => exact h3.elim
    | view => exact h3.elim
    | gone => exact h3.elim
   | row => exact h5.elim
   | ext => exact h5.elim
   | view => exact h5.elim
   | gone => exact h5.elim
 have hkeep : OldKeeps w0 G w gs := fun b hb hG => by
  refine ⟨Nat.lt_of_lt_of_le hb hR.size, fun hm => ?_, hR.old b hb hG⟩
  obtain ⟨i, _, hi⟩ := hmem b hm
  exact hG ((hR.new _ b hi).2 hb)
 cases gs with
 | nil => simp at hgl; omega
 | cons g gs =>
  obtain ⟨vs1, vs2, rfl, d1, d2⟩ := avden_append hd
  obtain ⟨u, vs3, rfl, d3, d4⟩ := d2
  obtain ⟨b, hb, rfl⟩ := den_ref d3
  have hbg : b = g := by
   have := hto 0 b hpos (by simpa using hb)
   have : g = b := by injection this
   exact this.symm
  subst hbg
  refine (h r w b gs _ _ hR d1 d4 hmem hU).mono fun e w' ⟨x, hp, he, hU', hg⟩ => ?_
  refine ⟨AV.of (X x), X x, _, r, he, AV.of_den r _, ?_, Env.le.refl r, hK x hp⟩
  have hVl : (V' x).length = U.length := by rw [← hlen' x hp, (hsh' x hp).length]
  have hnot : ∀ j b', r.blk j = some b' → ¬ (k ≤ j ∧ j < k + U.length) → b' ∉ (b :: gs) := fun j b' hj hno hm => by
   obtain ⟨i, hi, hbi⟩ := hmem b' hm
   have := hR.inj _ _ b' hj hbi
   omega
  refine ⟨hg.os.trans hR.os, hg.tape.trans hR.tape, hg.output.trans hR.output, Nat.le_trans hR.size hg.size, fun j hj hjG => ?_, fun j o hj => ?_, hR.inj, fun j b' hb' => ⟨Nat.lt_of_lt_of_le (hR.new j b' hb').1 hg.size, (hR.new j b' hb').2⟩,
   fun j hj => hR.outB j (by rwa [putS_length] at hj), fun j hj => hR.outV j (by rwa [putS_length] at hj), hR.first⟩
  ·obtain ⟨k1, k2, k3⟩ := hkeep j hj hjG
   rw [hg.block j k1 k2]; exact k3
  ·rw [putS_get _ _ _ _ (by rw [hVl]; exact hSlen), hVl] at hj
   by_cases hr : k ≤ j ∧ j < k + U.length
   ·rw [if_pos hr] at hj
    obtain ⟨o', h2, h3⟩ := (hsh' x hp).get' (j - k) hj
    have h4 := hU'.own (j - k) o' h2
    have h5 := hob' x hp o' (List.mem_of_getElem? h2)
    cases o' with
    | cells t l =>
     cases o with
     | cells t' l' =>
      obtain ⟨rfl, rfl⟩ := h3
      obtain ⟨c, us, e1, e2, e3⟩ := h4
      refine ⟨c, us, ?_, e2, sh_denL (n := U.length) hfrom h5 e3⟩
      have := hfrom (j - k) c (by omega) e1
      rwa [show k + (j - k) = j by omega] at this
     | row => exact h3.elim
     | ext => exact h3.elim
     | view => exact h3.elim
     | gone => exact h3.elim
    | row => exact h5.elim
    | ext => exact h5.elim
    | view => exact h5.elim
    | gone => exact h5.elim
   ·rw [if_neg hr] at hj
    refine Ow.holds_block (hR.own j o hj) (fun b' hb' => hg.block b' (hR.new j b' hb').1 (hnot j b' hb' hr)) hg.size fun b' hb' hno => hg.block b' hb' fun hm => ?_
    obtain ⟨i, _, hi⟩ := hmem b' hm
    exact hno _ hi
end Go.Proofs.YtnhdcclpjildjaaGreat
namespace Go.Proofs.YtnhdcclpjildjaaGreat
open Go.RowKit

section
variable {w0 : World} {G : Gs} {S : List Ow} {K : AV → List Ow → Prop}
theorem row_old {w : World} {r : Env} {g : Nat} {gs : List Nat} {k m : Nat} (hR : Rel w0 G S r w) (hgs : ∀ b, b ∈ g :: gs → ∃ i, i < m ∧ r.blk (k + i) = some b) {i n size : Nat} {e : TypeId} {xs : List Value} {u : Value} (hi : S[i]? = some (.row e size n xs)) (hn : i < k ∨ k + m ≤ i) (hu : r.val i = some u) : ∃ A c, u = .slice A n c ∧ SlOld w ⟨g :: gs, []⟩ A xs := by
 obtain ⟨v, f1, f2, f3⟩ := hR.own i _ hi
 rw [hu] at f1; injection f1 with f1; subst f1
 rcases f3.2 with ⟨rfl, h0⟩ | ⟨b, cap, cur, rfl, _, hh, hnc, hcap, hsz, htake⟩
 ·refine ⟨none, 0, by rw [h0], fun j u hj => ?_⟩
  have := f3.1
  rw [h0] at this
  have : xs = [] := List.eq_nil_of_length_eq_zero (by simpa using this)
  subst this
  simp at hj
 ·refine ⟨_, _, rfl, fun j u hj => ⟨b, 0, rfl, heap_lt hh, ?_, ?_⟩⟩
  ·rintro (hm | hm)
   ·obtain ⟨t, ht, hb⟩ := hgs b hm
    have hbi : r.blk i = some b := by rw [← f2]; rfl
    have := hR.inj _ _ b hb hbi
    omega
   ·cases hm
  ·simp only [World.cell?, hh, Nat.zero_add]
   rw [← htake, List.getElem?_take] at hj
   split at hj
   ·simpa using hj
   ·cases hj
theorem call_eval (k n p i1 i2 i3 : Nat) (b : Blk) (vs : List Int) (M : MemP) {x : AV} (hx : x.val = some (varsV vs)) (hS : ∀ i, i < 6 → S[k + i]? = (memS k n p M)[i]?) (hM : M.ok n p) (hb : b.ok) (hv : validB b = true) (hvs : VarsOk vs)
  (h1 : S[i1]? = some (.row 35 1 b.at_.length (b.at_.map (.int .u32)))) (h2 : S[i2]? = some (.row 3 1 b.pages.length (b.pages.map (.int .i64)))) (h3 : S[i3]? = some (.row 45 5 b.ops.length (b.ops.flatMap opC))) (hn : (i1 < k ∨ k + 6 ≤ i1) ∧ (i2 < k ∨ k + 6 ≤ i2) ∧ (i3 < k ∨ k + 6 ≤ i3))
  (hK : K (AV.of (outV (evalBlk b vs M).out)) (putS S k (memS k n p (evalBlk b vs M).mem))) : CallS Tryz.prog w0 G 29 [.p (.agg [.row i1, .row i2, .row i3]), x, .p (.c (.ref k 0))] S K := by
 refine call_objsX (α := Unit) (pre := [.p (.agg [.row i1, .row i2, .row i3]), x]) (suf := []) k (memS 0 n p M) (memS k n p M) (fun _ => memS 0 n p (evalBlk b vs M).mem) (fun _ => memS k n p (evalBlk b vs M).mem) (fun _ => outV (evalBlk b vs M).out) (fun _ => True) (by simp) (memS_sh k n p M) (memS_ob n p M) hS (by kernel_rfl) (fun _ _ => memS_sh k n p _) (fun _ _ => memS_ob n p _) (fun _ _ => rfl)
  (fun r w g gs xs ys hR hd hd2 hgs hU => ?_) (fun _ _ => hK)
 obtain ⟨u, l, rfl, d1, d2⟩ := hd
 obtain ⟨u2, l2, rfl, d3, d4⟩ := d2
 obtain rfl : l2 = [] := d4
 obtain rfl : ys = [] := hd2
 obtain rfl := AV.val_den hx d3
 obtain ⟨us, rfl, hl⟩ := den_agg d1
 simp only [denL, CV.den] at hl
 obtain ⟨u1, l1, rfl, k1, u2, l2, rfl, k2, u3, l3, rfl, k3, rfl⟩ := hl
 obtain ⟨A1, c1, e1, s1⟩ := row_old hR hgs h1 hn.1 k1
 obtain ⟨A2, c2, e2, s2⟩ := row_old hR hgs h2 hn.2.1 k2
 obtain ⟨A3, c3, e3, s3⟩ := row_old hR hgs h3 hn.2.2 k3
 subst e1; subst e2; subst e3
 exact (eval_walk b vs n p M A1 A2 A3 c1 c2 c3 w g gs hU hM hb hv hvs s1 s2 s3).mono fun e w' h => ⟨(), trivial, h⟩
theorem call_lifted (k n p : Nat) (M : MemP) (pc most : Int) (hS : ∀ i, i < 6 → S[k + i]? = (memS k n p M)[i]?) (hM : M.ok n p) (hp : 2 ≤ p ∧ p ≤ 1000) (hpc : word pc)
  (hK : K (.tup [.agg [.row S.length, .row (S.length + 1), .row (S.length + 2)], .c (.v (.bool true))]) (S ++ blkRows (liftM M pc most))) : CallS Tryz.prog w0 G 15 [one (.int .u32 pc), .p (.c (.ref k 0)), one (intV most)] S K := by
 refine call_blkT (liftM M pc most) (.bool true) (by kernel_rfl) (fun r w us hR hd => ?_) hK
 obtain ⟨u1, l1, rfl, d1, d2⟩ := hd
 obtain ⟨u2, l2, rfl, d3, d4⟩ := d2
 obtain ⟨u3, l3, rfl, d5, d6⟩ := d4
 obtain rfl : l3 = [] := d6
 obtain rfl := den_v d1
 obtain rfl := den_v d5
 obtain ⟨g, gs, hg, hU⟩ := hR.objsAt k (memS 0 n p M) (memS k n p M) (by simp) hS (memS_sh k n p M) (memS_ob n p M)
 obtain ⟨b, hb, rfl⟩ := den_ref d3
 rw [hg] at hb; injection hb with hb; subst hb
 exact lifted_walk hU hM hp pc most hpc
end
end Go.Proofs.YtnhdcclpjildjaaGreat
namespace Go.Proofs.YtnhdcclpjildjaaGreat
open Go.RowKit

abbrev sanI : List QI := [⟨16, 1, 0, 0, 5⟩, ⟨32, 1, 2, 0, 3⟩, ⟨50, 0, 0, 0, 0⟩]
abbrev sanW : List Int := [1077936133, 2152202243, 3355443200]
def sanS (j : Nat) : List Int := (sanW.take j).flatMap putL
def sanM : MemP := ((MemP.zero 2).codeTo 1 (sanS 3) 12).protect 1 4
abbrev sanB1 : Blk := ⟨[256, 260], [1], [⟨20, 0, 0, 0, 0⟩, ⟨1, 20, 0, 0, 5⟩, ⟨3, 1, 0, 20, 0⟩, ⟨20, 0, 0, 0, 1⟩, ⟨13, 20, 1, 2, 0⟩, ⟨23, 0, 20, 0, 272⟩, ⟨24, 0, 0, 0, 264⟩]⟩
abbrev sanB2 : Blk := ⟨[256], [1], [⟨20, 0, 0, 0, 0⟩, ⟨1, 20, 0, 0, 5⟩, ⟨3, 1, 0, 20, 0⟩, ⟨24, 0, 0, 0, 260⟩]⟩
abbrev sanB3 : Blk := ⟨[264], [1], [⟨20, 0, 0, 0, 0⟩, ⟨22, 0, 0, 0, 0⟩]⟩
theorem san_lift1 : liftM sanM 256 64 = sanB1 := by kernel_rfl
theorem san_lift2 : liftM sanM 256 1 = sanB2 := by kernel_rfl
theorem san_lift3 : liftM sanM 264 9 = sanB3 := by kernel_rfl
abbrev zeros28 : List Int := [0, 0, 0, 0, 0, 0, 0, 0, 0, 0, 0, 0, 0, 0, 0, 0, 0, 0, 0, 0, 0, 0, 0, 0, 0, 0, 0, 0]
abbrev sanV : List Int := [0, 5, 0, 0, 0, 0, 0, 0, 0, 0, 0, 0, 0, 0, 0, 0, 0, 0, 0, 0, 0, 0, 0, 0, 0, 0, 0, 0]
theorem san_eval1 : (evalBlk sanB1 zeros28 sanM).out = ⟨false, 0, 2, 264, sanV⟩ := by kernel_rfl
theorem san_eval2 : (evalBlk sanB2 zeros28 sanM).out = ⟨false, 0, 1, 260, sanV⟩ := by kernel_rfl
theorem san_eval3 : (evalBlk sanB3 zeros28 sanM).out = ⟨true, 0, 0, 264, zeros28⟩ := by kernel_rfl
theorem san_mem1 : (evalBlk sanB1 zeros28 sanM).mem = sanM := by kernel_rfl
theorem san_mem2 : (evalBlk sanB2 zeros28 sanM).mem = sanM := by kernel_rfl
theorem san_mem3 : (evalBlk sanB3 zeros28 sanM).mem = sanM := by kernel_rfl
theorem zeros_ok : VarsOk zeros28 := ⟨rfl, fun x hx => by
 have : ∀ y ∈ zeros28, y = 0 := by decide
 rw [this x hx]; unfold word; omega⟩
theorem san_ok : (MemP.zero 2).ok 512 2 := mem_zero_ok (by decide)
end Go.Proofs.YtnhdcclpjildjaaGreat
namespace Go.Proofs.YtnhdcclpjildjaaGreat
open Go.RowKit

theorem cpu_grp (us : List Value) (n p : Nat) (M : MemP) : grpOk Gs.nil (cpuU 0 us n p M) = true := by
 show sbnd 7 (cpuU 0 us n p M) = true
 have h : bndL 7 (us.map .v ++ [.ref 1 0]) = true := by
  induction us with
  | nil => rfl
  | cons u us ih => simpa only [List.map_cons, List.cons_append, bndL, CV.bnd] using ih
 simp only [sbnd, Ow.bnd, bndL_vals, bndL, CV.bnd, h]
 rfl
theorem cpu_mem (us : List Value) (n p : Nat) (M : MemP) (T : List Ow) : ∀ i, i < 6 → (cpuU 0 us n p M ++ T)[1 + i]? = (memS 1 n p M)[i]? := fun i hi => by
 rcases (by omega : i = 0 ∨ i = 1 ∨ i = 2 ∨ i = 3 ∨ i = 4 ∨ i = 5) with rfl | rfl | rfl | rfl | rfl | rfl <;> rfl
set_option maxRecDepth 100000 in
set_option maxHeartbeats 8000000 in
theorem sanity14 (w : World) : Calls Tryz.prog 13 #[] w fun e w' => e = .returned (.bool true) ∧ Below w.heap.size w w' := by
 refine calls_satq [] Tryz.func13 Tryz.ntmps13 rfl (by simp) ?_
 refine satq_seqN ?_
 conv => whnf
 refine satq_seqN ?_
 conv => whnf
 refine call_newObjs (xs := [intV ((2 : Nat) : Int)]) (cpuU 0 stZ 512 2 (MemP.zero 2)) (cpuU 0 stZ 512 2 (MemP.zero 2)) rfl (by kernel_rfl) (cpuU_sh 0 stZ 512 2 _) (cpuU_ob stZ 512 2 _) (fun r w hR => cpu_new 2 w (by omega)) ?_
 conv => whnf
 refine satq_seqN ?_
 conv => whnf
 refine satq_seqN ?_
 conv => whnf
 have hz : (MemP.zero 2).ok 512 2 := san_ok
 obtain ⟨M0, hM0⟩ : ∃ M0, M0 = MemP.zero 2 := ⟨_, rfl⟩
 rw [← hM0] at hz ⊢
 refine satq_mid (α := Unit) (fun _ => [(0, one (.bool false)), (1, .p (.c (.ref 0 0))), (3, one (strV (sanS 3)))]) (fun _ => cpuU 0 stZ 512 2 M0) ?_ fun _ => ?_
 ·refine satq_seqN ?_
  conv => whnf
  refine satq_block ?_
  refine satq_loop (α := { j : Nat // j ≤ 3 }) (fun x => [(0, one (.bool false)), (1, .p (.c (.ref 0 0))), (2, .p (.c (.sl 7 0 3 3))), (3, one (strV (sanS x.1))), (4, one (intV (x.1 : Int)))]) (fun _ => cpuU 0 stZ 512 2 M0 ++ [Ow.cells qiT ((sanI.flatMap qiL).map .v)]) (fun x => 3 - x.1)
   ⟨0, by omega⟩ (ent_same rfl (aI rfl (aI rfl (aI rfl (aI rfl (aI rfl trivial))))) (aI sM (aI sM (aI sM (aI sM (aI sM (aI sM (aI sM (aI sM trivial))))))))) fun x => ?_
  obtain ⟨j, hj⟩ := x
  dsimp only
  rcases (by omega : j = 0 ∨ j = 1 ∨ j = 2 ∨ j = 3) with rfl | rfl | rfl | rfl
  ·refine satq_seqN ?_
   conv => whnf
   (repeat ((first | apply k1 | apply k2 | apply k3 | apply k4 | refine k5 (by decide) ?_ | refine k6 (by decide) ?_); conv => whnf))
   refine satq_in (satq_block ?_)
   refine satq_seqN ?_
   conv => whnf
   refine ⟨⟨by omega, by omega⟩, ?_⟩
   conv => whnf
   refine call_con (x := encV (some 1077936133)) rfl (by kernel_rfl) (fun r w' hR => encode_ref ⟨16, 1, 0, 0, 5⟩ w' ⟨by decide, by decide⟩ (by unfold word; decide)) ?_
   conv => whnf
   refine satq_vcN ?_
   conv => whnf
   refine call_con (x := strV (putL 1077936133)) rfl (by kernel_rfl) (fun r w' hR => put_walk 1077936133 w' (by unfold word; decide)) ?_
   conv => whnf
   refine q_cat_str (sanS 0) (putL 1077936133) rfl rfl rfl (by decide) ?_
   conv => whnf
   refine atq_block (atq_on ?_)
   refine satq_vcN ?_
   conv => whnf
   refine ⟨1, by rw [wr64] <;> decide, ?_⟩
   conv => whnf
   exact atq_next ⟨1, by omega⟩ (ent_same rfl (aI rfl (aI rfl (aI rfl (aI rfl (aI rfl trivial))))) (aI sM (aI sM (aI sM (aI sM (aI sM (aI sM (aI sM (aI sM trivial))))))))) (by dsimp only; decide)
  ·refine satq_seqN ?_
   conv => whnf
   (repeat ((first | apply k1 | apply k2 | apply k3 | apply k4 | refine k5 (by decide) ?_ | refine k6 (by decide) ?_); conv => whnf))
   refine satq_in (satq_block ?_)
   refine satq_seqN ?_
   conv => whnf
   refine ⟨⟨by omega, by omega⟩, ?_⟩
   conv => whnf
   refine call_con (x := encV (some 2152202243)) rfl (by kernel_rfl) (fun r w' hR => encode_ref ⟨32, 1, 2, 0, 3⟩ w' ⟨by decide, by decide⟩ (by unfold word; decide)) ?_
   conv => whnf
   refine satq_vcN ?_
   conv => whnf
   refine call_con (x := strV (putL 2152202243)) rfl (by kernel_rfl) (fun r w' hR => put_walk 2152202243 w' (by unfold word; decide)) ?_
   conv => whnf
   refine q_cat_str (sanS 1) (putL 2152202243) rfl rfl rfl (by decide) ?_
   conv => whnf
   refine atq_block (atq_on ?_)
   refine satq_vcN ?_
   conv => whnf
   refine ⟨2, by rw [wr64] <;> decide, ?_⟩
   conv => whnf
   exact atq_next ⟨2, by omega⟩ (ent_same rfl (aI rfl (aI rfl (aI rfl (aI rfl (aI rfl trivial))))) (aI sM (aI sM (aI sM (aI sM (aI sM (aI sM (aI sM (aI sM trivial))))))))) (by dsimp only; decide)
  ·refine satq_seqN ?_
   conv => whnf
   (repeat ((first | apply k1 | apply k2 | apply k3 | apply k4 | refine k5 (by decide) ?_ | refine k6 (by decide) ?_); conv => whnf))
   refine satq_in (satq_block ?_)
   refine satq_seqN ?_
   conv => whnf
   refine ⟨⟨by omega, by omega⟩, ?_⟩
   conv => whnf
   refine call_con (x := encV (some 3355443200)) rfl (by kernel_rfl) (fun r w' hR => encode_ref ⟨50, 0, 0, 0, 0⟩ w' ⟨by decide, by decide⟩ (by unfold word; decide)) ?_
   conv => whnf
   refine satq_vcN ?_
   conv => whnf
   refine call_con (x := strV (putL 3355443200)) rfl (by kernel_rfl) (fun r w' hR => put_walk 3355443200 w' (by unfold word; decide)) ?_
   conv => whnf
   refine q_cat_str (sanS 2) (putL 3355443200) rfl rfl rfl (by decide) ?_
   conv => whnf
   refine atq_block (atq_on ?_)
   refine satq_vcN ?_
   conv => whnf
   refine ⟨3, by rw [wr64] <;> decide, ?_⟩
   conv => whnf
   exact atq_next ⟨3, by omega⟩ (ent_same rfl (aI rfl (aI rfl (aI rfl (aI rfl (aI rfl trivial))))) (aI sM (aI sM (aI sM (aI sM (aI sM (aI sM (aI sM (aI sM trivial))))))))) (by dsimp only; decide)
  ·refine satq_seqN ?_
   conv => whnf
   (repeat ((first | apply k1 | apply k2 | apply k3 | apply k4 | refine k5 (by decide) ?_ | refine k6 (by decide) ?_); conv => whnf))
   exact atq_out (atq_exit (atq_mid () (ent_drop (aI rfl (aI rfl (aI rfl trivial))) (aI sM (aI sM (aI sM (aI sM (aI sM (aI sM (aI sM trivial))))))) rfl (cpu_grp stZ 512 2 M0))))
 obtain ⟨M1, hM1⟩ : ∃ M1, M1 = M0.codeTo 1 (sanS 3) (min (sanS 3).length 256) := ⟨_, rfl⟩
 obtain ⟨M2, hM2⟩ : ∃ M2, M2 = M1.protect 1 4 := ⟨_, rfl⟩
 have hsb : ∀ x ∈ sanS 3, 0 ≤ x ∧ x < 256 := by decide
 have hk1 : M1.ok 512 2 := by rw [hM1]; exact codeTo_ok hz 1 hsb _
 have hk2 : M2.ok 512 2 := by rw [hM2]; exact protect_ok hk1 1 (by decide)
 have hsan : M2 = sanM := by rw [hM2, hM1, hM0]; kernel_rfl
 have hl1 : liftM M2 256 64 = sanB1 := by rw [hsan]; exact san_lift1
 have hl2 : liftM M2 256 1 = sanB2 := by rw [hsan]; exact san_lift2
 have hl3 : liftM M2 264 9 = sanB3 := by rw [hsan]; exact san_lift3
 refine satq_mid (α := Unit) (fun _ => [(0, one (.bool false)), (1, .p (.c (.ref 0 0)))]) (fun _ => cpuU 0 stZ 512 2 M1) ?_ fun _ => ?_
 ·refine satq_vcN ?_
  conv => whnf
  refine call_memW (pre := []) (suf := [one (intV 1), one (strV (sanS 3))]) 1 512 2 M0 M1 (.tuple #[]) (fun i hi => by have := cpu_mem stZ 512 2 M0 [] i hi; rwa [List.append_nil] at this) rfl rfl (by kernel_rfl) (fun w g gs hk hU => by rw [hM1]; exact mem_setCode M0 512 2 1 (sanS 3) w g gs hU hz (by decide) hsb (by decide)) ?_
  conv => whnf
  exact atq_mid () (ent_same rfl (aI rfl (aI rfl trivial)) (aI sM (aI sM (aI sM (aI sM (aI sM (aI sM (aI sM trivial))))))))
 refine satq_mid (α := Unit) (fun _ => [(0, one (.bool false)), (1, .p (.c (.ref 0 0)))]) (fun _ => cpuU 0 stZ 512 2 M2) ?_ fun _ => ?_
 ·refine satq_vcN ?_
  conv => whnf
  refine call_memW (pre := []) (suf := [one (intV 1), one (intV 4)]) 1 512 2 M1 M2 (.tuple #[]) (fun i hi => by have := cpu_mem stZ 512 2 M1 [] i hi; rwa [List.append_nil] at this) rfl rfl (by kernel_rfl) (fun w g gs hk hU => by rw [hM2]; exact mem_protect M1 512 2 1 4 w g gs hU hk1 (by decide) (by decide) (by decide)) ?_
  conv => whnf
  exact atq_mid () (ent_same rfl (aI rfl (aI rfl trivial)) (aI sM (aI sM (aI sM (aI sM (aI sM (aI sM (aI sM trivial))))))))
 refine satq_mid (α := Unit) (fun _ => [(0, one (.bool false)), (1, .p (.c (.ref 0 0)))]) (fun _ => cpuU 0 (u32V 256 :: stZ.tail) 512 2 M2) ?_ fun _ => ?_
 ·refine satq_vcN ?_
  conv => whnf
  exact atq_mid () (ent_same rfl (aI rfl (aI rfl trivial)) (aI sM (aI sM (aI sM (aI sM (aI sM (aI sM (aI sM trivial))))))))
 refine satq_seqN ?_
 conv => whnf
 refine call_lifted 1 512 2 M2 256 64 (fun i hi => by have := cpu_mem (u32V 256 :: stZ.tail) 512 2 M2 [] i hi; rwa [List.append_nil] at this) hk2 (by decide) (by unfold word; decide) ?_
 rw [hl1]
 conv => whnf
 refine satq_seqN ?_
 conv => whnf
 refine call_lifted 1 512 2 M2 256 1 (cpu_mem (u32V 256 :: stZ.tail) 512 2 M2 _) hk2 (by decide) (by unfold word; decide) ?_
 rw [hl2]
 conv => whnf
 refine satq_seqN ?_
 conv => whnf
 refine call_lifted 1 512 2 M2 264 9 (cpu_mem (u32V 256 :: stZ.tail) 512 2 M2 _) hk2 (by decide) (by unfold word; decide) ?_
 rw [hl3]
 conv => whnf
 refine satq_seqN ?_
 conv => whnf
 (repeat ((first | apply k1 | apply k2 | apply k3 | apply k4 | refine k5 (by decide) ?_ | refine k6 (by decide) ?_); conv => whnf))
 have hb1 : sanB1.ok := hl1 ▸ (liftM_ok hk2 256 64).1
 have he1 : (evalBlk sanB1 zeros28 M2).out = ⟨false, 0, 2, 264, sanV⟩ := by rw [hsan]; exact san_eval1
 have hm1 : (evalBlk sanB1 zeros28 M2).mem = M2 := by rw [hsan]; exact san_mem1
 have hb2 : sanB2.ok := hl2 ▸ (liftM_ok hk2 256 1).1
 have he2 : (evalBlk sanB2 zeros28 M2).out = ⟨false, 0, 1, 260, sanV⟩ := by rw [hsan]; exact san_eval2
 have hm2 : (evalBlk sanB2 zeros28 M2).mem = M2 := by rw [hsan]; exact san_mem2
 have hb3 : sanB3.ok := hl3 ▸ (liftM_ok hk2 264 9).1
 have he3 : (evalBlk sanB3 zeros28 M2).out = ⟨true, 0, 0, 264, zeros28⟩ := by rw [hsan]; exact san_eval3
 have hm3 : (evalBlk sanB3 zeros28 M2).mem = M2 := by rw [hsan]; exact san_mem3
 clear hl1 hl2 hl3 hsan hM2 hM1 hM0 hsb hk1 hz
 refine satq_mid (α := Unit) (fun _ => [(0, one (.bool false)), (1, .p (.c (.ref 0 0))), (7, .p (.c (.ref 10 0))), (9, .p (.c (.ref 14 0))), (11, .p (.c (.ref 18 0))), (13, .p (.c (.ref 19 0)))]) (fun _ => cpuU 0 (u32V 256 :: stZ.tail) 512 2 M2 ++ blkRows sanB1 ++ [Ow.cells blT [.row 7, .row 8, .row 9]] ++ blkRows sanB2 ++ [Ow.cells blT [.row 11, .row 12, .row 13]] ++ blkRows sanB3 ++ [Ow.cells blT [.row 15, .row 16, .row 17]] ++ [Ow.cells 55 ((outL ⟨false, 0, 2, 264, sanV⟩).map .v)]) ?_ fun _ => ?_
 ·refine satq_vcN ?_
  conv => whnf
  refine sat_anyG (.q 1 (.q 2 (.q 3 (.q 4 (.alt 0 (.alt 5 (.alt 6 (.alt 7 (.alt 8 .done .no) .no) (.alt 7 (.alt 6 (.alt 8 .done .no) .no) .no)) (.alt 7 (.alt 5 (.alt 6 (.alt 8 .done .no) .no) .no) .no)) (.alt 5 (.alt 0 (.alt 6 (.alt 7 (.alt 8 .done .no) .no) (.alt 7 (.alt 6 (.alt 8 .done .no) .no) .no)) (.alt 7 (.alt 0 (.alt 6 (.alt 8 .done .no) .no) .no) .no)) (.alt 7 (.alt 0 (.alt 5 (.alt 6 (.alt 8 .done .no) .no) .no) (.alt 5 (.alt 0 (.alt 6 (.alt 8 .done .no) .no) .no) .no)) .no))))))) mixed (by kernel_rfl) (by kernel_rfl) ?_
  conv => whnf
  repeat' (first
   | exact atq_mid () (ent_same rfl (aI rfl (aI rfl (aI rfl (aI rfl (aI rfl (aI rfl trivial)))))) (aI sM (aI sM (aI sM (aI sM (aI sM (aI sM (aI sM (aI ((aI rfl (aI rfl (aI rfl rfl)))) (aI ((aI rfl (aI rfl (aI rfl rfl)))) (aI ((aI rfl (aI rfl (aI rfl rfl)))) (aI sM (aI ((aI rfl (aI rfl (aI rfl rfl)))) (aI ((aI rfl (aI rfl (aI rfl rfl)))) (aI ((aI rfl (aI rfl (aI rfl rfl)))) (aI sM (aI ((aI rfl (aI rfl (aI rfl rfl)))) (aI ((aI rfl (aI rfl (aI rfl rfl)))) (aI ((aI rfl (aI rfl (aI rfl rfl)))) (aI sM (aI sM trivial)))))))))))))))))))))
   | (refine call_eval 1 512 2 7 8 9 sanB1 zeros28 M2 rfl (fun i hi => by rcases (by omega : i = 0 ∨ i = 1 ∨ i = 2 ∨ i = 3 ∨ i = 4 ∨ i = 5) with rfl | rfl | rfl | rfl | rfl | rfl <;> rfl) hk2 hb1 rfl zeros_ok rfl rfl rfl ⟨by decide, by decide, by decide⟩ ?_; rw [he1, hm1]; conv => whnf)
   | (refine ⟨?_, trivial⟩; conv => whnf)
   | (refine ⟨?_, ?_, trivial⟩ <;> conv => whnf)
   | (refine ⟨?_, ?_, ?_, trivial⟩ <;> conv => whnf))
 refine satq_mid (α := Unit) (fun _ => [(0, one (.bool false)), (1, .p (.c (.ref 0 0))), (7, .p (.c (.ref 10 0))), (9, .p (.c (.ref 14 0))), (11, .p (.c (.ref 18 0))), (13, .p (.c (.ref 19 0))), (14, .p (.c (.ref 20 0)))]) (fun _ => cpuU 0 (u32V 256 :: stZ.tail) 512 2 M2 ++ blkRows sanB1 ++ [Ow.cells blT [.row 7, .row 8, .row 9]] ++ blkRows sanB2 ++ [Ow.cells blT [.row 11, .row 12, .row 13]] ++ blkRows sanB3 ++ [Ow.cells blT [.row 15, .row 16, .row 17]] ++ [Ow.cells 55 ((outL ⟨false, 0, 2, 264, sanV⟩).map .v)] ++ [Ow.cells 55 ((outL ⟨false, 0, 1, 260, sanV⟩).map .v)]) ?_ fun _ => ?_
 ·refine satq_vcN ?_
  conv => whnf
  refine sat_anyG (.q 1 (.q 2 (.q 3 (.q 4 (.alt 0 (.alt 5 (.alt 6 (.alt 7 (.alt 8 .done .no) .no) (.alt 7 (.alt 6 (.alt 8 .done .no) .no) .no)) (.alt 7 (.alt 5 (.alt 6 (.alt 8 .done .no) .no) .no) .no)) (.alt 5 (.alt 0 (.alt 6 (.alt 7 (.alt 8 .done .no) .no) (.alt 7 (.alt 6 (.alt 8 .done .no) .no) .no)) (.alt 7 (.alt 0 (.alt 6 (.alt 8 .done .no) .no) .no) .no)) (.alt 7 (.alt 0 (.alt 5 (.alt 6 (.alt 8 .done .no) .no) .no) (.alt 5 (.alt 0 (.alt 6 (.alt 8 .done .no) .no) .no) .no)) .no))))))) mixed (by kernel_rfl) (by kernel_rfl) ?_
  conv => whnf
  repeat' (first
   | exact atq_mid () (ent_same rfl (aI rfl (aI rfl (aI rfl (aI rfl (aI rfl (aI rfl (aI rfl trivial))))))) (aI sM (aI sM (aI sM (aI sM (aI sM (aI sM (aI sM (aI ((aI rfl (aI rfl (aI rfl rfl)))) (aI ((aI rfl (aI rfl (aI rfl rfl)))) (aI ((aI rfl (aI rfl (aI rfl rfl)))) (aI sM (aI ((aI rfl (aI rfl (aI rfl rfl)))) (aI ((aI rfl (aI rfl (aI rfl rfl)))) (aI ((aI rfl (aI rfl (aI rfl rfl)))) (aI sM (aI ((aI rfl (aI rfl (aI rfl rfl)))) (aI ((aI rfl (aI rfl (aI rfl rfl)))) (aI ((aI rfl (aI rfl (aI rfl rfl)))) (aI sM (aI sM (aI sM trivial))))))))))))))))))))))
   | (refine call_eval 1 512 2 11 12 13 sanB2 zeros28 M2 rfl (fun i hi => by rcases (by omega : i = 0 ∨ i = 1 ∨ i = 2 ∨ i = 3 ∨ i = 4 ∨ i = 5) with rfl | rfl | rfl | rfl | rfl | rfl <;> rfl) hk2 hb2 rfl zeros_ok rfl rfl rfl ⟨by decide, by decide, by decide⟩ ?_; rw [he2, hm2]; conv => whnf)
   | (refine ⟨?_, trivial⟩; conv => whnf)
   | (refine ⟨?_, ?_, trivial⟩ <;> conv => whnf)
   | (refine ⟨?_, ?_, ?_, trivial⟩ <;> conv => whnf))
 refine satq_mid (α := Unit) (fun _ => [(0, one (.bool false)), (1, .p (.c (.ref 0 0))), (7, .p (.c (.ref 10 0))), (9, .p (.c (.ref 14 0))), (11, .p (.c (.ref 18 0))), (13, .p (.c (.ref 19 0))), (14, .p (.c (.ref 20 0))), (15, .p (.c (.ref 21 0)))]) (fun _ => cpuU 0 (u32V 256 :: stZ.tail) 512 2 M2 ++ blkRows sanB1 ++ [Ow.cells blT [.row 7, .row 8, .row 9]] ++ blkRows sanB2 ++ [Ow.cells blT [.row 11, .row 12, .row 13]] ++ blkRows sanB3 ++ [Ow.cells blT [.row 15, .row 16, .row 17]] ++ [Ow.cells 55 ((outL ⟨false, 0, 2, 264, sanV⟩).map .v)] ++ [Ow.cells 55 ((outL ⟨false, 0, 1, 260, sanV⟩).map .v)] ++ [Ow.cells 55 ((outL ⟨true, 0, 0, 264, zeros28⟩).map .v)]) ?_ fun _ => ?_
 ·refine satq_vcN ?_
  conv => whnf
  refine sat_anyG (.q 1 (.q 2 (.q 3 (.q 4 (.alt 0 (.alt 5 (.alt 6 (.alt 7 (.alt 8 .done .no) .no) (.alt 7 (.alt 6 (.alt 8 .done .no) .no) .no)) (.alt 7 (.alt 5 (.alt 6 (.alt 8 .done .no) .no) .no) .no)) (.alt 5 (.alt 0 (.alt 6 (.alt 7 (.alt 8 .done .no) .no) (.alt 7 (.alt 6 (.alt 8 .done .no) .no) .no)) (.alt 7 (.alt 0 (.alt 6 (.alt 8 .done .no) .no) .no) .no)) (.alt 7 (.alt 0 (.alt 5 (.alt 6 (.alt 8 .done .no) .no) .no) (.alt 5 (.alt 0 (.alt 6 (.alt 8 .done .no) .no) .no) .no)) .no))))))) mixed (by kernel_rfl) (by kernel_rfl) ?_
  conv => whnf
  repeat' (first
   | exact atq_mid () (ent_same rfl (aI rfl (aI rfl (aI rfl (aI rfl (aI rfl (aI rfl (aI rfl (aI rfl trivial)))))))) (aI sM (aI sM (aI sM (aI sM (aI sM (aI sM (aI sM (aI ((aI rfl (aI rfl (aI rfl rfl)))) (aI ((aI rfl (aI rfl (aI rfl rfl)))) (aI ((aI rfl (aI rfl (aI rfl rfl)))) (aI sM (aI ((aI rfl (aI rfl (aI rfl rfl)))) (aI ((aI rfl (aI rfl (aI rfl rfl)))) (aI ((aI rfl (aI rfl (aI rfl rfl)))) (aI sM (aI ((aI rfl (aI rfl (aI rfl rfl)))) (aI ((aI rfl (aI rfl (aI rfl rfl)))) (aI ((aI rfl (aI rfl (aI rfl rfl)))) (aI sM (aI sM (aI sM (aI sM trivial)))))))))))))))))))))))
   | (refine call_eval 1 512 2 15 16 17 sanB3 zeros28 M2 rfl (fun i hi => by rcases (by omega : i = 0 ∨ i = 1 ∨ i = 2 ∨ i = 3 ∨ i = 4 ∨ i = 5) with rfl | rfl | rfl | rfl | rfl | rfl <;> rfl) hk2 hb3 rfl zeros_ok rfl rfl rfl ⟨by decide, by decide, by decide⟩ ?_; rw [he3, hm3]; conv => whnf)
   | (refine ⟨?_, trivial⟩; conv => whnf)
   | (refine ⟨?_, ?_, trivial⟩ <;> conv => whnf)
   | (refine ⟨?_, ?_, ?_, trivial⟩ <;> conv => whnf))
 refine satq_vcN ?_
 conv => whnf
 (repeat ((first | apply k1 | apply k2 | apply k3 | apply k4 | refine k5 (by decide) ?_ | refine k6 (by decide) ?_); conv => whnf))
 refine ⟨by decide, ?_⟩
 conv => whnf
 (repeat ((first | apply k1 | apply k2 | apply k3 | apply k4 | refine k5 (by decide) ?_ | refine k6 (by decide) ?_); conv => whnf))
 refine atq_ret ?_
 conv => whnf
 exact fin_val rfl fun w2 hB => ⟨rfl, hB⟩
end Go.Proofs.YtnhdcclpjildjaaGreat
namespace Go.Proofs.YtnhdcclpjildjaaGreat
open Go.RowKit

theorem call_ex {P : Program} {w0 : World} {G : Gs} {fid : FuncId} {args : List AV} {xs : List Value} {S : List Ow} {K : AV → List Ow → Prop} (post : Value → Prop) (hx : avals args = some xs) (hok : fnOk P fid = true)
  (h : ∀ r w, Rel w0 G S r w → Calls P fid xs.toArray w fun e w' => ∃ v, e = .returned v ∧ post v ∧ Below w.heap.size w w') (hK : ∀ v, post v → K (AV.of v) S) : CallS P w0 G fid args S K := by
 refine ⟨hok, fun r w us hR hd => ?_⟩
 obtain rfl := avals_den hx hd
 exact (h r w hR).mono fun e w' ⟨v, he, hp, hB⟩ => ⟨_, v, S, r, he, AV.of_den r v, hR.below hB, Env.le.refl r, hK v hp⟩
end Go.Proofs.YtnhdcclpjildjaaGreat
namespace Go.Proofs.YtnhdcclpjildjaaGreat
open Go.RowKit

theorem ex_gen {p : Int → Prop} {a : Int} (h : ∀ m, a = m → p m) : ∃ m, a = m ∧ p m := ⟨a, rfl, h a rfl⟩
def QI.fair (i : QI) : Prop := (0 ≤ i.op ∧ i.op < 64) ∧ word i.imm
set_option maxRecDepth 100000 in
set_option maxHeartbeats 2000000 in
theorem tame_walk (i : QI) (k : Int) (w : World) (hi : i.fair) : Calls Tryz.prog 65 #[qiV i, intV k] w fun e w' => ∃ v, e = .returned v ∧ (∃ j : QI, v = qiV j ∧ j.fair) ∧ Below w.heap.size w w' := by
 have hw1 := hi.2
 unfold word at hw1
 obtain ⟨im, him, him2⟩ : ∃ im, i.imm.tmod 64 = im ∧ word im := ⟨i.imm % 64, Int.tmod_eq_emod_of_nonneg hw1.1, by unfold word; omega⟩
 refine calls_satq [qiV i, intV k] Tryz.func65 Tryz.ntmps65 rfl (by simp) ?_
 refine satq_seqN ?_
 conv => whnf
 refine satq_mid (α := { j : QI // j.fair }) (fun _ => [(2, .p (.c (.ref 0 0))), (4, .p (.c (.ref 1 0)))]) (fun x => [Ow.cells qiT ((qiL x.1).map .v), Ow.cells qiT ((qiL QI.zero).map .v)]) ?_ fun x => ?_
 ·refine satq_vcN ?_
  conv => whnf
  have w32 : ∀ x, word (IntKind.u32.wrap x) := fun x => by rw [wr32]; unfold word; omega
  repeat' (first
   | exact atq_mid (⟨i, hi⟩ : { j : QI // j.fair }) (ent_same rfl (aI rfl (aI rfl trivial)) (aI sM (aI sM trivial)))
   | exact atq_mid ⟨⟨i.op, i.d, _, i.b, im⟩, hi.1, him2⟩ (ent_same rfl (aI rfl (aI rfl trivial)) (aI sM (aI sM trivial)))
   | (rename_i m hm; exact atq_mid ⟨⟨i.op, i.d, _, i.b, m⟩, hi.1, hm ▸ w32 _⟩ (ent_same rfl (aI rfl (aI rfl trivial)) (aI sM (aI sM trivial))))
   | (rename_i m hm; exact atq_mid (⟨⟨i.op, i.d, m, i.b, i.imm⟩, ⟨hi.1, hi.2⟩⟩ : { j : QI // j.fair }) (ent_same rfl (aI rfl (aI rfl trivial)) (aI sM (aI sM trivial))))
   | exact atq_mid (⟨⟨i.op, i.d, 4, i.b, i.imm⟩, ⟨hi.1, hi.2⟩⟩ : { j : QI // j.fair }) (ent_same rfl (aI rfl (aI rfl trivial)) (aI sM (aI sM trivial)))
   | (refine call_con rfl (by kernel_rfl) (fun r w' hR => mod_ref k _ w' (by decide)) ?_; conv => whnf)
   | (refine ⟨fun _ => ?_, nT⟩; (conv=>whnf)) | (refine ⟨fun _ => ?_, nF⟩; (conv=>whnf)) | (refine ⟨nF, fun _ => ?_⟩; (conv=>whnf)) | (refine ⟨nT, fun _ => ?_⟩; (conv=>whnf))
   | (refine ⟨fun hc => ?_, fun hc => ?_⟩ <;> conv => whnf)
   | (refine ex_gen fun m hm => ?_; conv => whnf)
   | (refine ⟨by decide, im, him, ?_⟩; conv => whnf))
 obtain ⟨j, hj⟩ := x
 dsimp only
 refine satq_vcN ?_
 conv => whnf
 refine atq_ret ?_
 conv => whnf
 exact fin_val rfl fun w2 hB => ⟨_, rfl, ⟨j, rfl, hj⟩, hB⟩
end Go.Proofs.YtnhdcclpjildjaaGreat
namespace Go.Proofs.YtnhdcclpjildjaaGreat
open Go.RowKit

set_option maxRecDepth 100000 in
set_option maxHeartbeats 2000000 in
theorem words_walk (w : World) (A : Option Addr) (n c : Nat) (_hn : n < 9223372036854775808) (hA : ProgAt w A n) : Calls Tryz.prog 37 #[.slice A n c] w fun e w' => ∃ v, e = .returned v ∧ (∃ l : List Int, v = strV l ∧ l.length ≤ 400 ∧ ∀ x ∈ l, 0 ≤ x ∧ x < 256) ∧ Below w.heap.size w w' := by
 refine calls_satq [.slice A n c] Tryz.func37 Tryz.ntmps37 rfl (by simp) ?_
 refine satq_seqN ?_
 conv => whnf
 refine satq_seqN ?_
 conv => whnf
 refine satq_mid (α := { l : List Int // l.length ≤ 400 ∧ ∀ x ∈ l, 0 ≤ x ∧ x < 256 }) (fun x => [(3, one (strV x.1))]) (fun _ => []) ?_ fun x => ?_
 ·refine satq_seqN ?_
  conv => whnf
  refine satq_block ?_
  refine satq_loop (α := { x : Nat × List Int // x.1 ≤ 100 ∧ x.1 ≤ n ∧ x.2.length = 4 * x.1 ∧ ∀ y ∈ x.2, 0 ≤ y ∧ y < 256 }) (fun x => [(0, one (.slice A n c)), (3, one (strV x.1.2)), (4, one (intV (x.1.1 : Int)))]) (fun _ => []) (fun x => 100 - x.1.1)
   ⟨(0, []), by simp⟩ (ent_same rfl (aI rfl (aI rfl (aI rfl trivial))) trivial) fun x => ?_
  obtain ⟨⟨j, l⟩, hj, hjn, hl, hb⟩ := x
  dsimp only at hj hjn hl hb ⊢
  have hout : ¬ (j < n ∧ j < 100) → l.length ≤ 400 ∧ ∀ x ∈ l, 0 ≤ x ∧ x < 256 := fun _ => ⟨by omega, hb⟩
  refine satq_seqN ?_
  conv => whnf
  refine ⟨fun hc => ?_, fun hc => ?_⟩
  ·have hlt : j < n := by simpa using hc
   conv => whnf
   (repeat ((first | apply k1 | apply k2 | apply k3 | apply k4 | refine k5 (by decide) ?_ | refine k6 (by decide) ?_); conv => whnf))
   refine ⟨fun hc => ?_, fun hc => ?_⟩
   ·have hlt2 : j < 100 := by
     have : decide ((j : Int) < 100) = true := hc
     simp at this; omega
    conv => whnf
    obtain ⟨b, off, n0, n1, n2, n3, n4, rfl, hcell⟩ := hA j hlt
    refine satq_in (satq_block ?_)
    refine satq_mid (α := { y : Int // word y }) (fun y => [(0, one (.slice (some ⟨b, off, none⟩) n c)), (3, one (strV l)), (4, one (intV (j : Int))), (5, one (.int .u32 y.1))]) (fun _ => []) ?_ fun y => ?_
    ·refine satq_vcN ?_
     refine sat_anyG (.q 0 (.q 1 (.q 2 (.q 3 (.q 5 (.q 6 (.q 7 (.q 8 (.q 9 (.alt 4 (.alt 10 (.alt 11 (.alt 12 (.alt 13 (.alt 14 (.alt 15 (.alt 16 .done .no) .no) (.alt 15 (.alt 14 (.alt 16 .done .no) .no) .no)) (.alt 14 (.alt 13 (.alt 15 (.alt 16 .done .no) .no) .no) .no)) .no) .no) .no) .no)))))))))) mixed (by kernel_rfl) (by kernel_rfl) ?_
     conv => whnf
     have hc4 : CellsAt w Gs.nil b (off + j * 5 + 4) [intV n4] := cells_one hcell.1 (by simp) (hcell.2.2 4 _ rfl)
     (refine ⟨⟨by omega, by omega⟩, ?_⟩; (conv=>whnf))
     refine ⟨[intV n0, intV n1, intV n2, intV n3, intV n4], hcell, rfl, ?_⟩
     conv => whnf
     (refine ⟨⟨by omega, by omega⟩, ?_⟩; (conv=>whnf))
     refine q_index_ptr (size := 1) b (off + j * 5) 5 4 rfl rfl rfl rfl rfl rfl (by decide) (by decide) ?_
     conv => whnf
     refine ⟨_, hc4, ?_⟩
     conv => whnf
     refine ⟨?_, trivial⟩
     conv => whnf
     refine call_con rfl (by kernel_rfl) (fun r w' hR => made_ref03 n0 n1 n2 n3 n4 w') ?_
     have hmk := madeQ_ok n0 n1 n2 n3 n4
     obtain ⟨i, hi⟩ : ∃ i, madeQ n0 n1 n2 n3 n4 = i := ⟨_, rfl⟩
     rw [hi] at hmk ⊢
     conv => whnf
     refine ⟨?_, trivial⟩
     conv => whnf
     refine call_ex (fun v => ∃ j : QI, v = qiV j ∧ j.fair) rfl (by kernel_rfl) (fun r w' hR => tame_walk i n4 w' ⟨⟨hmk.op.1, by have := hmk.op.2; omega⟩, hmk.imm⟩) fun v hv => ?_
     obtain ⟨i2, rfl, hf⟩ := hv
     conv => whnf
     refine ⟨?_, trivial⟩
     conv => whnf
     refine call_con rfl (by kernel_rfl) (fun r w' hR => encode_ref i2 w' hf.1 hf.2) ?_
     obtain ⟨y, hy⟩ : ∃ y, encQ i2 = y := ⟨_, rfl⟩
     have hyw : word (y.getD 0) := by
      rw [← hy]; unfold encQ
      split
      ·rename_i hv; exact (decQ_word hv hf.2).2
      ·unfold word; decide
     rw [hy]
     clear hy
     conv => whnf
     repeat' (first
      | exact atq_mid ⟨y.getD 0, hyw⟩ (ent_same rfl (aI rfl (aI rfl (aI rfl (aI rfl trivial)))) trivial)
      | (refine ⟨?_, trivial⟩; conv => whnf)
      | (refine ⟨?_, ?_, trivial⟩ <;> conv => whnf))
    obtain ⟨y, hyw⟩ := y
    dsimp only
    refine satq_vcN ?_
    conv => whnf
    refine call_con (x := strV (putL y)) rfl (by kernel_rfl) (fun r w' hR => put_walk y w' hyw) ?_
    conv => whnf
    refine q_cat_str l (putL y) rfl rfl rfl (by unfold putL; rw [putTo_length]; omega) ?_
    conv => whnf
    refine atq_block (atq_on ?_)
    refine satq_vcN ?_
    conv => whnf
    refine ⟨(j : Int) + 1, by rw [wr64] <;> omega, ?_⟩
    conv => whnf
    refine atq_next ⟨(j + 1, l ++ putL y), by omega, by omega, ?_, ?_⟩ (ent_same rfl (aI rfl (aI rfl (aI rfl trivial))) trivial) (by dsimp only; omega)
    ·dsimp only; unfold putL; rw [List.length_append, putTo_length]; omega
    ·intro x hx
     rcases List.mem_append.1 hx with hx | hx
     ·exact hb x hx
     ·exact putTo_bytes _ _ x hx
   ·conv => whnf
    exact atq_out (atq_exit (atq_mid ⟨l, by omega, hb⟩ (ent_same rfl (aI rfl trivial) trivial)))
  ·conv => whnf
   (repeat ((first | apply k1 | apply k2 | apply k3 | apply k4 | refine k5 (by decide) ?_ | refine k6 (by decide) ?_); conv => whnf))
   exact atq_out (atq_exit (atq_mid ⟨l, by omega, hb⟩ (ent_same rfl (aI rfl trivial) trivial)))
 obtain ⟨l, hl, hb⟩ := x
 dsimp only
 refine satq_vcN ?_
 conv => whnf
 refine atq_ret ?_
 conv => whnf
 exact fin_val rfl fun w2 hB => ⟨_, rfl, ⟨l, rfl, hl, hb⟩, hB⟩
end Go.Proofs.YtnhdcclpjildjaaGreat
namespace Go.Proofs.YtnhdcclpjildjaaGreat
open Go.ChangeShapes Go.WideShapes Go.ChangeAt Go.RowKit

set_option maxRecDepth 100000 in
theorem open_prog {H : Type} {enc : TypeId × Value → H} {W : World} {a : Option Addr} {len cap : Nat} {d : DataW H} {p : List MemPlace} (h : DataW.Trod enc Tryz.prog W 0 (fun _ => true) true 22 (.slice a len cap) d p) :
  ProgAt W a len ∧ len < 9223372036854775808 := by
 obtain ⟨fuel, hf⟩ := h
 have hc5 : Tryz.prog.cellsOf 58 = 5 := by kernel_rfl
 rcases DataW.trod_slice Tryz.underlying22 hf with ⟨hcs, _⟩ | ⟨x, l, c, elems, rest, n, _, hcs, _, _, hl, hm, hlen, hel, _, _⟩
 ·simp [Value.cells] at hcs
  obtain ⟨rfl, rfl, rfl⟩ := hcs
  exact ⟨fun j hj => by omega, by omega⟩
 ·simp [Value.cells] at hcs
  obtain ⟨rfl, rfl, rfl⟩ := hcs
  refine ⟨fun j hj => ?_, by unfold maxLen at hm; omega⟩
  have h1 := hel j hj
  rw [List.getElem?_eq_getElem (by omega), hc5, Option.bind_eq_some_iff] at h1
  obtain ⟨cs, h2, h3⟩ := h1
  obtain ⟨zs, rfl, hz, _⟩ := open_ints_arr (k := .i64) Tryz.underlying58 Tryz.underlying3 (by kernel_rfl) (by kernel_rfl) h3
  obtain ⟨_, _, h4⟩ := World.cells?_some h2
  obtain ⟨b, off, spot⟩ := x
  have hs : spot = none := by
   have k1 := hel 0 (by omega)
   rw [List.getElem?_eq_getElem (by omega), hc5, Option.bind_eq_some_iff] at k1
   obtain ⟨cs0, k2, k3⟩ := k1
   obtain ⟨ys, rfl, hy, _⟩ := open_ints_arr (k := .i64) Tryz.underlying58 Tryz.underlying3 (by kernel_rfl) (by kernel_rfl) k3
   obtain ⟨_, _, k4⟩ := World.cells?_some k2
   have h0 := k4 0 (by omega)
   rw [List.getElem?_map, List.getElem?_eq_getElem (by omega)] at h0
   exact World.cell?_spot h0
  subst hs
  match zs, hz with
  | [z0, z1, z2, z3, z4], _ =>
   have h6 : ∀ i u, [intV z0, intV z1, intV z2, intV z3, intV z4][i]? = some u → W.cell? ⟨b, off + j * 5 + i, none⟩ = some u := fun i u hi => by
    have hi5 : i < 5 := by
     rcases Nat.lt_or_ge i 5 with h7 | h7
     ·exact h7
     ·rw [List.getElem?_eq_none (by simpa using h7)] at hi; cases hi
    have h7 := h4 i hi5
    rw [addr_add, addr_add] at h7
    rw [h7]; exact hi
   exact ⟨b, off, z0, z1, z2, z3, z4, rfl, cells_lt (h6 0 _ rfl), by simp, h6⟩
set_option maxRecDepth 100000 in
theorem open_n4 {H : Type} {enc : TypeId × Value → H} {W : World} {r : Reach} {b0 : Nat} {v : Value} {d : DataW H} {p : List MemPlace} (hv : Value.okWide Tryz.prog W r b0 23 v) (h : DataW.Trod enc Tryz.prog W 0 (fun _ => true) true 23 v d p) :
  ∃ a b c e : Int, v = .agg #[intV a, intV b, intV c, intV e] ∧ (-9223372036854775808 ≤ a ∧ a < 9223372036854775808) ∧ (-9223372036854775808 ≤ b ∧ b < 9223372036854775808) ∧ (-9223372036854775808 ≤ c ∧ c < 9223372036854775808) ∧ (-9223372036854775808 ≤ e ∧ e < 9223372036854775808) := by
 simp only [Value.okWide, Tryz.underlying23] at hv
 obtain ⟨cs, rfl, hsz, _⟩ := hv
 obtain ⟨fuel, hf⟩ := h
 obtain ⟨zs, e, l, w⟩ := open_ints_arr (k := .i64) Tryz.underlying23 Tryz.underlying3 (by kernel_rfl) (by kernel_rfl) hf
 have e : cs.toList = zs.map (Value.int .i64) := e
 match zs, l with
 | [z0, z1, z2, z3], _ =>
  refine ⟨z0, z1, z2, z3, ?_, int_wf (w _ (by simp)), int_wf (w _ (by simp)), int_wf (w _ (by simp)), int_wf (w _ (by simp))⟩
  show Value.agg cs = Value.agg ([z0, z1, z2, z3].map (Value.int .i64)).toArray
  rw [← e]
set_option maxRecDepth 100000 in
theorem open_q2 {H : Type} {enc : TypeId × Value → H} {W : World} {r : Reach} {b0 : Nat} {v : Value} {d : DataW H} {p : List MemPlace} (hv : Value.okWide Tryz.prog W r b0 24 v) (h : DataW.Trod enc Tryz.prog W 0 (fun _ => true) true 24 v d p) :
  ∃ a b : Int, v = .agg #[intV a, intV b] ∧ (-9223372036854775808 ≤ a ∧ a < 9223372036854775808) ∧ (-9223372036854775808 ≤ b ∧ b < 9223372036854775808) := by
 simp only [Value.okWide, Tryz.underlying24] at hv
 obtain ⟨cs, rfl, hsz, _⟩ := hv
 obtain ⟨fuel, hf⟩ := h
 obtain ⟨zs, e, l, w⟩ := open_ints_arr (k := .i64) Tryz.underlying24 Tryz.underlying3 (by kernel_rfl) (by kernel_rfl) hf
 have e : cs.toList = zs.map (Value.int .i64) := e
 match zs, l with
 | [z0, z1], _ =>
  refine ⟨z0, z1, ?_, int_wf (w _ (by simp)), int_wf (w _ (by simp))⟩
  show Value.agg cs = Value.agg ([z0, z1].map (Value.int .i64)).toArray
  rw [← e]
end Go.Proofs.YtnhdcclpjildjaaGreat
namespace Go.Proofs.YtnhdcclpjildjaaGreat
open Go.RowKit

abbrev stL (s : St) (T : List Value) : List Value := u32V s.pc :: u32V (s.R 0) :: u32V (s.R 1) :: u32V (s.R 2) :: u32V (s.R 3) :: u32V (s.R 4) :: u32V (s.R 5) :: u32V (s.R 6) :: u32V (s.R 7) :: u32V (s.R 8) :: u32V (s.R 9) :: u32V (s.R 10) :: u32V (s.R 11) :: u32V (s.R 12) :: u32V (s.R 13) :: u32V (s.R 14) :: u32V (s.R 15) :: u32V s.f :: u32V s.c0 :: u32V s.c1 :: u32V s.c2 :: u32V s.c3 :: intV s.steps :: intV s.due :: T
abbrev stV (s : St) : Value := .agg (stL s []).toArray
abbrev stT : TypeId := 39
end Go.Proofs.YtnhdcclpjildjaaGreat
namespace Go.Proofs.YtnhdcclpjildjaaGreat
open Go.RowKit

theorem stC_of (s : St) : StC (stL s []) := ⟨rfl, fun _ => rfl⟩
theorem StC.clen {L : List Value} (h : StC L) : (L.map CV.v).length = 24 := by rw [List.length_map]; exact h.len
end Go.Proofs.YtnhdcclpjildjaaGreat
namespace Go.Proofs.YtnhdcclpjildjaaGreat
open Go.RowKit

def MemP.fk (M : MemP) (pc : Int) : Int := if pc % 4 = 0 then (match M.bad pc 4 0 4 with | some _ => 5 | none => if (readQ M.fet pc).isSome = true then 0 else 7) else 7
def MemP.fi (M : MemP) (pc : Int) : Int := if pc % 4 = 0 then (match M.bad pc 4 0 4 with | some y => y | none => 0) else 0
abbrev fetV6 (i : QI) (k inf : Int) : Value := .agg #[intV i.op, intV i.d, intV i.a, intV i.b, u32V i.imm, intV k, u32V inf]
theorem bad_some {M : MemP} {a r y : Int} : ∀ {i k : Nat}, M.bad a r i k = some y → ∃ j, i ≤ j ∧ j < i + k ∧ M.right ((a + j) % 4294967296) r = false
 | i, 0, h => by cases h
 | i, k + 1, h => by
  unfold MemP.bad at h
  split at h
  ·obtain ⟨j, h1, h2, h3⟩ := bad_some h
   exact ⟨j, by omega, by omega, h3⟩
  ·rename_i hr
   exact ⟨i, Nat.le_refl _, by omega, by simpa using hr⟩
theorem fet_none {M : MemP} {a : Int} (h : M.right a 4 = false) : M.fet a = none := by unfold MemP.fet; rw [h]; rfl
theorem read_bad {M : MemP} {pc y : Int} (hpc : word pc) (h4 : pc % 4 = 0) (h : M.bad pc 4 0 4 = some y) : readQ M.fet pc = none := by
 obtain ⟨j, _, h2, h3⟩ := bad_some h
 unfold word at hpc
 rw [show (pc + (j : Int)) % 4294967296 = pc + j by omega] at h3
 unfold readQ
 rw [if_pos h4, readN_none (fet_none h3) (by omega)]
 rfl
theorem fk_zero {M : MemP} {pc : Int} (hpc : word pc) : M.fk pc = 0 ↔ (readQ M.fet pc).isSome = true := by
 unfold MemP.fk
 by_cases h4 : pc % 4 = 0
 ·rw [if_pos h4]
  cases hb : M.bad pc 4 0 4 with
  | some y => rw [read_bad hpc h4 hb]; simp
  | none => cases (readQ M.fet pc).isSome <;> simp
 ·rw [if_neg h4]
  unfold readQ
  rw [if_neg h4]
  simp
set_option maxRecDepth 100000 in
set_option maxHeartbeats 8000000 in
theorem fetch6_walk (M : MemP) (n p : Nat) (pc : Int) (w : World) (g : Nat) (gs : List Nat) (hU : ObjsAt w (g :: gs) (memS 0 n p M)) (hM : M.ok n p) (hpc : word pc) :
  Calls Tryz.prog 46 #[u32V pc, .pointer (some ⟨g, 0, none⟩)] w fun e w' => e = .returned (fetV6 ((readQ M.fet pc).getD QI.zero) (M.fk pc) (M.fi pc)) ∧ ObjsAt w' (g :: gs) (memS 0 n p M) ∧ GrownBys w w' (g :: gs) := by
 obtain ⟨g0, g1, g2, g3, g4, g5, hg⟩ := six_blocks hU
 injection hg with hg0 hgs
 subst hgs; subst hg0
 have hpc' := hpc
 obtain ⟨p0, p1⟩ := hpc'
 refine calls_objs_satq [one (u32V pc), .p (.c (.ref 0 0))] [u32V pc, .pointer (some ⟨g, 0, none⟩)] Tryz.func46 Tryz.ntmps46 rfl (by simp) hU ⟨_, _, rfl, den_one _ _, _, _, rfl, den_mk_ref rfl, rfl⟩ ?_
 refine satq_seqN ?_
 conv => whnf
 refine satq_seqN ?_
 conv => whnf
 refine ⟨by decide, pc % 4, Int.tmod_eq_emod_of_nonneg p0, ?_⟩
 conv => whnf
 refine ⟨fun hc => ?_, fun hc => ?_⟩
 ·have h4 : ¬ pc % 4 = 0 := by simpa using hc
  conv => whnf
  refine atq_ret ?_
  conv => whnf
  refine fin_objs rfl rfl memL_sub (memS_ob n p M) fun w' h1 h2 => ⟨?_, h1, h2⟩
  unfold MemP.fk MemP.fi readQ
  rw [if_neg h4, if_neg h4, if_neg h4]; rfl
 have h4 : pc % 4 = 0 := by simpa using hc
 have hr : readQ M.fet pc = (readN M.fet pc 4).bind decQ := by unfold readQ; rw [if_pos h4]
 clear hc
 conv => whnf
 refine satq_seqN ?_
 conv => whnf
 refine satq_mid (α := { x : Int // readN M.fet pc 4 = some x ∧ M.bad pc 4 0 4 = none }) (fun x => [(0, one (u32V pc)), (4, .p (.c (.ref 6 0))), (5, one (u32V x.1))]) (fun _ => memL 0 n p M [.cells 106 [.v (intV 0), .v (intV 0), .v (intV 0), .v (intV 0), .v (u32V 0), .v (intV 0), .v (u32V 0)]]) ?_ fun x => ?_
 ·refine satq_seqN ?_
  conv => whnf
  refine satq_block ?_
  refine satq_loop (α := { x : Nat × Int // x.1 ≤ 4 ∧ readN M.fet pc x.1 = some x.2 ∧ M.bad pc 4 0 4 = M.bad pc 4 x.1 (4 - x.1) }) (fun x => [(0, one (u32V pc)), (1, .p (.c (.ref 0 0))), (4, .p (.c (.ref 6 0))), (5, one (u32V x.1.2)), (6, one (intV (x.1.1 : Int)))]) (fun _ => memL 0 n p M [.cells 106 [.v (intV 0), .v (intV 0), .v (intV 0), .v (intV 0), .v (u32V 0), .v (intV 0), .v (u32V 0)]]) (fun x => 4 - x.1.1)
   ⟨(0, 0), by omega, rfl, rfl⟩ (ent_same rfl (aI rfl (aI rfl (aI rfl (aI rfl (aI rfl trivial))))) (aI sM (aI sM (aI sM (aI sM (aI sM (aI sM (aI sM trivial)))))))) fun x => ?_
  obtain ⟨⟨j, k⟩, hj, hk, hb⟩ := x
  dsimp only at hj hk hb ⊢
  have hkb := readN_lt (fun a b h => fet_byte hM a b h) hk
  refine satq_seqN ?_
  conv => whnf
  refine ⟨fun hc => ?_, fun hc => ?_⟩
  ·have hlt : j < 4 := by simp at hc; omega
   have hbs := bad_step M pc 4 (i := j) (m := 4) hlt
   rw [show (pc + (j : Int)) % 4294967296 = pc + j by omega] at hbs
   have hwx : word (pc + j) := by unfold word; omega
   have hno := readN_none (F := M.fet) (a := pc) (i := j) (j := 4)
   have hnx : readN M.fet pc (j + 1) = match readN M.fet pc j, M.fet (pc + j) with
    | some k, some b => some (k + b * 256 ^ j)
    | _, _ => none := rfl
   rw [hk] at hnx
   have hfb := fet_byte hM (pc + j)
   conv => whnf
   refine satq_in (satq_block ?_)
   refine satq_seqN ?_
   conv => whnf
   refine ⟨(j : Int), by rw [wr32]; omega, ?_⟩
   conv => whnf
   refine ⟨pc + j, by rw [wr32]; omega, ?_⟩
   conv => whnf
   refine call_memR (pre := []) (suf := [one (u32V (pc + j))]) 0 n p M (M.fetchV (pc + j)) (fun i hi => memL_six i hi) rfl rfl (by kernel_rfl) (fun w' g gs hk hU => mem_fetch M n p (pc + j) w' g gs hU hM hwx) ?_
   cases hrt : M.right (pc + j) 4 with
   | false =>
    have hfv : M.fetchV (pc + j) = valV 0 (pc + j) false := by unfold MemP.fetchV; rw [hrt]; rfl
    have hbad : M.bad pc 4 0 4 = some (pc + j) := by rw [hb, hbs, hrt]; rfl
    rw [hfv]
    conv => whnf
    refine satq_seqN ?_
    conv => whnf
    refine ⟨fun _ => ?_, fun hc => absurd hc (by decide)⟩
    conv => whnf
    refine ⟨(j : Int), by rw [wr32]; omega, ?_⟩
    conv => whnf
    refine ⟨pc + j, by rw [wr32]; omega, ?_⟩
    conv => whnf
    refine atq_up (atq_ret ?_) fun a w hq => hq
    conv => whnf
    refine fin_objs rfl rfl (fun i o h => sub_append i o h) (memS_ob n p M) fun w' h1 h2 => ⟨?_, h1, h2⟩
    rw [read_bad hpc h4 hbad]
    unfold MemP.fk MemP.fi
    rw [if_pos h4, if_pos h4, hbad]; rfl
   | true =>
    have hfv : M.fetchV (pc + j) = valV (M.code (pc + j)) 0 true := by unfold MemP.fetchV; rw [hrt]; rfl
    have hfe : M.fet (pc + j) = some (M.code (pc + j)) := by unfold MemP.fet; rw [hrt]; rfl
    rw [hrt] at hbs
    rw [hfv]
    have hbb := hfb _ hfe
    rw [hfe] at hnx
    generalize M.code (pc + j) = b at hbb hnx hfe hfv ⊢
    conv => whnf
    refine satq_seqN ?_
    conv => whnf
    refine ⟨fun hc => absurd hc (by decide), fun _ => ?_⟩
    conv => whnf
    have hj4 : j = 0 ∨ j = 1 ∨ j = 2 ∨ j = 3 := by omega
    refine satq_vcN ?_
    conv => whnf
    refine ⟨8 * (j : Int), wr64 (by omega), ?_⟩
    conv => whnf
    refine ⟨8 * (j : Int), by show IntKind.u64.wrap _ = _; rcases hj4 with rfl | rfl | rfl | rfl <;> rfl, ?_⟩
    conv => whnf
    refine ⟨by omega, b * 256 ^ j, ?_, ?_⟩
    ·rw [wr32]
     rcases hj4 with rfl | rfl | rfl | rfl
     ·show b * 2 ^ 0 % 4294967296 = b * 256 ^ 0; omega
     ·show b * 2 ^ 8 % 4294967296 = b * 256 ^ 1; omega
     ·show b * 2 ^ 16 % 4294967296 = b * 256 ^ 2; omega
     ·show b * 2 ^ 24 % 4294967296 = b * 256 ^ 3; omega
    conv => whnf
    refine ⟨k + b * 256 ^ j, ?_, ?_⟩
    ·rw [wr32]
     have := readN_lt (fun a b h => fet_byte hM a b h) hnx
     have h2 : (256 : Int) ^ (j + 1) ≤ 4294967296 := by rcases hj4 with rfl | rfl | rfl | rfl <;> decide
     omega
    conv => whnf
    refine atq_block (atq_on ?_)
    refine satq_vcN ?_
    conv => whnf
    refine ⟨(j : Int) + 1, wr64 (by omega), ?_⟩
    conv => whnf
    exact atq_next ⟨(j + 1, k + b * 256 ^ j), by show j + 1 ≤ 4; omega, hnx, by rw [hb, hbs, if_pos rfl]⟩ (ent_drop (aI rfl (aI rfl (aI rfl (aI rfl (aI rfl trivial))))) (aI sM (aI sM (aI sM (aI sM (aI sM (aI sM (aI sM trivial))))))) rfl (grp_memT _ _ _ _ _ _ _ _ _ _ rfl)) (by show 4 - (j + 1) < 4 - j; omega)
  ·have he : j = 4 := by simp at hc; omega
   subst he
   conv => whnf
   exact atq_out (atq_exit (atq_mid ⟨k, hk, by rw [hb]; rfl⟩ (ent_same rfl (aI rfl (aI rfl (aI rfl trivial))) (aI sM (aI sM (aI sM (aI sM (aI sM (aI sM (aI sM trivial))))))))))
 obtain ⟨x, hx, hb⟩ := x
 dsimp only
 have hxw : word x := by have := readN_lt (fun a b h => fet_byte hM a b h) hx; unfold word; omega
 refine satq_seqN ?_
 conv => whnf
 refine call_con rfl (by kernel_rfl) (fun r w' hR => decode_ref x w' hxw) ?_
 have hr2 : readQ M.fet pc = decQ x := by rw [hr, hx]; rfl
 have hfk : M.fk pc = if (decQ x).isSome = true then 0 else 7 := by unfold MemP.fk; rw [if_pos h4, hb, hr2]
 have hfi : M.fi pc = 0 := by unfold MemP.fi; rw [if_pos h4, hb]
 rw [hr2, hfk, hfi]
 cases decQ x with
 | none =>
  conv => whnf
  refine satq_vcN ?_
  conv => whnf
  (repeat ((first | apply k1 | apply k2 | apply k3 | apply k4 | refine k5 (by decide) ?_ | refine k6 (by decide) ?_); conv => whnf))
  refine atq_ret ?_
  conv => whnf
  exact fin_objs rfl rfl (fun i o h => sub_append i o h) (memS_ob n p M) fun w' h1 h2 => ⟨rfl, h1, h2⟩
 | some i =>
  conv => whnf
  refine satq_vcN ?_
  conv => whnf
  (repeat ((first | apply k1 | apply k2 | apply k3 | apply k4 | refine k5 (by decide) ?_ | refine k6 (by decide) ?_); conv => whnf))
  refine atq_ret ?_
  conv => whnf
  exact fin_objs rfl rfl (fun i o h => sub_append i o h) (memS_ob n p M) fun w' h1 h2 => ⟨rfl, h1, h2⟩
end Go.Proofs.YtnhdcclpjildjaaGreat
