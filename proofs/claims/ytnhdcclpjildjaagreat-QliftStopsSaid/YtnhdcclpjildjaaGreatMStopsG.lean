/- Calls that are handed objects, with rows of one's own as other arguments. -/
import Derived.Test.YtnhdcclpjildjaaGreatK17
import Derived.Test.YtnhdcclpjildjaaGreatMStopsF
namespace Go.Proofs.YtnhdcclpjildjaaGreat
open Go.RowKit
theorem call_objsX {P : Program} {w0 : World} {G : Gs} {fid : FuncId} {S : List Ow} {K : AV → List Ow → Prop} {pre suf : List AV} {α : Type} (k : Nat) (U V : List Ow) (U' V' : α → List Ow) (X : α → Value) (post : α → Prop) (hpos : 0 < U.length) (hsh : ShAll k U V) (hob : ObAll U.length U) (hS : ∀ i, i < U.length → S[k + i]? = V[i]?)
  (hok : fnOk P fid = true) (hsh' : ∀ x, post x → ShAll k (U' x) (V' x)) (hob' : ∀ x, post x → ObAll U.length (U' x)) (hlen' : ∀ x, post x → (U' x).length = U.length)
  (h : ∀ r w g gs xs ys, Rel w0 G S r w → avdenL r pre xs → avdenL r suf ys → (∀ b, b ∈ g :: gs → ∃ i, i < U.length ∧ r.blk (k + i) = some b) → ObjsAt w (g :: gs) U → Calls P fid (xs ++ .pointer (some ⟨g, 0, none⟩) :: ys).toArray w fun e w' => ∃ x, post x ∧ e = .returned (X x) ∧ ObjsAt w' (g :: gs) (U' x) ∧ GrownBys w w' (g :: gs))
  (hK : ∀ x, post x → K (AV.of (X x)) (putS S k (V' x))) : CallS P w0 G fid (pre ++ .p (.c (.ref k 0)) :: suf) S K := by
 refine ⟨hok, fun r w vs hR hd => ?_⟩
 have hSlen : k + U.length ≤ S.length := by
  have h1 := hS (U.length - 1) (by omega)
  obtain ⟨o', h2, _⟩ := hsh.get (U.length - 1) (List.getElem?_eq_getElem (by omega) : U[U.length - 1]? = some U[U.length - 1])
  rw [h2] at h1
  rcases Nat.lt_or_ge (k + (U.length - 1)) S.length with h3 | h3
  ·omega
  ·rw [List.getElem?_eq_none h3] at h1; cases h1
 have hblk : ∀ i, i < U.length → ∃ b, r.blk (k + i) = some b := fun i hi => by
  obtain ⟨o', h2, h3⟩ := hsh.get i (List.getElem?_eq_getElem hi)
  have h4 := hR.own (k + i) o' (by rw [hS i hi, h2])
  have h5 := hob _ (List.getElem_mem hi)
  cases hu : U[i] with
  | cells t l =>
   rw [hu] at h3
   cases o' with
   | cells t' l' => obtain ⟨b, us, e1, _⟩ := h4; exact ⟨b, e1⟩
   | row => exact h3.elim
   | ext => exact h3.elim
   | view => exact h3.elim
   | gone => exact h3.elim
  | row => rw [hu] at h5; exact h5.elim
  | ext => rw [hu] at h5; exact h5.elim
  | view => rw [hu] at h5; exact h5.elim
  | gone => rw [hu] at h5; exact h5.elim
 obtain ⟨gs, hgl, hgs⟩ : ∃ gs : List Nat, gs.length = U.length ∧ ∀ i, i < U.length → gs[i]? = r.blk (k + i) := by
  refine ⟨(List.range U.length).map fun i => (r.blk (k + i)).getD 0, by simp, fun i hi => ?_⟩
  obtain ⟨b, hb⟩ := hblk i hi
  rw [List.getElem?_map, List.getElem?_range hi, hb]
  simp [hb]
 have hto : ∀ i b, i < U.length → r.blk (k + i) = some b → (envOf gs).blk i = some b := fun i b hi hb => by
  show gs[i]? = some b
  rw [hgs i hi]; exact hb
 have hfrom : ∀ i b, i < U.length → (envOf gs).blk i = some b → r.blk (k + i) = some b := fun i b hi hb => by
  have hb : gs[i]? = some b := hb
  rw [hgs i hi] at hb; exact hb
 have hin : ∀ (i b : Nat), gs[i]? = some b → i < U.length ∧ r.blk (k + i) = some b := fun i b hb => by
  have hi : i < U.length := by
   rcases Nat.lt_or_ge i U.length with h1 | h1
   ·exact h1
   ·rw [List.getElem?_eq_none (by omega)] at hb; cases hb
  exact ⟨hi, by rw [← hgs i hi]; exact hb⟩
 have hmem : ∀ b, b ∈ gs → ∃ i, i < U.length ∧ r.blk (k + i) = some b := fun b hb => by
  obtain ⟨i, hi⟩ := List.getElem?_of_mem hb
  exact ⟨i, hin i b hi⟩
 have hU : ObjsAt w gs U := by
  refine ⟨hgl.symm, fun i j b hi hj => ?_, fun g hg => ?_, fun i o ho => ?_⟩
  ·have := hR.inj _ _ b (hin i b hi).2 (hin j b hj).2
   omega
  ·obtain ⟨i, _, hi⟩ := hmem g hg
   exact (hR.new _ g hi).1
  ·have hi : i < U.length := by
    rcases Nat.lt_or_ge i U.length with h1 | h1
    ·exact h1
    ·rw [List.getElem?_eq_none h1] at ho; cases ho
   obtain ⟨o', h2, h3⟩ := hsh.get i ho
   have h4 := hR.own (k + i) o' (by rw [hS i hi, h2])
   have h5 := hob o (List.mem_of_getElem? ho)
   cases o with
   | cells t l =>
    cases o' with
    | cells t' l' =>
     obtain ⟨rfl, rfl⟩ := h3
     obtain ⟨b, us, e1, e2, e3⟩ := h4
     exact ⟨b, us, hto i b hi e1, e2, denL_sh (n := U.length) hto h5 e3⟩
    | row => exact h3.elim
    | ext => exact h3.elim
    | view => exact h3.elim
    | gone => exact h3.elim
   | row => exact h5.elim
   | ext => exact h5.elim
   | view => exact h5.elim
   | gone => exact h5.elim
 have hkeep : OldKeeps w0 G w gs := fun b hb hG => by
  refine ⟨Nat.lt_of_lt_of_le hb hR.size, fun hm => ?_, hR.old b hb hG⟩
  obtain ⟨i, _, hi⟩ := hmem b hm
  exact hG ((hR.new _ b hi).2 hb)
 cases gs with
 | nil => simp at hgl; omega
 | cons g gs =>
  obtain ⟨vs1, vs2, rfl, d1, d2⟩ := avden_append hd
  obtain ⟨u, vs3, rfl, d3, d4⟩ := d2
  obtain ⟨b, hb, rfl⟩ := den_ref d3
  have hbg : b = g := by
   have := hto 0 b hpos (by simpa using hb)
   have : g = b := by injection this
   exact this.symm
  subst hbg
  refine (h r w b gs _ _ hR d1 d4 hmem hU).mono fun e w' ⟨x, hp, he, hU', hg⟩ => ?_
  refine ⟨AV.of (X x), X x, _, r, he, AV.of_den r _, ?_, Env.le.refl r, hK x hp⟩
  have hVl : (V' x).length = U.length := by rw [← hlen' x hp, (hsh' x hp).length]
  have hnot : ∀ j b', r.blk j = some b' → ¬ (k ≤ j ∧ j < k + U.length) → b' ∉ (b :: gs) := fun j b' hj hno hm => by
   obtain ⟨i, hi, hbi⟩ := hmem b' hm
   have := hR.inj _ _ b' hj hbi
   omega
  refine ⟨hg.os.trans hR.os, hg.tape.trans hR.tape, hg.output.trans hR.output, Nat.le_trans hR.size hg.size, fun j hj hjG => ?_, fun j o hj => ?_, hR.inj, fun j b' hb' => ⟨Nat.lt_of_lt_of_le (hR.new j b' hb').1 hg.size, (hR.new j b' hb').2⟩,
   fun j hj => hR.outB j (by rwa [putS_length] at hj), fun j hj => hR.outV j (by rwa [putS_length] at hj), hR.first⟩
  ·obtain ⟨k1, k2, k3⟩ := hkeep j hj hjG
   rw [hg.block j k1 k2]; exact k3
  ·rw [putS_get _ _ _ _ (by rw [hVl]; exact hSlen), hVl] at hj
   by_cases hr : k ≤ j ∧ j < k + U.length
   ·rw [if_pos hr] at hj
    obtain ⟨o', h2, h3⟩ := (hsh' x hp).get' (j - k) hj
    have h4 := hU'.own (j - k) o' h2
    have h5 := hob' x hp o' (List.mem_of_getElem? h2)
    cases o' with
    | cells t l =>
     cases o with
     | cells t' l' =>
      obtain ⟨rfl, rfl⟩ := h3
      obtain ⟨c, us, e1, e2, e3⟩ := h4
      refine ⟨c, us, ?_, e2, sh_denL (n := U.length) hfrom h5 e3⟩
      have := hfrom (j - k) c (by omega) e1
      rwa [show k + (j - k) = j by omega] at this
     | row => exact h3.elim
     | ext => exact h3.elim
     | view => exact h3.elim
     | gone => exact h3.elim
    | row => exact h5.elim
    | ext => exact h5.elim
    | view => exact h5.elim
    | gone => exact h5.elim
   ·rw [if_neg hr] at hj
    refine Ow.holds_block (hR.own j o hj) (fun b' hb' => hg.block b' (hR.new j b' hb').1 (hnot j b' hb' hr)) hg.size fun b' hb' hno => hg.block b' hb' fun hm => ?_
    obtain ⟨i, _, hi⟩ := hmem b' hm
    exact hno _ hi
end Go.Proofs.YtnhdcclpjildjaaGreat
namespace Go.Proofs.YtnhdcclpjildjaaGreat
open Go.RowKit

section
variable {w0 : World} {G : Gs} {S : List Ow} {K : AV → List Ow → Prop}
theorem row_old {w : World} {r : Env} {g : Nat} {gs : List Nat} {k m : Nat} (hR : Rel w0 G S r w) (hgs : ∀ b, b ∈ g :: gs → ∃ i, i < m ∧ r.blk (k + i) = some b) {i n size : Nat} {e : TypeId} {xs : List Value} {u : Value} (hi : S[i]? = some (.row e size n xs)) (hn : i < k ∨ k + m ≤ i) (hu : r.val i = some u) : ∃ A c, u = .slice A n c ∧ SlOld w ⟨g :: gs, []⟩ A xs := by
 obtain ⟨v, f1, f2, f3⟩ := hR.own i _ hi
 rw [hu] at f1; injection f1 with f1; subst f1
 rcases f3.2 with ⟨rfl, h0⟩ | ⟨b, cap, cur, rfl, _, hh, hnc, hcap, hsz, htake⟩
 ·refine ⟨none, 0, by rw [h0], fun j u hj => ?_⟩
  have := f3.1
  rw [h0] at this
  have : xs = [] := List.eq_nil_of_length_eq_zero (by simpa using this)
  subst this
  simp at hj
 ·refine ⟨_, _, rfl, fun j u hj => ⟨b, 0, rfl, heap_lt hh, ?_, ?_⟩⟩
  ·rintro (hm | hm)
   ·obtain ⟨t, ht, hb⟩ := hgs b hm
    have hbi : r.blk i = some b := by rw [← f2]; rfl
    have := hR.inj _ _ b hb hbi
    omega
   ·cases hm
  ·simp only [World.cell?, hh, Nat.zero_add]
   rw [← htake, List.getElem?_take] at hj
   split at hj
   ·simpa using hj
   ·cases hj
theorem call_eval (k n p i1 i2 i3 : Nat) (b : Blk) (vs : List Int) (M : MemP) {x : AV} (hx : x.val = some (varsV vs)) (hS : ∀ i, i < 6 → S[k + i]? = (memS k n p M)[i]?) (hM : M.ok n p) (hb : b.ok) (hv : validB b = true) (hvs : VarsOk vs)
  (h1 : S[i1]? = some (.row 35 1 b.at_.length (b.at_.map (.int .u32)))) (h2 : S[i2]? = some (.row 3 1 b.pages.length (b.pages.map (.int .i64)))) (h3 : S[i3]? = some (.row 45 5 b.ops.length (b.ops.flatMap opC))) (hn : (i1 < k ∨ k + 6 ≤ i1) ∧ (i2 < k ∨ k + 6 ≤ i2) ∧ (i3 < k ∨ k + 6 ≤ i3))
  (hK : K (AV.of (outV (evalBlk b vs M).out)) (putS S k (memS k n p (evalBlk b vs M).mem))) : CallS Tryz.prog w0 G 29 [.p (.agg [.row i1, .row i2, .row i3]), x, .p (.c (.ref k 0))] S K := by
 refine call_objsX (α := Unit) (pre := [.p (.agg [.row i1, .row i2, .row i3]), x]) (suf := []) k (memS 0 n p M) (memS k n p M) (fun _ => memS 0 n p (evalBlk b vs M).mem) (fun _ => memS k n p (evalBlk b vs M).mem) (fun _ => outV (evalBlk b vs M).out) (fun _ => True) (by simp) (memS_sh k n p M) (memS_ob n p M) hS (by kernel_rfl) (fun _ _ => memS_sh k n p _) (fun _ _ => memS_ob n p _) (fun _ _ => rfl)
  (fun r w g gs xs ys hR hd hd2 hgs hU => ?_) (fun _ _ => hK)
 obtain ⟨u, l, rfl, d1, d2⟩ := hd
 obtain ⟨u2, l2, rfl, d3, d4⟩ := d2
 obtain rfl : l2 = [] := d4
 obtain rfl : ys = [] := hd2
 obtain rfl := AV.val_den hx d3
 obtain ⟨us, rfl, hl⟩ := den_agg d1
 simp only [denL, CV.den] at hl
 obtain ⟨u1, l1, rfl, k1, u2, l2, rfl, k2, u3, l3, rfl, k3, rfl⟩ := hl
 obtain ⟨A1, c1, e1, s1⟩ := row_old hR hgs h1 hn.1 k1
 obtain ⟨A2, c2, e2, s2⟩ := row_old hR hgs h2 hn.2.1 k2
 obtain ⟨A3, c3, e3, s3⟩ := row_old hR hgs h3 hn.2.2 k3
 subst e1; subst e2; subst e3
 exact (eval_walk b vs n p M A1 A2 A3 c1 c2 c3 w g gs hU hM hb hv hvs s1 s2 s3).mono fun e w' h => ⟨(), trivial, h⟩
theorem call_lifted (k n p : Nat) (M : MemP) (pc most : Int) (hS : ∀ i, i < 6 → S[k + i]? = (memS k n p M)[i]?) (hM : M.ok n p) (hp : 2 ≤ p ∧ p ≤ 1000) (hpc : word pc)
  (hK : K (.tup [.agg [.row S.length, .row (S.length + 1), .row (S.length + 2)], .c (.v (.bool true))]) (S ++ blkRows (liftM M pc most))) : CallS Tryz.prog w0 G 15 [one (.int .u32 pc), .p (.c (.ref k 0)), one (intV most)] S K := by
 refine call_blkT (liftM M pc most) (.bool true) (by kernel_rfl) (fun r w us hR hd => ?_) hK
 obtain ⟨u1, l1, rfl, d1, d2⟩ := hd
 obtain ⟨u2, l2, rfl, d3, d4⟩ := d2
 obtain ⟨u3, l3, rfl, d5, d6⟩ := d4
 obtain rfl : l3 = [] := d6
 obtain rfl := den_v d1
 obtain rfl := den_v d5
 obtain ⟨g, gs, hg, hU⟩ := hR.objsAt k (memS 0 n p M) (memS k n p M) (by simp) hS (memS_sh k n p M) (memS_ob n p M)
 obtain ⟨b, hb, rfl⟩ := den_ref d3
 rw [hg] at hb; injection hb with hb; subst hb
 exact lifted_walk hU hM hp pc most hpc
end
end Go.Proofs.YtnhdcclpjildjaaGreat
namespace Go.Proofs.YtnhdcclpjildjaaGreat
open Go.RowKit

abbrev sanI : List QI := [⟨16, 1, 0, 0, 5⟩, ⟨32, 1, 2, 0, 3⟩, ⟨50, 0, 0, 0, 0⟩]
abbrev sanW : List Int := [1077936133, 2152202243, 3355443200]
def sanS (j : Nat) : List Int := (sanW.take j).flatMap putL
def sanM : MemP := ((MemP.zero 2).codeTo 1 (sanS 3) 12).protect 1 4
abbrev sanB1 : Blk := ⟨[256, 260], [1], [⟨20, 0, 0, 0, 0⟩, ⟨1, 20, 0, 0, 5⟩, ⟨3, 1, 0, 20, 0⟩, ⟨20, 0, 0, 0, 1⟩, ⟨13, 20, 1, 2, 0⟩, ⟨23, 0, 20, 0, 272⟩, ⟨24, 0, 0, 0, 264⟩]⟩
abbrev sanB2 : Blk := ⟨[256], [1], [⟨20, 0, 0, 0, 0⟩, ⟨1, 20, 0, 0, 5⟩, ⟨3, 1, 0, 20, 0⟩, ⟨24, 0, 0, 0, 260⟩]⟩
abbrev sanB3 : Blk := ⟨[264], [1], [⟨20, 0, 0, 0, 0⟩, ⟨22, 0, 0, 0, 0⟩]⟩
theorem san_lift1 : liftM sanM 256 64 = sanB1 := by kernel_rfl
theorem san_lift2 : liftM sanM 256 1 = sanB2 := by kernel_rfl
theorem san_lift3 : liftM sanM 264 9 = sanB3 := by kernel_rfl
abbrev zeros28 : List Int := [0, 0, 0, 0, 0, 0, 0, 0, 0, 0, 0, 0, 0, 0, 0, 0, 0, 0, 0, 0, 0, 0, 0, 0, 0, 0, 0, 0]
abbrev sanV : List Int := [0, 5, 0, 0, 0, 0, 0, 0, 0, 0, 0, 0, 0, 0, 0, 0, 0, 0, 0, 0, 0, 0, 0, 0, 0, 0, 0, 0]
theorem san_eval1 : (evalBlk sanB1 zeros28 sanM).out = ⟨false, 0, 2, 264, sanV⟩ := by kernel_rfl
theorem san_eval2 : (evalBlk sanB2 zeros28 sanM).out = ⟨false, 0, 1, 260, sanV⟩ := by kernel_rfl
theorem san_eval3 : (evalBlk sanB3 zeros28 sanM).out = ⟨true, 0, 0, 264, zeros28⟩ := by kernel_rfl
theorem san_mem1 : (evalBlk sanB1 zeros28 sanM).mem = sanM := by kernel_rfl
theorem san_mem2 : (evalBlk sanB2 zeros28 sanM).mem = sanM := by kernel_rfl
theorem san_mem3 : (evalBlk sanB3 zeros28 sanM).mem = sanM := by kernel_rfl
theorem zeros_ok : VarsOk zeros28 := ⟨rfl, fun x hx => by
 have : ∀ y ∈ zeros28, y = 0 := by decide
 rw [this x hx]; unfold word; omega⟩
theorem san_ok : (MemP.zero 2).ok 512 2 := mem_zero_ok (by decide)
end Go.Proofs.YtnhdcclpjildjaaGreat
namespace Go.Proofs.YtnhdcclpjildjaaGreat
open Go.RowKit

theorem cpu_grp (us : List Value) (n p : Nat) (M : MemP) : grpOk Gs.nil (cpuU 0 us n p M) = true := by
 show sbnd 7 (cpuU 0 us n p M) = true
 have h : bndL 7 (us.map .v ++ [.ref 1 0]) = true := by
  induction us with
  | nil => rfl
  | cons u us ih => simpa only [List.map_cons, List.cons_append, bndL, CV.bnd] using ih
 simp only [sbnd, Ow.bnd, bndL_vals, bndL, CV.bnd, h]
 rfl
theorem cpu_mem (us : List Value) (n p : Nat) (M : MemP) (T : List Ow) : ∀ i, i < 6 → (cpuU 0 us n p M ++ T)[1 + i]? = (memS 1 n p M)[i]? := fun i hi => by
 rcases (by omega : i = 0 ∨ i = 1 ∨ i = 2 ∨ i = 3 ∨ i = 4 ∨ i = 5) with rfl | rfl | rfl | rfl | rfl | rfl <;> rfl
set_option maxRecDepth 100000 in
set_option maxHeartbeats 8000000 in
theorem sanity14 (w : World) : Calls Tryz.prog 13 #[] w fun e w' => e = .returned (.bool true) ∧ Below w.heap.size w w' := by
 refine calls_satq [] Tryz.func13 Tryz.ntmps13 rfl (by simp) ?_
 refine satq_seqN ?_
 conv => whnf
 refine satq_seqN ?_
 conv => whnf
 refine call_newObjs (xs := [intV ((2 : Nat) : Int)]) (cpuU 0 stZ 512 2 (MemP.zero 2)) (cpuU 0 stZ 512 2 (MemP.zero 2)) rfl (by kernel_rfl) (cpuU_sh 0 stZ 512 2 _) (cpuU_ob stZ 512 2 _) (fun r w hR => cpu_new 2 w (by omega)) ?_
 conv => whnf
 refine satq_seqN ?_
 conv => whnf
 refine satq_seqN ?_
 conv => whnf
 have hz : (MemP.zero 2).ok 512 2 := san_ok
 obtain ⟨M0, hM0⟩ : ∃ M0, M0 = MemP.zero 2 := ⟨_, rfl⟩
 rw [← hM0] at hz ⊢
 refine satq_mid (α := Unit) (fun _ => [(0, one (.bool false)), (1, .p (.c (.ref 0 0))), (3, one (strV (sanS 3)))]) (fun _ => cpuU 0 stZ 512 2 M0) ?_ fun _ => ?_
 ·refine satq_seqN ?_
  conv => whnf
  refine satq_block ?_
  refine satq_loop (α := { j : Nat // j ≤ 3 }) (fun x => [(0, one (.bool false)), (1, .p (.c (.ref 0 0))), (2, .p (.c (.sl 7 0 3 3))), (3, one (strV (sanS x.1))), (4, one (intV (x.1 : Int)))]) (fun _ => cpuU 0 stZ 512 2 M0 ++ [Ow.cells qiT ((sanI.flatMap qiL).map .v)]) (fun x => 3 - x.1)
   ⟨0, by omega⟩ (ent_same rfl (aI rfl (aI rfl (aI rfl (aI rfl (aI rfl trivial))))) (aI sM (aI sM (aI sM (aI sM (aI sM (aI sM (aI sM (aI sM trivial))))))))) fun x => ?_
  obtain ⟨j, hj⟩ := x
  dsimp only
  rcases (by omega : j = 0 ∨ j = 1 ∨ j = 2 ∨ j = 3) with rfl | rfl | rfl | rfl
  ·refine satq_seqN ?_
   conv => whnf
   (repeat ((first | apply k1 | apply k2 | apply k3 | apply k4 | refine k5 (by decide) ?_ | refine k6 (by decide) ?_); conv => whnf))
   refine satq_in (satq_block ?_)
   refine satq_seqN ?_
   conv => whnf
   refine ⟨⟨by omega, by omega⟩, ?_⟩
   conv => whnf
   refine call_con (x := encV (some 1077936133)) rfl (by kernel_rfl) (fun r w' hR => encode_ref ⟨16, 1, 0, 0, 5⟩ w' ⟨by decide, by decide⟩ (by unfold word; decide)) ?_
   conv => whnf
   refine satq_vcN ?_
   conv => whnf
   refine call_con (x := strV (putL 1077936133)) rfl (by kernel_rfl) (fun r w' hR => put_walk 1077936133 w' (by unfold word; decide)) ?_
   conv => whnf
   refine q_cat_str (sanS 0) (putL 1077936133) rfl rfl rfl (by decide) ?_
   conv => whnf
   refine atq_block (atq_on ?_)
   refine satq_vcN ?_
   conv => whnf
   refine ⟨1, by rw [wr64] <;> decide, ?_⟩
   conv => whnf
   exact atq_next ⟨1, by omega⟩ (ent_same rfl (aI rfl (aI rfl (aI rfl (aI rfl (aI rfl trivial))))) (aI sM (aI sM (aI sM (aI sM (aI sM (aI sM (aI sM (aI sM trivial))))))))) (by dsimp only; decide)
  ·refine satq_seqN ?_
   conv => whnf
   (repeat ((first | apply k1 | apply k2 | apply k3 | apply k4 | refine k5 (by decide) ?_ | refine k6 (by decide) ?_); conv => whnf))
   refine satq_in (satq_block ?_)
   refine satq_seqN ?_
   conv => whnf
   refine ⟨⟨by omega, by omega⟩, ?_⟩
   conv => whnf
   refine call_con (x := encV (some 2152202243)) rfl (by kernel_rfl) (fun r w' hR => encode_ref ⟨32, 1, 2, 0, 3⟩ w' ⟨by decide, by decide⟩ (by unfold word; decide)) ?_
   conv => whnf
   refine satq_vcN ?_
   conv => whnf
   refine call_con (x := strV (putL 2152202243)) rfl (by kernel_rfl) (fun r w' hR => put_walk 2152202243 w' (by unfold word; decide)) ?_
   conv => whnf
   refine q_cat_str (sanS 1) (putL 2152202243) rfl rfl rfl (by decide) ?_
   conv => whnf
   refine atq_block (atq_on ?_)
   refine satq_vcN ?_
   conv => whnf
   refine ⟨2, by rw [wr64] <;> decide, ?_⟩
   conv => whnf
   exact atq_next ⟨2, by omega⟩ (ent_same rfl (aI rfl (aI rfl (aI rfl (aI rfl (aI rfl trivial))))) (aI sM (aI sM (aI sM (aI sM (aI sM (aI sM (aI sM (aI sM trivial))))))))) (by dsimp only; decide)
  ·refine satq_seqN ?_
   conv => whnf
   (repeat ((first | apply k1 | apply k2 | apply k3 | apply k4 | refine k5 (by decide) ?_ | refine k6 (by decide) ?_); conv => whnf))
   refine satq_in (satq_block ?_)
   refine satq_seqN ?_
   conv => whnf
   refine ⟨⟨by omega, by omega⟩, ?_⟩
   conv => whnf
   refine call_con (x := encV (some 3355443200)) rfl (by kernel_rfl) (fun r w' hR => encode_ref ⟨50, 0, 0, 0, 0⟩ w' ⟨by decide, by decide⟩ (by unfold word; decide)) ?_
   conv => whnf
   refine satq_vcN ?_
   conv => whnf
   refine call_con (x := strV (putL 3355443200)) rfl (by kernel_rfl) (fun r w' hR => put_walk 3355443200 w' (by unfold word; decide)) ?_
   conv => whnf
   refine q_cat_str (sanS 2) (putL 3355443200) rfl rfl rfl (by decide) ?_
   conv => whnf
   refine atq_block (atq_on ?_)
   refine satq_vcN ?_
   conv => whnf
   refine ⟨3, by rw [wr64] <;> decide, ?_⟩
   conv => whnf
   exact atq_next ⟨3, by omega⟩ (ent_same rfl (aI rfl (aI rfl (aI rfl (aI rfl (aI rfl trivial))))) (aI sM (aI sM (aI sM (aI sM (aI sM (aI sM (aI sM (aI sM trivial))))))))) (by dsimp only; decide)
  ·refine satq_seqN ?_
   conv => whnf
   (repeat ((first | apply k1 | apply k2 | apply k3 | apply k4 | refine k5 (by decide) ?_ | refine k6 (by decide) ?_); conv => whnf))
   exact atq_out (atq_exit (atq_mid () (ent_drop (aI rfl (aI rfl (aI rfl trivial))) (aI sM (aI sM (aI sM (aI sM (aI sM (aI sM (aI sM trivial))))))) rfl (cpu_grp stZ 512 2 M0))))
 obtain ⟨M1, hM1⟩ : ∃ M1, M1 = M0.codeTo 1 (sanS 3) (min (sanS 3).length 256) := ⟨_, rfl⟩
 obtain ⟨M2, hM2⟩ : ∃ M2, M2 = M1.protect 1 4 := ⟨_, rfl⟩
 have hsb : ∀ x ∈ sanS 3, 0 ≤ x ∧ x < 256 := by decide
 have hk1 : M1.ok 512 2 := by rw [hM1]; exact codeTo_ok hz 1 hsb _
 have hk2 : M2.ok 512 2 := by rw [hM2]; exact protect_ok hk1 1 (by decide)
 have hsan : M2 = sanM := by rw [hM2, hM1, hM0]; kernel_rfl
 have hl1 : liftM M2 256 64 = sanB1 := by rw [hsan]; exact san_lift1
 have hl2 : liftM M2 256 1 = sanB2 := by rw [hsan]; exact san_lift2
 have hl3 : liftM M2 264 9 = sanB3 := by rw [hsan]; exact san_lift3
 refine satq_mid (α := Unit) (fun _ => [(0, one (.bool false)), (1, .p (.c (.ref 0 0)))]) (fun _ => cpuU 0 stZ 512 2 M1) ?_ fun _ => ?_
 ·refine satq_vcN ?_
  conv => whnf
  refine call_memW (pre := []) (suf := [one (intV 1), one (strV (sanS 3))]) 1 512 2 M0 M1 (.tuple #[]) (fun i hi => by have := cpu_mem stZ 512 2 M0 [] i hi; rwa [List.append_nil] at this) rfl rfl (by kernel_rfl) (fun w g gs hk hU => by rw [hM1]; exact mem_setCode M0 512 2 1 (sanS 3) w g gs hU hz (by decide) hsb (by decide)) ?_
  conv => whnf
  exact atq_mid () (ent_same rfl (aI rfl (aI rfl trivial)) (aI sM (aI sM (aI sM (aI sM (aI sM (aI sM (aI sM trivial))))))))
 refine satq_mid (α := Unit) (fun _ => [(0, one (.bool false)), (1, .p (.c (.ref 0 0)))]) (fun _ => cpuU 0 stZ 512 2 M2) ?_ fun _ => ?_
 ·refine satq_vcN ?_
  conv => whnf
  refine call_memW (pre := []) (suf := [one (intV 1), one (intV 4)]) 1 512 2 M1 M2 (.tuple #[]) (fun i hi => by have := cpu_mem stZ 512 2 M1 [] i hi; rwa [List.append_nil] at this) rfl rfl (by kernel_rfl) (fun w g gs hk hU => by rw [hM2]; exact mem_protect M1 512 2 1 4 w g gs hU hk1 (by decide) (by decide) (by decide)) ?_
  conv => whnf
  exact atq_mid () (ent_same rfl (aI rfl (aI rfl trivial)) (aI sM (aI sM (aI sM (aI sM (aI sM (aI sM (aI sM trivial))))))))
 refine satq_mid (α := Unit) (fun _ => [(0, one (.bool false)), (1, .p (.c (.ref 0 0)))]) (fun _ => cpuU 0 (u32V 256 :: stZ.tail) 512 2 M2) ?_ fun _ => ?_
 ·refine satq_vcN ?_
  conv => whnf
  exact atq_mid () (ent_same rfl (aI rfl (aI rfl trivial)) (aI sM (aI sM (aI sM (aI sM (aI sM (aI sM (aI sM trivial))))))))
 refine satq_seqN ?_
 conv => whnf
 refine call_lifted 1 512 2 M2 256 64 (fun i hi => by have := cpu_mem (u32V 256 :: stZ.tail) 512 2 M2 [] i hi; rwa [List.append_nil] at this) hk2 (by decide) (by unfold word; decide) ?_
 rw [hl1]
 conv => whnf
 refine satq_seqN ?_
 conv => whnf
 refine call_lifted 1 512 2 M2 256 1 (cpu_mem (u32V 256 :: stZ.tail) 512 2 M2 _) hk2 (by decide) (by unfold word; decide) ?_
 rw [hl2]
 conv => whnf
 refine satq_seqN ?_
 conv => whnf
 refine call_lifted 1 512 2 M2 264 9 (cpu_mem (u32V 256 :: stZ.tail) 512 2 M2 _) hk2 (by decide) (by unfold word; decide) ?_
 rw [hl3]
 conv => whnf
 refine satq_seqN ?_
 conv => whnf
 (repeat ((first | apply k1 | apply k2 | apply k3 | apply k4 | refine k5 (by decide) ?_ | refine k6 (by decide) ?_); conv => whnf))
 have hb1 : sanB1.ok := hl1 ▸ (liftM_ok hk2 256 64).1
 have he1 : (evalBlk sanB1 zeros28 M2).out = ⟨false, 0, 2, 264, sanV⟩ := by rw [hsan]; exact san_eval1
 have hm1 : (evalBlk sanB1 zeros28 M2).mem = M2 := by rw [hsan]; exact san_mem1
 have hb2 : sanB2.ok := hl2 ▸ (liftM_ok hk2 256 1).1
 have he2 : (evalBlk sanB2 zeros28 M2).out = ⟨false, 0, 1, 260, sanV⟩ := by rw [hsan]; exact san_eval2
 have hm2 : (evalBlk sanB2 zeros28 M2).mem = M2 := by rw [hsan]; exact san_mem2
 have hb3 : sanB3.ok := hl3 ▸ (liftM_ok hk2 264 9).1
 have he3 : (evalBlk sanB3 zeros28 M2).out = ⟨true, 0, 0, 264, zeros28⟩ := by rw [hsan]; exact san_eval3
 have hm3 : (evalBlk sanB3 zeros28 M2).mem = M2 := by rw [hsan]; exact san_mem3
 clear hl1 hl2 hl3 hsan hM2 hM1 hM0 hsb hk1 hz
 refine satq_mid (α := Unit) (fun _ => [(0, one (.bool false)), (1, .p (.c (.ref 0 0))), (7, .p (.c (.ref 10 0))), (9, .p (.c (.ref 14 0))), (11, .p (.c (.ref 18 0))), (13, .p (.c (.ref 19 0)))]) (fun _ => cpuU 0 (u32V 256 :: stZ.tail) 512 2 M2 ++ blkRows sanB1 ++ [Ow.cells blT [.row 7, .row 8, .row 9]] ++ blkRows sanB2 ++ [Ow.cells blT [.row 11, .row 12, .row 13]] ++ blkRows sanB3 ++ [Ow.cells blT [.row 15, .row 16, .row 17]] ++ [Ow.cells 55 ((outL ⟨false, 0, 2, 264, sanV⟩).map .v)]) ?_ fun _ => ?_
 ·refine satq_vcN ?_
  conv => whnf
  refine sat_anyG (.q 1 (.q 2 (.q 3 (.q 4 (.alt 0 (.alt 5 (.alt 6 (.alt 7 (.alt 8 .done .no) .no) (.alt 7 (.alt 6 (.alt 8 .done .no) .no) .no)) (.alt 7 (.alt 5 (.alt 6 (.alt 8 .done .no) .no) .no) .no)) (.alt 5 (.alt 0 (.alt 6 (.alt 7 (.alt 8 .done .no) .no) (.alt 7 (.alt 6 (.alt 8 .done .no) .no) .no)) (.alt 7 (.alt 0 (.alt 6 (.alt 8 .done .no) .no) .no) .no)) (.alt 7 (.alt 0 (.alt 5 (.alt 6 (.alt 8 .done .no) .no) .no) (.alt 5 (.alt 0 (.alt 6 (.alt 8 .done .no) .no) .no) .no)) .no))))))) mixed (by kernel_rfl) (by kernel_rfl) ?_
  conv => whnf
  repeat' (first
   | exact atq_mid () (ent_same rfl (aI rfl (aI rfl (aI rfl (aI rfl (aI rfl (aI rfl trivial)))))) (aI sM (aI sM (aI sM (aI sM (aI sM (aI sM (aI sM (aI ((aI rfl (aI rfl (aI rfl rfl)))) (aI ((aI rfl (aI rfl (aI rfl rfl)))) (aI ((aI rfl (aI rfl (aI rfl rfl)))) (aI sM (aI ((aI rfl (aI rfl (aI rfl rfl)))) (aI ((aI rfl (aI rfl (aI rfl rfl)))) (aI ((aI rfl (aI rfl (aI rfl rfl)))) (aI sM (aI ((aI rfl (aI rfl (aI rfl rfl)))) (aI ((aI rfl (aI rfl (aI rfl rfl)))) (aI ((aI rfl (aI rfl (aI rfl rfl)))) (aI sM (aI sM trivial)))))))))))))))))))))
   | (refine call_eval 1 512 2 7 8 9 sanB1 zeros28 M2 rfl (fun i hi => by rcases (by omega : i = 0 ∨ i = 1 ∨ i = 2 ∨ i = 3 ∨ i = 4 ∨ i = 5) with rfl | rfl | rfl | rfl | rfl | rfl <;> rfl) hk2 hb1 rfl zeros_ok rfl rfl rfl ⟨by decide, by decide, by decide⟩ ?_; rw [he1, hm1]; conv => whnf)
   | (refine ⟨?_, trivial⟩; conv => whnf)
   | (refine ⟨?_, ?_, trivial⟩ <;> conv => whnf)
   | (refine ⟨?_, ?_, ?_, trivial⟩ <;> conv => whnf))
 refine satq_mid (α := Unit) (fun _ => [(0, one (.bool false)), (1, .p (.c (.ref 0 0))), (7, .p (.c (.ref 10 0))), (9, .p (.c (.ref 14 0))), (11, .p (.c (.ref 18 0))), (13, .p (.c (.ref 19 0))), (14, .p (.c (.ref 20 0)))]) (fun _ => cpuU 0 (u32V 256 :: stZ.tail) 512 2 M2 ++ blkRows sanB1 ++ [Ow.cells blT [.row 7, .row 8, .row 9]] ++ blkRows sanB2 ++ [Ow.cells blT [.row 11, .row 12, .row 13]] ++ blkRows sanB3 ++ [Ow.cells blT [.row 15, .row 16, .row 17]] ++ [Ow.cells 55 ((outL ⟨false, 0, 2, 264, sanV⟩).map .v)] ++ [Ow.cells 55 ((outL ⟨false, 0, 1, 260, sanV⟩).map .v)]) ?_ fun _ => ?_
 ·refine satq_vcN ?_
  conv => whnf
  refine sat_anyG (.q 1 (.q 2 (.q 3 (.q 4 (.alt 0 (.alt 5 (.alt 6 (.alt 7 (.alt 8 .done .no) .no) (.alt 7 (.alt 6 (.alt 8 .done .no) .no) .no)) (.alt 7 (.alt 5 (.alt 6 (.alt 8 .done .no) .no) .no) .no)) (.alt 5 (.alt 0 (.alt 6 (.alt 7 (.alt 8 .done .no) .no) (.alt 7 (.alt 6 (.alt 8 .done .no) .no) .no)) (.alt 7 (.alt 0 (.alt 6 (.alt 8 .done .no) .no) .no) .no)) (.alt 7 (.alt 0 (.alt 5 (.alt 6 (.alt 8 .done .no) .no) .no) (.alt 5 (.alt 0 (.alt 6 (.alt 8 .done .no) .no) .no) .no)) .no))))))) mixed (by kernel_rfl) (by kernel_rfl) ?_
  conv => whnf
  repeat' (first
   | exact atq_mid () (ent_same rfl (aI rfl (aI rfl (aI rfl (aI rfl (aI rfl (aI rfl (aI rfl trivial))))))) (aI sM (aI sM (aI sM (aI sM (aI sM (aI sM (aI sM (aI ((aI rfl (aI rfl (aI rfl rfl)))) (aI ((aI rfl (aI rfl (aI rfl rfl)))) (aI ((aI rfl (aI rfl (aI rfl rfl)))) (aI sM (aI ((aI rfl (aI rfl (aI rfl rfl)))) (aI ((aI rfl (aI rfl (aI rfl rfl)))) (aI ((aI rfl (aI rfl (aI rfl rfl)))) (aI sM (aI ((aI rfl (aI rfl (aI rfl rfl)))) (aI ((aI rfl (aI rfl (aI rfl rfl)))) (aI ((aI rfl (aI rfl (aI rfl rfl)))) (aI sM (aI sM (aI sM trivial))))))))))))))))))))))
   | (refine call_eval 1 512 2 11 12 13 sanB2 zeros28 M2 rfl (fun i hi => by rcases (by omega : i = 0 ∨ i = 1 ∨ i = 2 ∨ i = 3 ∨ i = 4 ∨ i = 5) with rfl | rfl | rfl | rfl | rfl | rfl <;> rfl) hk2 hb2 rfl zeros_ok rfl rfl rfl ⟨by decide, by decide, by decide⟩ ?_; rw [he2, hm2]; conv => whnf)
   | (refine ⟨?_, trivial⟩; conv => whnf)
   | (refine ⟨?_, ?_, trivial⟩ <;> conv => whnf)
   | (refine ⟨?_, ?_, ?_, trivial⟩ <;> conv => whnf))
 refine satq_mid (α := Unit) (fun _ => [(0, one (.bool false)), (1, .p (.c (.ref 0 0))), (7, .p (.c (.ref 10 0))), (9, .p (.c (.ref 14 0))), (11, .p (.c (.ref 18 0))), (13, .p (.c (.ref 19 0))), (14, .p (.c (.ref 20 0))), (15, .p (.c (.ref 21 0)))]) (fun _ => cpuU 0 (u32V 256 :: stZ.tail) 512 2 M2 ++ blkRows sanB1 ++ [Ow.cells blT [.row 7, .row 8, .row 9]] ++ blkRows sanB2 ++ [Ow.cells blT [.row 11, .row 12, .row 13]] ++ blkRows sanB3 ++ [Ow.cells blT [.row 15, .row 16, .row 17]] ++ [Ow.cells 55 ((outL ⟨false, 0, 2, 264, sanV⟩).map .v)] ++ [Ow.cells 55 ((outL ⟨false, 0, 1, 260, sanV⟩).map .v)] ++ [Ow.cells 55 ((outL ⟨true, 0, 0, 264, zeros28⟩).map .v)]) ?_ fun _ => ?_
 ·refine satq_vcN ?_
  conv => whnf
  refine sat_anyG (.q 1 (.q 2 (.q 3 (.q 4 (.alt 0 (.alt 5 (.alt 6 (.alt 7 (.alt 8 .done .no) .no) (.alt 7 (.alt 6 (.alt 8 .done .no) .no) .no)) (.alt 7 (.alt 5 (.alt 6 (.alt 8 .done .no) .no) .no) .no)) (.alt 5 (.alt 0 (.alt 6 (.alt 7 (.alt 8 .done .no) .no) (.alt 7 (.alt 6 (.alt 8 .done .no) .no) .no)) (.alt 7 (.alt 0 (.alt 6 (.alt 8 .done .no) .no) .no) .no)) (.alt 7 (.alt 0 (.alt 5 (.alt 6 (.alt 8 .done .no) .no) .no) (.alt 5 (.alt 0 (.alt 6 (.alt 8 .done .no) .no) .no) .no)) .no))))))) mixed (by kernel_rfl) (by kernel_rfl) ?_
  conv => whnf
  repeat' (first
   | exact atq_mid () (ent_same rfl (aI rfl (aI rfl (aI rfl (aI rfl (aI rfl (aI rfl (aI rfl (aI rfl trivial)))))))) (aI sM (aI sM (aI sM (aI sM (aI sM (aI sM (aI sM (aI ((aI rfl (aI rfl (aI rfl rfl)))) (aI ((aI rfl (aI rfl (aI rfl rfl)))) (aI ((aI rfl (aI rfl (aI rfl rfl)))) (aI sM (aI ((aI rfl (aI rfl (aI rfl rfl)))) (aI ((aI rfl (aI rfl (aI rfl rfl)))) (aI ((aI rfl (aI rfl (aI rfl rfl)))) (aI sM (aI ((aI rfl (aI rfl (aI rfl rfl)))) (aI ((aI rfl (aI rfl (aI rfl rfl)))) (aI ((aI rfl (aI rfl (aI rfl rfl)))) (aI sM (aI sM (aI sM (aI sM trivial)))))))))))))))))))))))
   | (refine call_eval 1 512 2 15 16 17 sanB3 zeros28 M2 rfl (fun i hi => by rcases (by omega : i = 0 ∨ i = 1 ∨ i = 2 ∨ i = 3 ∨ i = 4 ∨ i = 5) with rfl | rfl | rfl | rfl | rfl | rfl <;> rfl) hk2 hb3 rfl zeros_ok rfl rfl rfl ⟨by decide, by decide, by decide⟩ ?_; rw [he3, hm3]; conv => whnf)
   | (refine ⟨?_, trivial⟩; conv => whnf)
   | (refine ⟨?_, ?_, trivial⟩ <;> conv => whnf)
   | (refine ⟨?_, ?_, ?_, trivial⟩ <;> conv => whnf))
 refine satq_vcN ?_
 conv => whnf
 (repeat ((first | apply k1 | apply k2 | apply k3 | apply k4 | refine k5 (by decide) ?_ | refine k6 (by decide) ?_); conv => whnf))
 refine ⟨by decide, ?_⟩
 conv => whnf
 (repeat ((first | apply k1 | apply k2 | apply k3 | apply k4 | refine k5 (by decide) ?_ | refine k6 (by decide) ?_); conv => whnf))
 refine atq_ret ?_
 conv => whnf
 exact fin_val rfl fun w2 hB => ⟨rfl, hB⟩
end Go.Proofs.YtnhdcclpjildjaaGreat
namespace Go.Proofs.YtnhdcclpjildjaaGreat
open Go.RowKit

def ProgAt (w : World) (A : Option Addr) (n : Nat) : Prop := ∀ j, j < n → ∃ b off n0 n1 n2 n3 n4, A = some ⟨b, off, none⟩ ∧ CellsAt w Gs.nil b (off + j * 5) [intV n0, intV n1, intV n2, intV n3, intV n4]
theorem ProgAt.later {w w' : World} {A : Option Addr} {n : Nat} (h : ProgAt w A n) (hB : Below w.heap.size w w') : ProgAt w' A n := fun j hj => by
 obtain ⟨b, off, n0, n1, n2, n3, n4, e, h1, h2, h3⟩ := h j hj
 exact ⟨b, off, n0, n1, n2, n3, n4, e, Nat.lt_of_lt_of_le h1 hB.size, by simp, fun i u hi => by have := h3 i u hi; simp only [World.cell?] at this ⊢; rw [hB.block b h1]; exact this⟩
end Go.Proofs.YtnhdcclpjildjaaGreat
namespace Go.Proofs.YtnhdcclpjildjaaGreat
open Go.ChangeShapes Go.WideShapes Go.ChangeAt Go.RowKit

set_option maxRecDepth 100000 in
theorem open_w2 {H : Type} {enc : TypeId × Value → H} {W : World} {r : Reach} {b0 : Nat} {v : Value} {d : DataW H} {p : List MemPlace} (hv : Value.okWide Tryz.prog W r b0 59 v) (h : DataW.Trod enc Tryz.prog W 0 (fun _ => true) true 59 v d p) :
  ∃ a b : Int, v = .agg #[.int .u32 a, .int .u32 b] ∧ word a ∧ word b := by
 simp only [Value.okWide, Tryz.underlying59] at hv
 obtain ⟨cs, rfl, hsz, _⟩ := hv
 obtain ⟨fuel, hf⟩ := h
 obtain ⟨zs, e, l, w⟩ := open_ints_arr (k := .u32) Tryz.underlying59 Tryz.underlying35 (by kernel_rfl) (by kernel_rfl) hf
 have e : cs.toList = zs.map (Value.int .u32) := e
 match zs, l with
 | [z0, z1], _ =>
  refine ⟨z0, z1, ?_, word_wf (w _ (by simp)), word_wf (w _ (by simp))⟩
  show Value.agg cs = Value.agg ([z0, z1].map (Value.int .u32)).toArray
  rw [← e]
theorem open_word {H : Type} {enc : TypeId × Value → H} {W : World} {x : Int} {d : DataW H} {p : List MemPlace} (h : DataW.Trod enc Tryz.prog W 0 (fun _ => true) true 35 (.int .u32 x) d p) : word x := by
 obtain ⟨fuel, hf⟩ := h
 obtain ⟨z, e1, _, e3⟩ := DataW.trod_int Tryz.underlying35 hf
 simp [Value.cells] at e1
 obtain rfl := e1
 exact word_wf e3
end Go.Proofs.YtnhdcclpjildjaaGreat
namespace Go.Proofs.YtnhdcclpjildjaaGreat
open Go.RowKit

theorem pokeAt_data {M : MemP} {n p : Nat} (hM : M.ok n p) (hn : n < 4294967296) (a : Nat) (l : List Int) (hb : ∀ x ∈ l, 0 ≤ x ∧ x < 256) (ha : a + l.length ≤ n) : ∀ j, j ≤ l.length → ∀ x : Nat, (M.pokeAt (a : Int) l j).data[x]? = if a ≤ x ∧ x < a + j then l[x - a]? else M.data[x]?
 | 0, _, x => by rw [pokeAt_zero, if_neg (by omega)]
 | j + 1, h, x => by
  have e : l[j]? = some l[j] := List.getElem?_eq_getElem h
  have ih := pokeAt_data hM hn a l hb ha j (by omega) x
  have hk := pokeAt_ok hM (a : Int) hb j (by omega)
  rw [pokeAt_succ M _ l e, show ((a : Int) + (j : Int)) % 4294967296 = ((a + j : Nat) : Int) by omega, if_pos (by rw [hk.ld]; omega)]
  show (List.set (M.pokeAt (a : Int) l j).data ((a + j : Nat) : Int).toNat l[j])[x]? = _
  rw [Int.toNat_natCast, List.getElem?_set]
  by_cases hx : a + j = x
  ·rw [if_pos hx, if_pos (by rw [hk.ld]; omega), if_pos (by omega), show x - a = j by omega, e]
  ·rw [if_neg hx, ih]
   by_cases hc : a ≤ x ∧ x < a + j
   ·rw [if_pos hc, if_pos (by omega)]
   ·rw [if_neg hc, if_neg (by omega)]
theorem syncTo_image {M : MemP} {n p : Nat} (hM : M.ok n p) (b : Nat) : ∀ j, b + j ≤ n → ∀ x : Nat, (M.syncTo b j).image[x]? = if b ≤ x ∧ x < b + j then M.data[x]? else M.image[x]?
 | 0, _, x => by rw [if_neg (by omega)]; rfl
 | j + 1, h, x => by
  have ih := syncTo_image hM b j (by omega) x
  have hk := syncTo_ok hM b j
  show (List.set (M.syncTo b j).image (b + j) (M.get ((b + j : Nat) : Int)))[x]? = _
  rw [List.getElem?_set]
  by_cases hx : b + j = x
  ·rw [if_pos hx, if_pos (by rw [hk.li]; omega), if_pos (by omega)]
   unfold MemP.get
   rw [Int.toNat_natCast, hx, List.getElem?_eq_getElem (by rw [hM.ld]; omega)]
   rfl
  ·rw [if_neg hx, ih]
   by_cases hc : b ≤ x ∧ x < b + j
   ·rw [if_pos hc, if_pos (by omega)]
   ·rw [if_neg hc, if_neg (by omega)]
def limI (i : Nat) : QI := ⟨1, 1 + (i : Int) % 15, 1, 2, 0⟩
def limW (i : Nat) : Int := wordQ (limI i)
structure LimS (M : MemP) (j : Nat) : Prop where
 ok : M.ok 768 3
 code : ∀ i, i < j → ∀ b, b < 4 → M.data[4 * i + b]? = some (byteAt (limW i) b)
 rest : ∀ x, 4 * j ≤ x → x < 768 → M.data[x]? = some 0
structure SynS (D : List Int) (M : MemP) (q : Nat) : Prop where
 ok : M.ok 768 3
 data : M.data = D
 img : ∀ x, x < 256 * q → M.image[x]? = D[x]?
 rights : ∀ y, y < q → M.rights[y]? = some 5
theorem byte_sum {y : Int} (h : word y) : 0 + byteAt y 0 * 256 ^ 0 + byteAt y 1 * 256 ^ 1 + byteAt y 2 * 256 ^ 2 + byteAt y 3 * 256 ^ 3 = y := by
 obtain ⟨h0, h1⟩ := h
 have e0 : byteAt y 0 = y / 1 % 256 := rfl
 have e1 : byteAt y 1 = y / 256 % 256 := rfl
 have e2 : byteAt y 2 = y / 65536 % 256 := rfl
 have e3 : byteAt y 3 = y / 16777216 % 256 := rfl
 have p0 : (256 : Int) ^ 0 = 1 := rfl
 have p1 : (256 : Int) ^ 1 = 256 := rfl
 have p2 : (256 : Int) ^ 2 = 65536 := rfl
 have p3 : (256 : Int) ^ 3 = 16777216 := rfl
 rw [e0, e1, e2, e3, p0, p1, p2, p3]
 omega
theorem readN_four {F : Int → Option Int} {a y : Int} (hy : word y) (h : ∀ b : Nat, b < 4 → F (a + b) = some (byteAt y b)) : readN F a 4 = some y := by
 have h0 := h 0 (by omega)
 have h1 := h 1 (by omega)
 have h2 := h 2 (by omega)
 have h3 := h 3 (by omega)
 have e0 : readN F a 0 = some 0 := rfl
 have e1 : readN F a 1 = some (0 + byteAt y 0 * 256 ^ 0) := by unfold readN; rw [e0, h0]
 have e2 : readN F a 2 = some (0 + byteAt y 0 * 256 ^ 0 + byteAt y 1 * 256 ^ 1) := by unfold readN; rw [e1, h1]
 have e3 : readN F a 3 = some (0 + byteAt y 0 * 256 ^ 0 + byteAt y 1 * 256 ^ 1 + byteAt y 2 * 256 ^ 2) := by unfold readN; rw [e2, h2]
 unfold readN
 rw [e3, h3]
 show some _ = some y
 rw [byte_sum hy]
end Go.Proofs.YtnhdcclpjildjaaGreat
namespace Go.Proofs.YtnhdcclpjildjaaGreat
open Go.RowKit

def sinL (j : Nat) : Int := [0, 7, 1, 3, 2, 0].getD j 0
def sinP (M : MemP) : Nat → MemP
 | 0 => M
 | j + 1 => (sinP M j).protect j (sinL j)
def sinX (i : QI) : Int := (encQ i).getD 0
theorem sinX_word {i : QI} (hi : word i.imm) : word (sinX i) := by
 unfold sinX encQ
 split
 ·next h => exact (decQ_word h hi).2
 ·exact word0
def sinM0 (i : QI) : MemP := ((MemP.zero 6).pokeAt 256 (putL (sinX i)) (putL (sinX i)).length).syncM 256
def sinM (i : QI) : MemP := sinP (sinM0 i) 6
def sinW (a b j : Int) : Int := if j % 2 = 0 then a else b
def sinR (a b : Int) : Int → Int := fun j => if j = 0 then 0 else (sinW a b j + j / 2) % 4294967296
def sinS (a b : Int) : St := ⟨256, sinR a b, 0, 0, 0, 0, 0, 0, 0⟩
theorem sin_ok {a b : Int} : (sinS a b).ok := by
 refine ⟨(show word 256 by unfold word; decide), fun j h0 h1 => ?_, rfl, rfl, (show (0 : Int) ≤ 0 ∧ (0 : Int) < 1099511627776 by decide)⟩
 show word (sinR a b j)
 unfold sinR
 split
 ·exact word0
 ·unfold word; omega
theorem sinL_ok (j : Nat) : 0 ≤ sinL j ∧ sinL j < 8 := by
 unfold sinL
 match j with
 | 0 => decide
 | 1 => decide
 | 2 => decide
 | 3 => decide
 | 4 => decide
 | 5 => decide
 | n + 6 => exact ⟨by show (0 : Int) ≤ 0; decide, by show (0 : Int) < 8; decide⟩
theorem sinP_ok {M : MemP} (hM : M.ok 1536 6) : ∀ j, (sinP M j).ok 1536 6
 | 0 => hM
 | j + 1 => protect_ok (sinP_ok hM j) j (sinL_ok j)
theorem zero_ok6 : (MemP.zero 6).ok 1536 6 := mem_zero_ok (p := 6) (by omega)
theorem sinM0_ok {i : QI} : (sinM0 i).ok 1536 6 := syncM_ok (pokeAt_ok zero_ok6 _ (putTo_bytes _ _) _ (Nat.le_refl _)) _
theorem sinM_ok {i : QI} : (sinM i).ok 1536 6 := sinP_ok sinM0_ok 6
theorem cpu_setR {s : St} {X : List CV} {j : Int} (x : Int) (hX : X = stC s [] ++ [.ref 1 0]) (h0 : 0 ≤ j) (h1 : j < 16) : setAll X (0 + 1 + j.toNat * 1) [.v (u32V x)] = stC { s with R := regU s.R j x } [] ++ [.ref 1 0] := by
 rw [hX]
 rcases (by omega : j = 0 ∨ j = 1 ∨ j = 2 ∨ j = 3 ∨ j = 4 ∨ j = 5 ∨ j = 6 ∨ j = 7 ∨ j = 8 ∨ j = 9 ∨ j = 10 ∨ j = 11 ∨ j = 12 ∨ j = 13 ∨ j = 14 ∨ j = 15) with rfl | rfl | rfl | rfl | rfl | rfl | rfl | rfl | rfl | rfl | rfl | rfl | rfl | rfl | rfl | rfl <;> rfl
theorem two_at (a b : Int) {j : Int} (_h : 0 ≤ j) : [CV.v (u32V a), .v (u32V b)][0 + (j % 2).toNat * 1]? = some (.v (u32V (sinW a b j))) := by
 unfold sinW
 rcases (by omega : j % 2 = 0 ∨ j % 2 = 1) with h | h <;> rw [h] <;> rfl
abbrev w2T : TypeId := 59
abbrev sinC : List CV := [.v (intV 0), .v (intV 7), .v (intV 1), .v (intV 3), .v (intV 2), .v (intV 0)]
theorem six_at {q : Nat} (h : q < 6) : sinC[0 + (q : Int).toNat * 1]? = some (.v (intV (sinL q))) := by
 rcases (by omega : q = 0 ∨ q = 1 ∨ q = 2 ∨ q = 3 ∨ q = 4 ∨ q = 5) with rfl | rfl | rfl | rfl | rfl | rfl <;> rfl
abbrev sinU (a b : Int) (us : List Value) (M : MemP) : List Ow := cpuU 0 us 1536 6 M ++ ([.cells w2T [.v (u32V a), .v (u32V b)]] : List Ow)
theorem cpu_grpW (us : List Value) (M : MemP) (a b : Int) : sbnd 8 (sinU a b us M) = true := by
 have h : bndL 8 (us.map .v ++ [.ref 1 0]) = true := by
  induction us with
  | nil => rfl
  | cons u us ih => simpa only [List.map_cons, List.cons_append, bndL, CV.bnd] using ih
 show sbnd 8 [_, _, _, _, _, _, _, _] = true
 simp only [sbnd, Ow.bnd, bndL_vals, bndL, CV.bnd, h]
 rfl
set_option maxRecDepth 100000 in
set_option maxHeartbeats 8000000 in
theorem single_walk (i : QI) (hop : 0 ≤ i.op ∧ i.op < 64) (hi : word i.imm) (a b : Int) (_ha : word a) (_hb : word b) (w : World) :
  Calls Tryz.prog 21 #[qiV i, .agg #[u32V a, u32V b]] w fun e w' => ∃ g gs, e = .returned (ptrV g) ∧ NewObjs w w' (g :: gs) (cpuU 0 (stL (sinS a b) []) 1536 6 (sinM i)) := by
 refine calls_satq [qiV i, .agg #[u32V a, u32V b]] Tryz.func21 Tryz.ntmps21 rfl (by simp) ?_
 refine satq_seqN ?_
 conv => whnf
 refine satq_seqN ?_
 conv => whnf
 refine call_newObjs (xs := [intV ((6 : Nat) : Int)]) (cpuU 0 stZ 1536 6 (MemP.zero 6)) (cpuU 2 stZ 1536 6 (MemP.zero 6)) rfl (by kernel_rfl) (cpuU_sh 2 stZ 1536 6 _) (cpuU_ob stZ 1536 6 _) (fun r w hR => cpu_new 6 w (by omega)) ?_
 conv => whnf
 refine satq_seqN ?_
 conv => whnf
 obtain ⟨x, hx⟩ : ∃ x, x = sinX i := ⟨_, rfl⟩
 have hxw : word x := hx ▸ sinX_word hi
 have hxe : encV (encQ i) = .tuple #[u32V x, intV (if (encQ i).isSome then 0 else 12)] := by rw [hx]; rfl
 refine call_con (x := .tuple #[u32V x, intV (if (encQ i).isSome then 0 else 12)]) rfl (by kernel_rfl) (fun r w' hR => hxe ▸ encode_ref i w' hop hi) ?_
 conv => whnf
 obtain ⟨M0, hM0⟩ : ∃ M0, M0 = MemP.zero 6 := ⟨_, rfl⟩
 obtain ⟨M1, hM1⟩ : ∃ M1, M1 = M0.pokeAt 256 (putL x) (putL x).length := ⟨_, rfl⟩
 obtain ⟨M2, hM2⟩ : ∃ M2, M2 = M1.syncM 256 := ⟨_, rfl⟩
 have hk0 : M0.ok 1536 6 := hM0 ▸ zero_ok6
 have hk1 : M1.ok 1536 6 := by rw [hM1]; exact pokeAt_ok hk0 _ (putTo_bytes _ _) _ (Nat.le_refl _)
 have hk2 : M2.ok 1536 6 := by rw [hM2]; exact syncM_ok hk1 _
 have hend : sinM i = sinP M2 6 := by rw [hM2, hM1, hM0, hx]; rfl
 rw [← hM0]
 refine satq_as (f' := [(3, .p (.c (.ref 7 0))), (5, .p (.c (.ref 0 0))), (6, one (u32V x))]) (S' := sinU a b stZ M0) (ent_ren [2, 3, 4, 5, 6, 7, 8, 1] (aI rfl (aI rfl (aI rfl trivial))) ?_ rfl (cpu_grpW stZ M0 a b) rfl rfl rfl) ?_
 ·exact (aI ((Exists.intro _ (aI rfl sM))) (aI ((Exists.intro _ (aI rfl sM))) (aI ((Exists.intro _ (aI rfl (aI rfl (Or.inl (renL_vals _ _).symm))))) (aI ((Exists.intro _ (aI rfl (aI rfl (Or.inl (renL_vals _ _).symm))))) (aI ((Exists.intro _ (aI rfl (aI rfl (Or.inl (renL_vals _ _).symm))))) (aI ((Exists.intro _ (aI rfl (aI rfl (Or.inl (renL_vals _ _).symm))))) (aI ((Exists.intro _ (aI rfl (aI rfl (Or.inl (renL_vals _ _).symm))))) (aI ((Exists.intro _ (aI rfl sM))) trivial))))))))
 have hm0 := cpu_mem stZ 1536 6 M0 [.cells w2T [.v (u32V a), .v (u32V b)]]
 refine satq_mid (α := Unit) (fun _ => [(3, .p (.c (.ref 7 0))), (5, .p (.c (.ref 0 0)))]) (fun _ => sinU a b stZ M1) ?_ fun _ => ?_
 ·refine satq_vcN ?_
  conv => whnf
  refine sat_anyG (.q 0 (.q 1 (.q 2 (.q 4 (.alt 3 (.alt 5 (.alt 6 .done .no) .no) (.alt 5 (.alt 3 (.alt 6 .done .no) .no) .no)))))) mixed (by kernel_rfl) (by kernel_rfl) ?_
  conv => whnf
  repeat' (first
   | exact atq_mid () (ent_same rfl (aI rfl (aI rfl trivial)) (aI sM (aI sM (aI sM (aI sM (aI sM (aI sM (aI sM (aI sM trivial)))))))))
   | (refine call_con (x := strV (putL x)) rfl (by kernel_rfl) (fun r w' hR => put_walk x w' hxw) ?_; conv => whnf)
   | (refine call_memW (pre := []) (suf := [one (u32V 256), one (strV (putL x))]) 1 1536 6 M0 M1 (.tuple #[]) hm0 rfl rfl (by kernel_rfl) (fun w g gs hk hU => by rw [hM1]; exact mem_pokeAt M0 1536 6 _ _ w g gs hU hk0 (by unfold word; decide) (putTo_bytes _ _) (by unfold putL; rw [putTo_length]; omega) (by omega)) ?_; conv => whnf)
   | (refine ⟨?_, trivial⟩; conv => whnf)
   | (refine ⟨?_, ?_, trivial⟩ <;> conv => whnf))
 have hm1 := cpu_mem stZ 1536 6 M1 [.cells w2T [.v (u32V a), .v (u32V b)]]
 refine satq_seqN ?_
 conv => whnf
 refine call_memW (pre := []) (suf := [one (u32V 256)]) 1 1536 6 M1 M2 (.bool _) hm1 rfl rfl (by kernel_rfl) (fun w g gs hk hU => by rw [hM2]; exact mem_sync M1 1536 6 _ w g gs hU hk1 (by unfold word; decide)) ?_
 conv => whnf
 refine satq_seqN ?_
 conv => whnf
 refine satq_mid (α := { Q : MemP // Q = sinP M2 6 }) (fun _ => [(3, .p (.c (.ref 7 0))), (5, .p (.c (.ref 0 0)))]) (fun x => sinU a b stZ x.1) ?_ fun y => ?_
 ·refine satq_seqN ?_
  conv => whnf
  refine satq_block ?_
  refine satq_loop (α := { x : Nat × MemP // x.1 ≤ 6 ∧ x.2 = sinP M2 x.1 }) (fun x => [(3, .p (.c (.ref 7 0))), (5, .p (.c (.ref 0 0))), (8, .p (.c (.ref 8 0))), (9, one (intV (x.1.1 : Int)))]) (fun x => sinU a b stZ x.1.2 ++ ([.cells 111 sinC] : List Ow)) (fun x => 6 - x.1.1)
   ⟨(0, M2), by omega, rfl⟩ (ent_same rfl (aI rfl (aI rfl (aI rfl (aI rfl trivial)))) (aI sM (aI sM (aI sM (aI sM (aI sM (aI sM (aI sM (aI sM (aI sM trivial)))))))))) fun x => ?_
  obtain ⟨⟨q, Q⟩, hq, hQ⟩ := x
  dsimp only at hq hQ ⊢
  have hQk : Q.ok 1536 6 := hQ ▸ sinP_ok hk2 q
  have hmq := cpu_mem stZ 1536 6 Q ([.cells w2T [.v (u32V a), .v (u32V b)], .cells 111 sinC])
  refine satq_seqN ?_
  conv => whnf
  refine ⟨fun hc => ?_, fun hc => ?_⟩
  ·have hlt : q < 6 := by simp at hc; omega
   conv => whnf
   refine satq_in (satq_block ?_)
   refine satq_vcN ?_
   conv => whnf
   refine sat_tail 8 mixed (by kernel_rfl) ?_
   conv => whnf
   (refine ⟨⟨by omega, by omega⟩, ?_⟩; (conv=>whnf))
   erw [six_at hlt]
   conv => whnf
   refine call_memW (pre := []) (suf := [one (intV (q : Int)), one (intV (sinL q))]) 1 1536 6 Q (Q.protect q (sinL q)) (.tuple #[]) hmq rfl rfl (by kernel_rfl) (fun w g gs hk hU => mem_protect Q 1536 6 q (sinL q) w g gs hU hQk hlt (by omega) (sinL_ok q)) ?_
   conv => whnf
   refine atq_block (atq_on ?_)
   refine satq_vcN ?_
   conv => whnf
   refine ⟨(q : Int) + 1, wr64 (by omega), ?_⟩
   conv => whnf
   exact atq_next ⟨(q + 1, Q.protect q (sinL q)), by show q + 1 ≤ 6; omega, by show _ = sinP M2 (q + 1); rw [hQ]; rfl⟩ (ent_same rfl (aI rfl (aI rfl (aI rfl (aI rfl trivial)))) (aI sM (aI sM (aI sM (aI sM (aI sM (aI sM (aI sM (aI sM (aI sM trivial)))))))))) (by show 6 - (q + 1) < 6 - q; omega)
  ·have he : q = 6 := by simp at hc; omega
   subst he
   conv => whnf
   exact atq_out (atq_exit (atq_mid ⟨Q, hQ⟩ (ent_drop (aI rfl (aI rfl trivial)) (aI sM (aI sM (aI sM (aI sM (aI sM (aI sM (aI sM (aI sM trivial)))))))) rfl (cpu_grpW stZ Q a b))))
 obtain ⟨Q, hQ⟩ := y
 dsimp only
 have hQk : Q.ok 1536 6 := hQ ▸ sinP_ok hk2 6
 refine satq_mid (α := Unit) (fun _ => [(3, .p (.c (.ref 7 0))), (5, .p (.c (.ref 0 0)))]) (fun _ => sinU a b (u32V 256 :: stZ.tail) Q) ?_ fun _ => ?_
 ·refine satq_vcN ?_
  conv => whnf
  exact atq_mid () (ent_same rfl (aI rfl (aI rfl trivial)) (aI sM (aI sM (aI sM (aI sM (aI sM (aI sM (aI sM (aI sM trivial)))))))))
 refine satq_mid (α := { x : (Int → Int) × List CV // (∀ j, 0 ≤ j → j < 16 → x.1 j = sinR a b j) ∧ x.2 = stC { sinS a b with R := x.1 } [] ++ [.ref 1 0] }) (fun _ => [(5, .p (.c (.ref 0 0)))]) (fun x => .cells cpuT x.1.2 :: memS 1 1536 6 Q) ?_ fun y => ?_
 ·refine satq_seqN ?_
  conv => whnf
  refine satq_block ?_
  refine satq_loop (α := { x : Nat × (Int → Int) × List CV // 1 ≤ x.1 ∧ x.1 ≤ 16 ∧ (∀ j, 0 ≤ j → j < (x.1 : Int) → x.2.1 j = sinR a b j) ∧ x.2.2 = stC { sinS a b with R := x.2.1 } [] ++ [.ref 1 0] }) (fun x => [(3, .p (.c (.ref 7 0))), (5, .p (.c (.ref 0 0))), (10, one (intV (x.1.1 : Int)))]) (fun x => .cells cpuT x.1.2.2 :: (memS 1 1536 6 Q ++ ([.cells w2T [.v (u32V a), .v (u32V b)]] : List Ow))) (fun x => 16 - x.1.1)
   ⟨(1, fun _ => 0, stC { sinS a b with R := fun _ => 0 } [] ++ [.ref 1 0]), by omega, by omega, fun j h0 h1 => by
    have h1 : j < ((1 : Nat) : Int) := h1
    obtain rfl : j = 0 := by omega
    rfl, rfl⟩ (ent_same rfl (aI rfl (aI rfl (aI rfl trivial))) (aI ((aI rfl (Or.inl rfl))) (aI ((aI rfl (Or.inl rfl))) (aI ((aI rfl (Or.inl rfl))) (aI ((aI rfl (Or.inl rfl))) (aI ((aI rfl (Or.inl rfl))) (aI ((aI rfl (Or.inl rfl))) (aI ((aI rfl (Or.inl rfl))) (aI ((aI rfl (Or.inl rfl))) trivial))))))))) fun x => ?_
  obtain ⟨⟨j, R, X⟩, hj1, hj, hR, hX⟩ := x
  dsimp only at hj1 hj hR hX ⊢
  have hXl : X.length = 25 := by rw [hX]; rfl
  refine satq_seqN ?_
  conv => whnf
  refine ⟨fun hc => ?_, fun hc => ?_⟩
  ·have hlt : j < 16 := by simp at hc; omega
   conv => whnf
   refine satq_in (satq_block ?_)
   refine satq_vcN ?_
   conv => whnf
   refine sat_tail 14 mixed (by kernel_rfl) ?_
   conv => whnf
   refine ⟨by decide, (j : Int) % 2, Int.tmod_eq_emod_of_nonneg (by omega), ?_⟩
   conv => whnf
   (refine ⟨⟨by omega, by omega⟩, ?_⟩; (conv=>whnf))
   erw [two_at a b (j := (j : Int)) (by omega)]
   conv => whnf
   refine ⟨by decide, (j : Int) / 2, by rw [Int.tdiv_eq_ediv_of_nonneg (by omega)]; exact wr64 (by omega), ?_⟩
   conv => whnf
   refine ⟨(j : Int) / 2, by rw [wr32]; omega, ?_⟩
   conv => whnf
   refine ⟨(sinW a b (j : Int) + (j : Int) / 2) % 4294967296, by rw [wr32], ?_⟩
   conv => whnf
   (refine ⟨⟨by omega, by omega⟩, ?_⟩; (conv=>whnf))
   erw [len_ble X hXl (m := 0 + 1 + (j : Int).toNat * 1 + 1) (by omega)]
   conv => whnf
   erw [len_big X hXl (by omega)]
   conv => whnf
   refine atq_block (atq_on ?_)
   refine satq_vcN ?_
   conv => whnf
   refine ⟨(j : Int) + 1, wr64 (by omega), ?_⟩
   conv => whnf
   exact atq_next ⟨(j + 1, regU R (j : Int) ((sinW a b (j : Int) + (j : Int) / 2) % 4294967296), _), by show 1 ≤ j + 1; omega, by show j + 1 ≤ 16; omega, fun i i0 i1 => by
    have i1 : i < ((j + 1 : Nat) : Int) := i1
    show (if i = (j : Int) then (sinW a b (j : Int) + (j : Int) / 2) % 4294967296 else R i) = sinR a b i
    by_cases he : i = (j : Int)
    ·rw [if_pos he, he]; unfold sinR; rw [if_neg (by omega)]
    ·rw [if_neg he]; exact hR i i0 (by omega), cpu_setR _ hX (by omega) (by omega)⟩ (ent_same rfl (aI rfl (aI rfl (aI rfl trivial))) (aI sM (aI sM (aI sM (aI sM (aI sM (aI sM (aI sM (aI sM trivial))))))))) (by show 16 - (j + 1) < 16 - j; omega)
  ·have he : j = 16 := by simp at hc; omega
   subst he
   conv => whnf
   exact atq_out (atq_exit (atq_mid ⟨(R, X), hR, hX⟩ (ent_drop (aI rfl trivial) (aI sM (aI sM (aI sM (aI sM (aI sM (aI sM (aI sM trivial))))))) rfl (by show grpOk Gs.nil (.cells cpuT X :: memS 1 1536 6 Q) = true; rw [hX]; exact cpu_grp _ 1536 6 Q))))
 obtain ⟨⟨R, X⟩, hR, hX⟩ := y
 dsimp only at hR hX ⊢
 have hXe : X = (stL (sinS a b) []).map .v ++ [.ref 1 0] := by
  rw [hX, stC_congr (s := sinS a b) hR]; rfl
 rw [hXe, hQ, ← hend]
 refine satq_vcN ?_
 conv => whnf
 refine atq_ret ?_
 conv => whnf
 exact fin_newObjs 0 (cpuU 0 (stL (sinS a b) []) 1536 6 (sinM i)) (cpuU 0 (stL (sinS a b) []) 1536 6 (sinM i)) (by simp) (fun i _ => by rw [Nat.zero_add]) (cpuU_sh 0 _ 1536 6 _) (cpuU_ob _ 1536 6 _) fun w' g gs h => ⟨g, gs, rfl, h⟩
end Go.Proofs.YtnhdcclpjildjaaGreat
namespace Go.Proofs.YtnhdcclpjildjaaGreat
open Go.RowKit
def CV.up (k : Nat) : CV → CV
 | .v x => .v x
 | .ref i o => .ref (k + i) o
 | .vref i o => .vref (k + i) o
 | .row i => .row (k + i)
 | .sl i o n c => .sl (k + i) o n c
 | .mp i => .mp (k + i)
 | .clo _ _ => .any
 | .any => .any
def Ow.up (k : Nat) : Ow → Ow
 | .cells t l => .cells t (l.map (CV.up k))
 | .row e size n xs => .row e size n xs
 | .ext φ => .ext φ
 | _ => .gone
def Env.cat (r : Env) (k : Nat) (s : Env) : Env := ⟨fun i => if i < k then r.blk i else s.blk (i - k), fun i => if i < k then r.val i else s.val (i - k)⟩
theorem Env.cat_blk (r : Env) (k : Nat) (s : Env) (i : Nat) : (r.cat k s).blk (k + i) = s.blk i := by
 show (if k + i < k then _ else _) = _
 rw [if_neg (by omega), Nat.add_sub_cancel_left]
theorem Env.cat_val (r : Env) (k : Nat) (s : Env) (i : Nat) : (r.cat k s).val (k + i) = s.val i := by
 show (if k + i < k then _ else _) = _
 rw [if_neg (by omega), Nat.add_sub_cancel_left]
theorem CV.up_den (r : Env) (k : Nat) (s : Env) : ∀ (c : CV) (u : Value), c.den s u → (c.up k).den (r.cat k s) u
 | .v x, u, h => by simpa only [CV.den, CV.up] using h
 | .ref i o, u, h => by simp only [CV.den, CV.up] at h ⊢; obtain ⟨b, hb, hu⟩ := h; exact ⟨b, by rw [Env.cat_blk]; exact hb, hu⟩
 | .vref i o, u, h => by simp only [CV.den, CV.up] at h ⊢; obtain ⟨b, o2, n, c, hb, hu⟩ := h; exact ⟨b, o2, n, c, by rw [Env.cat_val]; exact hb, hu⟩
 | .row i, u, h => by simp only [CV.den, CV.up] at h ⊢; rw [Env.cat_val]; exact h
 | .sl i o n c, u, h => by simp only [CV.den, CV.up] at h ⊢; obtain ⟨b, hb, hu⟩ := h; exact ⟨b, by rw [Env.cat_blk]; exact hb, hu⟩
 | .mp i, u, h => by simp only [CV.den, CV.up] at h ⊢; obtain ⟨b, hb, hu⟩ := h; exact ⟨b, by rw [Env.cat_blk]; exact hb, hu⟩
 | .clo f l, u, h => by simp only [CV.den, CV.up]
 | .any, u, h => by simp only [CV.den, CV.up]
theorem denL_up (r : Env) (k : Nat) (s : Env) : ∀ (l : List CV) (us : List Value), denL s l us → denL (r.cat k s) (l.map (CV.up k)) us
 | [], us, h => by simpa only [denL, List.map_nil] using h
 | c :: cs, us, h => by simp only [denL, List.map_cons] at h ⊢; obtain ⟨u, l, hu, hc, hl⟩ := h; exact ⟨u, l, hu, CV.up_den r k s c u hc, denL_up r k s cs l hl⟩
theorem rel_cat {w0 : World} {G : Gs} {S T : List Ow} {r s : Env} {w w' : World} (h : Rel w0 G S r w) (h3 : Rel w Gs.nil T s w') : Rel w0 G (S ++ T.map (Ow.up S.length)) (r.cat S.length s) w' ∧ r.le (r.cat S.length s) := by
 refine h.snocs h3.toBelow _ _ (fun i hi => ⟨if_pos hi, if_pos hi⟩) (fun i x hi hx => ?_) (fun i j x hi hj hx hy => ?_) (fun i hi => ?_) (fun j o hj => ?_)
 ·have hx : (if i < S.length then r.blk i else s.blk (i - S.length)) = some x := hx
  rw [if_neg (by omega)] at hx
  obtain ⟨h1, h2⟩ := h3.new _ x hx
  refine ⟨?_, h1⟩
  rcases Nat.lt_or_ge x w.heap.size with h4 | h4
  ·exact absurd (h2 h4) (by simp)
  ·exact h4
 ·have hx : (if i < S.length then r.blk i else s.blk (i - S.length)) = some x := hx
  have hy : (if j < S.length then r.blk j else s.blk (j - S.length)) = some x := hy
  rw [if_neg (by omega)] at hx hy
  have := h3.inj _ _ x hx hy
  omega
 ·rw [List.length_map] at hi
  obtain ⟨m, rfl⟩ : ∃ m, i = S.length + m := ⟨i - S.length, by omega⟩
  rw [Env.cat_blk, Env.cat_val]
  exact ⟨h3.outB m (by omega), h3.outV m (by omega)⟩
 ·rw [List.getElem?_map] at hj
  cases ht : T[j]? with
  | none => rw [ht] at hj; cases hj
  | some q =>
   rw [ht] at hj
   injection hj with hj
   subst hj
   have ho := h3.own j q ht
   cases q with
   | cells t l => obtain ⟨b, us, e1, e2, e3⟩ := ho; exact ⟨b, us, by rw [Env.cat_blk]; exact e1, e2, denL_up r _ s l us e3⟩
   | row e size n xs => obtain ⟨v, e1, e2, e3⟩ := ho; exact ⟨v, by rw [Env.cat_val]; exact e1, by rw [Env.cat_blk]; exact e2, e3⟩
   | ext φ => obtain ⟨b, e1, e2⟩ := ho; exact ⟨b, by rw [Env.cat_blk]; exact e1, e2⟩
   | view => trivial
   | gone => trivial
theorem satq_plain {P : Program} {w0 : World} {G : Gs} {N : Nd} {c d : Code} {f : Fr} {S : List Ow} {Q : Exit → Act → World → Prop} {α : Type} (F : α → Fr) (U : α → List Ow)
  (h : ∀ r w, Rel w0 G S r w → ∃ (f2 : Fr) (T : α → Fr), (∀ a, FDen r f a → FDen Env.none f2 a) ∧ (∀ y a s, FDen s (T y) a → FDen (r.cat S.length s) (F y) a) ∧ SatQ P w Gs.nil N c f2 [] (MidQ w Gs.nil N T U fun _ _ _ => False))
  (hd : ∀ y, SatQ P w0 G N d (F y) (S ++ (U y).map (Ow.up S.length)) Q) : SatQ P w0 G N (.seq c d) f S Q :=
 satq_in ⟨fun a w ⟨r, hR, hf, hN, hds⟩ => by
  obtain ⟨f2, T, h1, h2, h3⟩ := h r w hR
  refine wpIn_mono (h3.out a w ⟨Env.none, rel_none w, h1 a hf, hN, hds⟩) fun e a' w' hq => ?_
  cases e with
  | normal =>
   obtain ⟨y, s, hR3, hf3, hN3, hd3⟩ := hq
   exact (hd y).out a' w' ⟨_, (rel_cat hR hR3).1, h2 y a' s hf3, hN3, hd3⟩
  | exit id => exact hq.elim
  | goto l => exact hq.elim
  | ret => exact hq.elim
  | panic ch => exact hq.elim
  | outgrown => exact hq.elim⟩
theorem slot_back {r s : Env} {f : Fr} {a : Act} {k : Nat} (hf : FDen s f a) (d : Nat) {i off b : Nat} (hb : r.blk i = some b) (hi : i < k) (h : f.get d = one (.pointer (some ⟨b, off, none⟩))) : AV.den (r.cat k s) (.p (.c (.ref i off))) (a.tmps.getD d undef) := by
 have := hf d
 rw [h] at this
 rw [den_v this]
 exact den_mk_ref (by show (if i < k then r.blk i else _) = _; rw [if_pos hi]; exact hb)
theorem slot_up {r s : Env} {f : Fr} {a : Act} {k : Nat} (hf : FDen s f a) (d : Nat) {c : CV} (h : f.get d = .p (.c c)) : AV.den (r.cat k s) (.p (.c (c.up k))) (a.tmps.getD d undef) := by
 have := hf d
 rw [h] at this
 exact CV.up_den r k s c _ this
end Go.Proofs.YtnhdcclpjildjaaGreat
namespace Go.Proofs.YtnhdcclpjildjaaGreat
open Go.RowKit

theorem ProgAt.keep {w w' : World} {A : Option Addr} {n : Nat} (h : ProgAt w A n) (hs : w.heap.size ≤ w'.heap.size) (hb : ∀ k, k < w.heap.size → w'.heap[k]? = w.heap[k]?) : ProgAt w' A n := fun j hj => by
 obtain ⟨b, off, n0, n1, n2, n3, n4, e, h1, h2, h3⟩ := h j hj
 exact ⟨b, off, n0, n1, n2, n3, n4, e, Nat.lt_of_lt_of_le h1 hs, by simp, fun i u hi => by have := h3 i u hi; simp only [World.cell?] at this ⊢; rw [hb b h1]; exact this⟩
end Go.Proofs.YtnhdcclpjildjaaGreat
