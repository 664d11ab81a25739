/- Walks: the reference's memory. Objects that are only read: nothing old has turned. The quiet operations over old memory: what they hand back is the same in all worlds of a kind. Objects that a function makes and hands back. Regions with guards within guards, by cases; calls that turn the world, and loops over what is known of the world. Walks: the signed value of low bits, in the program and in the reference. Walks: the reference's memory: check, Load. -/
import Derived.Test.YtnhdcclpjildjaaGreatL1
import Derived.Test.YtnhdcclpjildjaaGreatL10
import Derived.Test.YtnhdcclpjildjaaGreatL3
import Derived.Test.YtnhdcclpjildjaaGreatL4
import Derived.Test.YtnhdcclpjildjaaGreatL5
import Derived.Test.YtnhdcclpjildjaaGreatL6
import Derived.Test.YtnhdcclpjildjaaGreatL7
import Derived.Test.YtnhdcclpjildjaaGreatL8
import Derived.Test.YtnhdcclpjildjaaGreatL9
namespace Go.Proofs.YtnhdcclpjildjaaGreat
open Go.RowKit

/-- A memory that is not coherent; td, ti, .. are what lies behind the slices' ends, up to their capacity. -/
structure MemP where
  data : List Int
  image : List Int
  oldData : List Int
  oldImage : List Int
  rights : List Int
  td : List Value := []
  ti : List Value := []
  tod : List Value := []
  toi : List Value := []
  tr : List Value := []
abbrev byteV (x : Int) : Value := .int .u8 x
abbrev intV (x : Int) : Value := .int .i64 x
def MemP.dV (M : MemP) : List Value := M.data.map byteV ++ M.td
def MemP.iV (M : MemP) : List Value := M.image.map byteV ++ M.ti
def MemP.odV (M : MemP) : List Value := M.oldData.map byteV ++ M.tod
def MemP.oiV (M : MemP) : List Value := M.oldImage.map byteV ++ M.toi
def MemP.rV (M : MemP) : List Value := M.rights.map intV ++ M.tr
/-- A memory of n bytes and p pages in own entries k and behind. -/
abbrev memS (k n p : Nat) (M : MemP) : List Ow :=
  [.cells 125 [.sl (k + 1) 0 n (n + M.td.length), .sl (k + 2) 0 n (n + M.ti.length), .sl (k + 3) 0 n (n + M.tod.length), .sl (k + 4) 0 n (n + M.toi.length), .sl (k + 5) 0 p (p + M.tr.length), .v (.bool false)],
   .cells 5 (M.dV.map .v), .cells 5 (M.iV.map .v), .cells 5 (M.odV.map .v), .cells 5 (M.oiV.map .v), .cells 3 (M.rV.map .v)]
structure MemP.ok (M : MemP) (n p : Nat) : Prop where
  ld : M.data.length = n
  li : M.image.length = n
  lr : M.rights.length = p
  lod : M.oldData.length = n
  loi : M.oldImage.length = n
  np : n = 256 * p
  pmax : p ≤ 4096
  db : ∀ x ∈ M.data, 0 ≤ x ∧ x < 256
  ib : ∀ x ∈ M.image, 0 ≤ x ∧ x < 256
  rb : ∀ x ∈ M.rights, 0 ≤ x ∧ x < 8
theorem sh_vals (k : Nat) (us : List Value) : (us.map CV.v).map (CV.sh k) = us.map CV.v := by
  rw [List.map_map]; rfl
theorem memS_sh (k n p : Nat) (M : MemP) : ShAll k (memS 0 n p M) (memS k n p M) := by
  refine ⟨⟨rfl, ?_⟩, ⟨rfl, (sh_vals k _).symm⟩, ⟨rfl, (sh_vals k _).symm⟩, ⟨rfl, (sh_vals k _).symm⟩, ⟨rfl, (sh_vals k _).symm⟩, ⟨rfl, (sh_vals k _).symm⟩, trivial⟩
  simp [CV.sh]
theorem ob_vals (n : Nat) (us : List Value) : ∀ c ∈ us.map CV.v, c.ob n = true := fun c hc => by
  obtain ⟨u, _, rfl⟩ := List.mem_map.1 hc; rfl
theorem memS_ob (n p : Nat) (M : MemP) : ObAll 6 (memS 0 n p M) := by
  intro o ho
  simp only [memS, List.mem_cons, List.not_mem_nil, or_false] at ho
  rcases ho with rfl | rfl | rfl | rfl | rfl | rfl
  · intro c hc
    simp only [List.mem_cons, List.not_mem_nil, or_false] at hc
    rcases hc with rfl | rfl | rfl | rfl | rfl | rfl <;> rfl
  · exact ob_vals 6 _
  · exact ob_vals 6 _
  · exact ob_vals 6 _
  · exact ob_vals 6 _
  · exact ob_vals 6 _
theorem six_blocks {w : World} {gs : List Nat} {n p : Nat} {M : MemP} (h : ObjsAt w gs (memS 0 n p M)) : ∃ g0 g1 g2 g3 g4 g5, gs = [g0, g1, g2, g3, g4, g5] := by
  have := h.len
  match gs, this with
  | [g0, g1, g2, g3, g4, g5], _ => exact ⟨g0, g1, g2, g3, g4, g5, rfl⟩
theorem sub_append {U T : List Ow} : ∀ (i : Nat) (o : Ow), U[i]? = some o → (U ++ T)[i]? = some o := fun i o h => by
  have hi : i < U.length := by
    rcases Nat.lt_or_ge i U.length with h1 | h1
    · exact h1
    · rw [List.getElem?_eq_none h1] at h; cases h
  rw [List.getElem?_append_left hi]; exact h
theorem putS_same {S V : List Ow} {k : Nat} (h : ∀ i, i < V.length → S[k + i]? = V[i]?) : putS S k V = S := by
  rcases Nat.eq_zero_or_pos V.length with h0 | hpos
  · rw [List.eq_nil_of_length_eq_zero h0]; rfl
  have hlen : k + V.length ≤ S.length := by
    have h1 := h (V.length - 1) (by omega)
    rw [List.getElem?_eq_getElem (by omega : V.length - 1 < V.length)] at h1
    rcases Nat.lt_or_ge (k + (V.length - 1)) S.length with h3 | h3
    · omega
    · rw [List.getElem?_eq_none h3] at h1; cases h1
  refine List.ext_getElem? fun j => ?_
  rw [putS_get _ _ _ _ hlen]
  split
  · rename_i hj
    rw [← h (j - k) (by omega), show k + (j - k) = j by omega]
  · rfl
section
variable {w0 : World} {G : Gs} {fid : FuncId} {S : List Ow} {K : AV → List Ow → Prop} {pre suf : List AV} {xs ys : List Value} {P : Program}
/-- A call that is handed a memory and turns it. -/
theorem call_memW (k n p : Nat) (M M' : MemP) (X : Value) (hS : ∀ i, i < 6 → S[k + i]? = (memS k n p M)[i]?) (hx : avals pre = some xs) (hy : avals suf = some ys) (hok : fnOk P fid = true)
    (h : ∀ w g gs, OldKeeps w0 G w (g :: gs) → ObjsAt w (g :: gs) (memS 0 n p M) → Calls P fid (xs ++ .pointer (some ⟨g, 0, none⟩) :: ys).toArray w fun e w' => e = .returned X ∧ ObjsAt w' (g :: gs) (memS 0 n p M') ∧ GrownBys w w' (g :: gs))
    (hK : K (AV.of X) (putS S k (memS k n p M'))) : CallS P w0 G fid (pre ++ .p (.c (.ref k 0)) :: suf) S K :=
  call_objs (α := Unit) k (memS 0 n p M) (memS k n p M) (fun _ => memS 0 n p M') (fun _ => memS k n p M') (fun _ => X) (fun _ => True) (by simp) (memS_sh k n p M) (memS_ob n p M) hS hx hy hok (fun _ _ => memS_sh k n p M') (fun _ _ => memS_ob n p M') (fun _ _ => rfl)
    (fun w g gs hk hU => (h w g gs hk hU).mono fun e w' ⟨h1, h2, h3⟩ => ⟨(), trivial, h1, h2, h3⟩) (fun _ _ => hK)
/-- A call that is handed a memory and only reads it. -/
theorem call_memR (k n p : Nat) (M : MemP) (X : Value) (hS : ∀ i, i < 6 → S[k + i]? = (memS k n p M)[i]?) (hx : avals pre = some xs) (hy : avals suf = some ys) (hok : fnOk P fid = true)
    (h : ∀ w g gs, OldKeeps w0 G w (g :: gs) → ObjsAt w (g :: gs) (memS 0 n p M) → Calls P fid (xs ++ .pointer (some ⟨g, 0, none⟩) :: ys).toArray w fun e w' => e = .returned X ∧ ObjsAt w' (g :: gs) (memS 0 n p M) ∧ GrownBys w w' (g :: gs))
    (hK : K (AV.of X) S) : CallS P w0 G fid (pre ++ .p (.c (.ref k 0)) :: suf) S K :=
  call_memW k n p M M X hS hx hy hok h (by rw [putS_same (fun i hi => hS i hi)]; exact hK)
end
set_option maxRecDepth 100000 in
theorem mem_in (M : MemP) (n p : Nat) (a : Int) (w : World) (g : Nat) (gs : List Nat) (hU : ObjsAt w (g :: gs) (memS 0 n p M)) (_hM : M.ok n p) (ha : word a) :
    Calls Tryz.prog 60 #[.pointer (some ⟨g, 0, none⟩), .int .u32 a] w fun e w' => e = .returned (.bool (decide (a < (n : Int)))) ∧ ObjsAt w' (g :: gs) (memS 0 n p M) ∧ GrownBys w w' (g :: gs) := by
  obtain ⟨g0, g1, g2, g3, g4, g5, hg⟩ := six_blocks hU
  injection hg with hg0 hgs
  subst hgs; subst hg0
  refine calls_objs [.p (.c (.ref 0 0)), one (.int .u32 a)] [.pointer (some ⟨g, 0, none⟩), .int .u32 a] Tryz.func60 Tryz.ntmps60 rfl (by simp) hU ⟨_, _, rfl, den_mk_ref rfl, avdenL_of [.int .u32 a]⟩ ?_
  conv => whnf
  refine ⟨a, wr64 (by unfold word at ha; omega), ?_⟩
  conv => whnf
  exact fin_objs rfl rfl (fun i o h => h) (memS_ob n p M) fun w' h1 h2 => ⟨rfl, h1, h2⟩
theorem bndL_vals (n : Nat) : ∀ us : List Value, bndL n (us.map CV.v) = true
  | [] => rfl
  | u :: us => by simp only [List.map_cons, bndL, CV.bnd]; exact bndL_vals n us
theorem grp_mem (g g1 g2 g3 g4 g5 n p : Nat) (M : MemP) : grpOk ⟨[g, g1, g2, g3, g4, g5], []⟩ (memS 0 n p M) = true := by
  show sbnd 6 (memS 0 n p M) = true
  simp only [sbnd, Ow.bnd, bndL_vals, bndL, CV.bnd]
  rfl
/-- What lies ahead of the tail. -/
theorem tail_at {l : List Int} {f : Int → Value} {t : List Value} {i : Nat} {x : Int} (h : l[i]? = some x) : ((l.map f ++ t).map CV.v)[i]? = some (.v (f x)) := by
  have hi : i < l.length := by
    rcases Nat.lt_or_ge i l.length with h1 | h1
    · exact h1
    · rw [List.getElem?_eq_none h1] at h; cases h
  rw [List.getElem?_map, List.getElem?_append_left (by simpa using hi), List.getElem?_map, h]; rfl
theorem tail_le {l : List Int} {f : Int → Value} {t : List Value} {n : Nat} (h : l.length = n) : n ≤ ((l.map f ++ t).map CV.v).length := by simp [h]
theorem tail_set {l : List Int} {f : Int → Value} {t : List Value} {i : Nat} {x : Int} (h : i < l.length) : (l.map f ++ t).set i (f x) = (l.set i x).map f ++ t := by
  rw [List.set_append_left _ _ (by simpa using h), List.map_set]
def MemP.right (M : MemP) (a r : Int) : Bool := decide (a < (M.data.length : Int)) && (((M.rights[(a / 256).toNat]?).getD 0) / r % 2 == 1)
set_option maxRecDepth 100000 in
theorem mem_right (M : MemP) (n p : Nat) (a r : Int) (w : World) (g : Nat) (gs : List Nat) (hU : ObjsAt w (g :: gs) (memS 0 n p M)) (hM : M.ok n p) (ha : word a) (hr : r = 1 ∨ r = 2 ∨ r = 4) :
    Calls Tryz.prog 109 #[.pointer (some ⟨g, 0, none⟩), .int .u32 a, .int .i64 r] w fun e w' => e = .returned (.bool (M.right a r)) ∧ ObjsAt w' (g :: gs) (memS 0 n p M) ∧ GrownBys w w' (g :: gs) := by
  obtain ⟨g0, g1, g2, g3, g4, g5, hg⟩ := six_blocks hU
  injection hg with hg0 hgs
  subst hgs; subst hg0
  refine calls_objs [.p (.c (.ref 0 0)), one (.int .u32 a), one (.int .i64 r)] [.pointer (some ⟨g, 0, none⟩), .int .u32 a, .int .i64 r] Tryz.func109 Tryz.ntmps109 rfl (by simp) hU ⟨_, _, rfl, den_mk_ref rfl, avdenL_of [.int .u32 a, .int .i64 r]⟩ ?_
  conv => whnf
  refine call_memR (pre := []) (suf := [one (.int .u32 a)]) 0 n p M (.bool (decide (a < (n : Int)))) (fun i hi => by rw [Nat.zero_add]) rfl rfl (by kernel_rfl) (fun w' g gs hk hU => mem_in M n p a w' g gs hU hM ha) ?_
  conv => whnf
  have hw : 0 ≤ a ∧ a < 4294967296 := ha
  refine ⟨((M.rights[(a / 256).toNat]?).getD 0) / r % 2 == 1, fun hin => ?_, ?_⟩
  · have hlt : a < (n : Int) := by simpa using hin
    have hnp := hM.np
    have hq : (a / 256).toNat < p := by omega
    obtain ⟨x, hx⟩ : ∃ x, M.rights[(a / 256).toNat]? = some x := ⟨_, List.getElem?_eq_getElem (by rw [hM.lr]; exact hq)⟩
    have hxb := hM.rb x (List.mem_of_getElem? hx)
    have hget : (M.rV.map CV.v)[(a / 256).toNat]? = some (.v (intV x)) := by exact tail_at hx
    rw [hx]
    conv => whnf
    refine ⟨by decide, a / 256, by rw [Int.tdiv_eq_ediv_of_nonneg hw.1, wr32]; omega, ?_⟩
    conv => whnf
    refine ⟨⟨by omega, by omega⟩, ?_⟩
    conv => whnf
    rw [show (List.map CV.v M.rV)[0 + (a / 256).toNat * tsz Tryz.prog 3]? = some (.v (intV x)) by show (List.map CV.v M.rV)[0 + (a / 256).toNat * 1]? = _; rw [Nat.zero_add, Nat.mul_one]; exact hget]
    conv => whnf
    have hr0 : 0 < r := by omega
    have hd0 : 0 ≤ x / r := Int.ediv_nonneg hxb.1 (by omega)
    have hd1 : x / r ≤ x := Int.ediv_le_self _ hxb.1
    refine ⟨by omega, x / r, by rw [Int.tdiv_eq_ediv_of_nonneg hxb.1]; exact wr64 (by omega), ?_⟩
    conv => whnf
    refine ⟨by decide, x / r % 2, Int.tmod_eq_emod_of_nonneg hd0, ?_⟩
    conv => whnf
    exact ⟨rfl, rfl, rfl, rfl, grp_mem _ _ _ _ _ _ _ _ _⟩
  conv => whnf
  refine fin_objs rfl rfl (fun i o h => h) (memS_ob n p M) fun w' h1 h2 => ⟨?_, h1, h2⟩
  unfold MemP.right
  rw [hM.ld]; rfl
end Go.Proofs.YtnhdcclpjildjaaGreat
namespace Go.Proofs.YtnhdcclpjildjaaGreat
open Go.RowKit

theorem CV.den_det {r : Env} {n : Nat} : ∀ {c : CV} {u z : Value}, c.ob n = true → c.den r u → c.den r z → u = z
  | .v x, u, z, _, h1, h2 => by simp only [CV.den] at h1 h2; rw [h1, h2]
  | .ref i off, u, z, _, h1, h2 => by
    simp only [CV.den] at h1 h2
    obtain ⟨b, e1, rfl⟩ := h1
    obtain ⟨b', e2, rfl⟩ := h2
    rw [e1] at e2; injection e2 with e2; rw [e2]
  | .sl i off m c, u, z, _, h1, h2 => by
    simp only [CV.den] at h1 h2
    obtain ⟨b, e1, rfl⟩ := h1
    obtain ⟨b', e2, rfl⟩ := h2
    rw [e1] at e2; injection e2 with e2; rw [e2]
  | .any, _, _, hb, _, _ => by cases hb
  | .vref .., _, _, hb, _, _ => by cases hb
  | .row .., _, _, hb, _, _ => by cases hb
  | .mp .., _, _, hb, _, _ => by cases hb
  | .clo .., _, _, hb, _, _ => by cases hb
theorem denL_det {r : Env} {n : Nat} : ∀ {l : List CV} {us vs : List Value}, (∀ c ∈ l, c.ob n = true) → denL r l us → denL r l vs → us = vs
  | [], us, vs, _, h1, h2 => by simp only [denL] at h1 h2; rw [h1, h2]
  | c :: l, us, vs, hb, h1, h2 => by
    simp only [denL] at h1 h2
    obtain ⟨u, us', rfl, d1, d2⟩ := h1
    obtain ⟨v, vs', rfl, k1, k2⟩ := h2
    rw [CV.den_det (hb c (by simp)) d1 k1, denL_det (fun x hx => hb x (by simp [hx])) d2 k2]
theorem objs_same {w w' : World} {gs : List Nat} {U : List Ow} {n : Nat} (hob : ObAll n U) (h : ObjsAt w gs U) (h' : ObjsAt w' gs U) : ∀ g ∈ gs, w'.heap[g]? = w.heap[g]? := by
  intro g hg
  obtain ⟨i, hi⟩ := List.getElem?_of_mem hg
  have hlt : i < U.length := by
    rw [h.len]
    rcases Nat.lt_or_ge i gs.length with h1 | h1
    · exact h1
    · rw [List.getElem?_eq_none h1] at hi; cases hi
  have ho := List.getElem?_eq_getElem hlt
  have k1 := h.own i _ ho
  have k2 := h'.own i _ ho
  have hb := hob _ (List.getElem_mem hlt)
  cases hu : U[i] with
  | cells t l =>
    rw [hu] at k1 k2 hb
    obtain ⟨b, us, e1, e2, e3⟩ := k1
    obtain ⟨b', us', e4, e5, e6⟩ := k2
    have e1 : gs[i]? = some b := e1
    have e4 : gs[i]? = some b' := e4
    rw [hi] at e1 e4
    injection e1 with e1; injection e4 with e4
    subst e1; subst e4
    rw [e2, e5, denL_det hb e3 e6]
  | row => rw [hu] at hb; exact hb.elim
  | ext => rw [hu] at hb; exact hb.elim
  | view => rw [hu] at hb; exact hb.elim
  | gone => rw [hu] at hb; exact hb.elim
/-- A function that only reads its objects turns nothing old. -/
theorem objs_below {w w' : World} {gs : List Nat} {U : List Ow} {n : Nat} (hob : ObAll n U) (h : ObjsAt w gs U) (h' : ObjsAt w' gs U) (hg : GrownBys w w' gs) : Below w.heap.size w w' :=
  ⟨hg.os, hg.tape, hg.output, hg.size, fun k hk => by
    by_cases hm : k ∈ gs
    · exact objs_same hob h h' k hm
    · exact hg.block k hk hm⟩
end Go.Proofs.YtnhdcclpjildjaaGreat
namespace Go.Proofs.YtnhdcclpjildjaaGreat
open Go.RowKit

theorem QRun.useD {P : Program} {w0 : World} {G : Gs} {S : List Ow} {f : Fr} {o : Oper} {K : AV → Prop} (h : QRun P w0 G S f o K) {r : Env} {D : World → Prop} (hD : ∀ w, D w → Rel w0 G S r w) {w1 : World} (_ : D w1) {a : Act} (hf : FDen r f a) :
    ∃ v u, K v ∧ v.den r u ∧ ∀ w : World, D w → (execOp a.eval o).run P w = .ok (.value u) w := by
  obtain ⟨v, hK, hr⟩ := h.out
  obtain ⟨u, hd, hrun⟩ := hr r a hf
  exact ⟨v, u, hK, hd, fun w hw => hrun w (hD w hw)⟩
set_option maxHeartbeats 1000000 in
theorem qop_held {P : Program} {w0 : World} {G : Gs} {S : List Ow} {f : Fr} {o : Oper} {K : AV → Prop} (h : qop P w0 G S f o K) (hty : opTy P o.op = true) (hS0 : S = []) {r : Env} {D : World → Prop} (hD : ∀ w, D w → Rel w0 G S r w) {w1 : World} (hw1 : D w1) {a : Act} (hf : FDen r f a) :
    ∃ v u, K v ∧ v.den r u ∧ ∀ w : World, D w → (execOp a.eval o).run P w = .ok (.value u) w := by
  have hR := hD w1 hw1
  unfold qop at h
  split at h
  · -- move
    rename_i x hop
    have hx := hf.ev x
    refine ⟨f.ev x, a.eval x, ?_, hx, fun w _ => by simp [execOp, hop]⟩
    split at h <;> (rename_i he; rw [he]; exact h)
  · rename_i x hop
    have hx := hf.ev x
    refine ⟨f.ev x, a.eval x, ?_, hx, fun w _ => by simp [execOp, hop]⟩
    split at h <;> (rename_i he; rw [he]; exact h)
  · -- pick
    rename_i c x y hop
    have hc := hf.ev c
    have hx := hf.ev x
    have hy := hf.ev y
    split at h
    · rename_i b eb
      rw [eb] at hc
      have e1 := den_v hc
      have hrun : ∀ w : World, (execOp a.eval o).run P w = .ok (.value (if b then a.eval x else a.eval y)) w := fun w => by simp [execOp, hop, e1, asBool]
      split at h
      · rename_i p ep
        rw [ep] at hx
        have e2 := den_v hx
        split at h
        · rename_i q eq
          rw [eq] at hy
          have e3 := den_v hy
          refine ⟨_, _, h, den_one r _, fun w _ => ?_⟩
          rw [hrun w, e2, e3]
          cases b <;> rfl
        · cases b with
          | true => exact ⟨_, _, h, den_one r _, fun w _ => by rw [hrun w, e2]; rfl⟩
          | false => exact ⟨_, _, h, hy, fun w _ => by rw [hrun w]; rfl⟩
      · cases b with
        | true => exact ⟨_, _, h, hx, fun w _ => by rw [hrun w]; rfl⟩
        | false => exact ⟨_, _, h, hy, fun w _ => by rw [hrun w]; rfl⟩
    · exact h.elim
  · -- load
    rename_i t x hop
    have hx := hf.ev x
    subst hS0
    unfold loadK at h
    split at h
    · simp at h
    · simp at h
    · rename_i b off he
      rw [he] at hx
      have hu := den_v hx
      obtain ⟨v, u, hK, hd, hrun⟩ := oldK_sound h r
      exact ⟨v, u, hK, hd, fun w hw => by simp [execOp, hop, hu, hrun [] r w (hD w hw)]⟩
    · exact h.elim
  · -- nilCheck
    rename_i x hop
    have hx := hf.ev x
    split at h
    · rename_i i off he
      rw [he] at hx
      refine ⟨_, _, h, hx, fun w _ => ?_⟩
      obtain ⟨b, hb, hu⟩ := den_ref hx
      simp [execOp, hop, hu]
    · rename_i fn cap he
      rw [he] at hx
      refine ⟨_, _, h, hx, fun w _ => ?_⟩
      obtain ⟨us, hu, _⟩ := den_clo hx
      simp [execOp, hop, hu]
    · rename_i p he
      rw [he] at hx
      refine ⟨_, _, h, hx, fun w _ => ?_⟩
      have hu := den_v hx
      simp [execOp, hop, hu]
    · exact QRun.useD h hD hw1 hf
  · -- binOp
    rename_i op t x y t' hop
    have hx := hf.ev x
    have hy := hf.ev y
    split at h
    · rename_i k p ep
      rw [ep] at hx
      have e1 := den_v hx
      split at h
      · rename_i k' q eq
        rw [eq] at hy
        have e2 := den_v hy
        have hg : ∀ w : World, (eqGuard op t x y (.int k p) (.int k' q)).run P w = .ok () w := fun w => by
          unfold eqGuard; cases op <;> simp
        split at h
        · obtain ⟨u, hK, hrun⟩ := shiftK_sound (P := P) (t := t) (k' := k') h
          exact ⟨_, u, hK, den_one r u, fun w _ => by simp [execOp, hop, e1, e2, hg w, hrun w]⟩
        · obtain ⟨u, hK, hrun⟩ := shiftK_sound (P := P) (t := t) (k' := k') h
          exact ⟨_, u, hK, den_one r u, fun w _ => by simp [execOp, hop, e1, e2, hg w, hrun w]⟩
        · split at h
          · rename_i hk
            have hk := of_decide_eq_true hk
            subst hk
            obtain ⟨u, hK, hrun⟩ := binK_sound (P := P) (t := t) h
            exact ⟨_, u, hK, den_one r u, fun w _ => by simp [execOp, hop, e1, e2, hg w, hrun w]⟩
          · exact h.elim
      · exact QRun.useD h hD hw1 hf
    · exact QRun.useD h hD hw1 hf
  · -- unOp
    rename_i op t x hop
    have hx := hf.ev x
    split at h
    · rename_i p ep
      rw [ep] at hx
      have e1 := den_v hx
      exact ⟨_, _, h, den_one r _, fun w _ => by simp [execOp, hop, e1, Op.unary]⟩
    · exact QRun.useD h hD hw1 hf
  · -- convert
    rename_i src dst x hop
    have hx := hf.ev x
    split at h
    · rename_i k n ep
      rw [ep] at hx
      have e1 := den_v hx
      split at h
      · rename_i q0 hq0
        split at h
        · rename_i q hq
          obtain ⟨m, hm, hK⟩ := h
          exact ⟨_, _, hK, den_one r _, fun w _ => by simp [execOp, hop, e1, convert, underlying, hq0, hq, Conv.intToInt, hm]⟩
        · exact QRun.useD h hD hw1 hf
      · exact QRun.useD h hD hw1 hf
    · exact QRun.useD h hD hw1 hf
  · -- fieldAddr
    rename_i s x k hop
    have hx := hf.ev x
    split at h
    · rename_i i off he
      rw [he] at hx
      obtain ⟨b, hb, hu⟩ := den_ref hx
      split at h
      · rename_i n hn
        exact ⟨_, _, h, den_mk_ref hb, fun w _ => by simp [execOp, hop, hu, run_fieldAt hn]⟩
      · exact h.elim
    · rename_i b off he
      rw [he] at hx
      have hu := den_v hx
      split at h
      · rename_i n hn
        exact ⟨_, _, h, den_one r _, fun w _ => by simp [execOp, hop, hu, run_fieldAt hn]⟩
      · exact h.elim
    · exact h.elim
  · -- field
    rename_i t x k hop
    have hx := hf.ev x
    split at h
    · rename_i l he
      rw [he] at hx
      obtain ⟨us, hu, hl⟩ := den_agg hx
      unfold fldK at h
      split at h
      · rename_i fs hs
        split at h
        · rename_i fl hfl
          obtain ⟨v, u, hK, hd, hrun⟩ := run_part h hl
          exact ⟨v, u, hK, hd, fun w _ => by simp [execOp, hop, hu, Instr.field, underlying, hs, hfl, asAgg, hrun w]⟩
        · exact h.elim
      · exact h.elim
    · exact h.elim
  · -- extract
    rename_i x k hop
    have hx := hf.ev x
    split at h
    · rename_i l he
      rw [he] at hx
      obtain ⟨us, hu, hl⟩ := hx
      split at h
      · rename_i p hp
        obtain ⟨u, h1, h2⟩ := pdenL_at hl hp
        exact ⟨_, u, h, h2, fun w _ => by simp [execOp, hop, hu, Instr.extract, h1]⟩
      · exact h.elim
    · exact h.elim
  · -- build
    rename_i t parts hop
    obtain ⟨v, u, hK, hd, hrun⟩ := buildK_sound hR hf h
    exact ⟨v, u, hK, hd, fun w _ => by simp only [execOp, hop, Sem.run_bind, hrun w, Result.andThen_ok, Sem.run_pure]⟩
  · -- makeFunc
    rename_i fn first cap hop
    split at h
    · rename_i hfirst
      have ef : first = #[] := Array.ext' hfirst
      split at h
      · rename_i hcap
        have ec : cap = #[] := Array.ext' hcap
        exact ⟨_, .func (.func fn) #[] #[], h, by simp [AV.den, Pc.den, CV.den, denL], fun w _ => by simp [execOp, hop, Instr.makeFunc, ef, ec]⟩
      · rename_i x hcap
        have ec : cap = #[x] := Array.ext' hcap
        have hx := hf.ev x
        split at h
        · rename_i c he
          rw [he] at hx
          refine ⟨_, .func (.func fn) #[] #[a.eval x], h, ?_, fun w _ => by simp [execOp, hop, Instr.makeFunc, ef, ec]⟩
          simp only [AV.den, Pc.den, CV.den, denL]
          exact ⟨[a.eval x], rfl, _, _, rfl, hx, rfl⟩
        · exact h.elim
      · exact QRun.useD h hD hw1 hf
    · exact QRun.useD h hD hw1 hf
  · -- indexAddr
    rename_i t x ix hop
    rw [hop] at hty
    have hx := hf.ev x
    have hi := hf.ev ix
    split at h
    · rename_i b off n c he
      rw [he] at hx
      have hu := den_v hx
      split at h
      · rename_i q k hk
        rw [hk] at hi
        have hu2 := den_v hi
        split at h
        · rename_i e ht
          simp only [opTy, ht] at hty
          obtain ⟨i, hie⟩ := Option.isSome_iff_exists.1 hty
          obtain ⟨⟨h0, h1⟩, hK⟩ := h
          refine ⟨_, _, hK, den_one r _, fun w _ => ?_⟩
          simp only [execOp, hop, hu, hu2, Sem.run_bind, run_indexAt_slice ht hie h0 h1, Result.andThen_ok, Sem.run_pure, tsz_sizeOf hie]
        · exact h.elim
      · exact h.elim
    · rename_i i he
      rw [he] at hx
      split at h
      · rename_i q k hk
        rw [hk] at hi
        have hu2 := den_v hi
        split at h
        · rename_i e ht
          simp only [opTy, ht] at hty
          obtain ⟨i', hie⟩ := Option.isSome_iff_exists.1 hty
          split at h
          · rename_i e' size n xs hS
            obtain ⟨⟨h0, h1⟩, hK⟩ := h
            obtain ⟨v, hv1, hv2, hv3⟩ := hR.own i _ hS
            have hux : r.val i = some (a.eval x) := by simpa only [AV.den, Pc.den, CV.den] using hx
            rw [hux] at hv1; injection hv1 with hv1
            rcases hv3.2 with ⟨hn, hz⟩ | ⟨g, cap, cur, hv, _⟩
            · omega
            · rw [← hv1] at hv hv2
              have hb : r.blk i = some g := by rw [← hv2, hv]; rfl
              refine ⟨_, _, hK, den_mk_ref hb, fun w _ => ?_⟩
              simp only [execOp, hop, hv, hu2, Sem.run_bind, run_indexAt_slice ht hie h0 h1, Result.andThen_ok, Sem.run_pure, tsz_sizeOf hie, Nat.zero_add]
          · rename_i n xs hS
            obtain ⟨⟨h0, h1, hpos⟩, hK⟩ := h
            obtain ⟨A, c, hv1, hv2, hv3, hv4, hv5⟩ := hR.own i _ hS
            have hux : r.val i = some (a.eval x) := by simpa only [AV.den, Pc.den, CV.den] using hx
            obtain ⟨b, off, hA, _⟩ := hv5 0 xs[0] (by simp [hpos])
            subst hA
            rw [hux] at hv1; injection hv1 with hv1
            refine ⟨_, .pointer (some ⟨b, off + k.toNat * i'.size, none⟩), hK, ?_, fun w _ => ?_⟩
            · simp only [AV.den, Pc.den, CV.den]
              exact ⟨b, off, n, c, by rw [hux, hv1], by rw [tsz_sizeOf hie]⟩
            · simp only [execOp, hop, hv1, hu2, Sem.run_bind, run_indexAt_slice ht hie h0 h1, Result.andThen_ok, Sem.run_pure]
          · exact h.elim
        · exact h.elim
      · exact h.elim
    · rename_i i off n c he
      rw [he] at hx
      have hux : ∃ b, r.blk i = some b ∧ a.eval x = .slice (some ⟨b, off, none⟩) n c := by simpa only [AV.den, Pc.den, CV.den] using hx
      obtain ⟨b, hb, hu⟩ := hux
      split at h
      · rename_i q k hk
        rw [hk] at hi
        have hu2 := den_v hi
        split at h
        · rename_i e ht
          simp only [opTy, ht] at hty
          obtain ⟨i', hie⟩ := Option.isSome_iff_exists.1 hty
          obtain ⟨⟨h0, h1⟩, hK⟩ := h
          refine ⟨_, _, hK, den_mk_ref hb, fun w _ => ?_⟩
          simp only [execOp, hop, hu, hu2, Sem.run_bind, run_indexAt_slice ht hie h0 h1, Result.andThen_ok, Sem.run_pure, tsz_sizeOf hie]
        · exact h.elim
      · exact h.elim
    · rename_i i off he
      rw [he] at hx
      obtain ⟨b, hb, hu⟩ := den_ref hx
      split at h
      · rename_i q k hk
        rw [hk] at hi
        have hu2 := den_v hi
        split at h
        · rename_i n e ht
          simp only [opTy, ht] at hty
          obtain ⟨i', hie⟩ := Option.isSome_iff_exists.1 hty
          obtain ⟨⟨h0, h1⟩, hK⟩ := h
          refine ⟨_, _, hK, den_mk_ref hb, fun w _ => ?_⟩
          simp only [execOp, hop, hu, hu2, Sem.run_bind, run_indexAt_array ht hie h0 h1, Result.andThen_ok, Sem.run_pure, tsz_sizeOf hie]
        · exact h.elim
      · exact h.elim
    · exact QRun.useD h hD hw1 hf
  · -- index
    rename_i t x ix hop
    rw [hop] at hty
    have hx := hf.ev x
    have hi := hf.ev ix
    split at h
    · rename_i l he
      rw [he] at hx
      obtain ⟨us, hu, hl⟩ := den_agg hx
      split at h
      · rename_i q k hk
        rw [hk] at hi
        have hu2 := den_v hi
        split at h
        · rename_i n e ht
          simp only [opTy, ht] at hty
          obtain ⟨i', hie⟩ := Option.isSome_iff_exists.1 hty
          obtain ⟨⟨h0, h1⟩, hK⟩ := h
          obtain ⟨v, u, hK', hd, hrun⟩ := run_part hK hl
          refine ⟨v, u, hK', hd, fun w _ => ?_⟩
          have e3 := hrun w
          rw [tsz_sizeOf hie] at e3
          simp [execOp, hop, hu, hu2, Instr.index, asIntOf, underlying, ht, h0, h1, run_sizeOf P e w hie, e3]
        · exact h.elim
      · exact h.elim
    · exact QRun.useD h hD hw1 hf
  · -- len
    rename_i args tys hop
    split at h
    · rename_i x hargs
      have ea : args = #[x] := Array.ext' hargs
      split at h
      · rename_i t htys
        have et : tys = #[t] := Array.ext' htys
        split at h
        · rename_i e ht
          have hx := hf.ev x
          split at h
          · rename_i A n c he
            rw [he] at hx
            have hu := den_v hx
            exact ⟨_, _, h, den_one r _, fun w _ => by simp [execOp, hop, ea, et, resolve, invoke, builtin, Builtin.len_, underlying, ht, hu, goInt]⟩
          · rename_i i off n c he
            rw [he] at hx
            have hux : ∃ b, r.blk i = some b ∧ a.eval x = .slice (some ⟨b, off, none⟩) n c := by simpa only [AV.den, Pc.den, CV.den] using hx
            obtain ⟨b, hb, hu⟩ := hux
            exact ⟨_, _, h, den_one r _, fun w _ => by simp [execOp, hop, ea, et, resolve, invoke, builtin, Builtin.len_, underlying, ht, hu, goInt]⟩
          · rename_i i he
            rw [he] at hx
            split at h
            · rename_i e' size n xs hS
              obtain ⟨v, hv1, hv2, hv3⟩ := hR.own i _ hS
              have hux : r.val i = some (a.eval x) := by simpa only [AV.den, Pc.den, CV.den] using hx
              rw [hux] at hv1; injection hv1 with hv1
              obtain ⟨A, c, hv⟩ := row_slice hv3
              rw [← hv1] at hv
              exact ⟨_, _, h, den_one r _, fun w _ => by simp [execOp, hop, ea, et, resolve, invoke, builtin, Builtin.len_, underlying, ht, hv, goInt]⟩
            · rename_i n xs hS
              obtain ⟨A, c, hv1, _⟩ := hR.own i _ hS
              have hux : r.val i = some (a.eval x) := by simpa only [AV.den, Pc.den, CV.den] using hx
              rw [hux] at hv1; injection hv1 with hv1
              exact ⟨_, _, h, den_one r _, fun w _ => by simp [execOp, hop, ea, et, resolve, invoke, builtin, Builtin.len_, underlying, ht, hv1, goInt]⟩
            · exact h.elim
          · exact h.elim
        · exact QRun.useD h hD hw1 hf
      · exact h.elim
    · exact h.elim
  · exact QRun.useD h hD hw1 hf
end Go.Proofs.YtnhdcclpjildjaaGreat
namespace Go.Proofs.YtnhdcclpjildjaaGreat
open Go.RowKit

theorem renL_vals (σ : Nat → Nat) : ∀ us : List Value, renL σ (us.map CV.v) = us.map CV.v
  | [] => rfl
  | u :: us => by simp only [List.map_cons, renL, CV.ren, renL_vals σ us]
/-- Objects in new memory. -/
structure NewObjs (w w' : World) (gs : List Nat) (U : List Ow) : Prop where
  at_ : ObjsAt w' gs U
  fresh : ∀ g ∈ gs, w.heap.size ≤ g
  below : Below w.heap.size w w'
def envNew (r : Env) (n : Nat) (gs : List Nat) : Env := ⟨fun i => if i < n then r.blk i else gs[i - n]?, r.val⟩
theorem Rel.newObjs {w0 : World} {G : Gs} {S U V : List Ow} {r : Env} {w w' : World} {gs : List Nat} (hR : Rel w0 G S r w) (h : NewObjs w w' gs U) (hsh : ShAll S.length U V) (hob : ObAll U.length U) : Rel w0 G (S ++ V) (envNew r S.length gs) w' ∧ r.le (envNew r S.length gs) := by
  have hVl := hsh.length
  have hUl := h.at_.len
  have hfrom : ∀ i b, i < U.length → (envOf gs).blk i = some b → (envNew r S.length gs).blk (S.length + i) = some b := fun i b _ hb => by
    show (if S.length + i < S.length then _ else gs[S.length + i - S.length]?) = some b
    rw [if_neg (by omega), show S.length + i - S.length = i by omega]; exact hb
  refine hR.snocs h.below V (envNew r S.length gs) (fun i hi => ⟨if_pos hi, rfl⟩) (fun i x hi hx => ?_) (fun i j x hi hj hx hy => ?_) (fun i hi => ?_) (fun j o hj => ?_)
  · have hx : (if i < S.length then r.blk i else gs[i - S.length]?) = some x := hx
    rw [if_neg (by omega)] at hx
    have hm := List.mem_of_getElem? hx
    exact ⟨h.fresh x hm, h.at_.lt x hm⟩
  · have hx : (if i < S.length then r.blk i else gs[i - S.length]?) = some x := hx
    have hy : (if j < S.length then r.blk j else gs[j - S.length]?) = some x := hy
    rw [if_neg (by omega)] at hx hy
    have := h.at_.nodup _ _ x hx hy
    omega
  · have hlt : ¬ i < S.length := by omega
    refine ⟨?_, hR.outV i (by omega)⟩
    show (if i < S.length then r.blk i else gs[i - S.length]?) = none
    rw [if_neg hlt, List.getElem?_eq_none (by omega)]
  · obtain ⟨o', h1, h2⟩ := hsh.get' j hj
    have h3 := h.at_.own j o' h1
    have h4 := hob o' (List.mem_of_getElem? h1)
    have hjl : j < U.length := by
      rcases Nat.lt_or_ge j U.length with h5 | h5
      · exact h5
      · rw [List.getElem?_eq_none h5] at h1; cases h1
    cases o' with
    | cells t l =>
      cases o with
      | cells t' l' =>
        obtain ⟨rfl, rfl⟩ := h2
        obtain ⟨b, us, e1, e2, e3⟩ := h3
        exact ⟨b, us, hfrom j b hjl e1, e2, sh_denL (n := U.length) hfrom h4 e3⟩
      | row => exact h2.elim
      | ext => exact h2.elim
      | view => exact h2.elim
      | gone => exact h2.elim
    | row => exact h4.elim
    | ext => exact h4.elim
    | view => exact h4.elim
    | gone => exact h4.elim
/-- Objects among the own entries. -/
theorem Rel.objsAt {w0 : World} {G : Gs} {S : List Ow} {r : Env} {w : World} (hR : Rel w0 G S r w) (k : Nat) (U V : List Ow) (hpos : 0 < U.length) (hS : ∀ i, i < U.length → S[k + i]? = V[i]?) (hsh : ShAll k U V) (hob : ObAll U.length U) : ∃ g gs, r.blk k = some g ∧ ObjsAt w (g :: gs) U := by
  have hown : ∀ i, i < U.length → ∃ b t l, U[i]? = some (.cells t l) ∧ r.blk (k + i) = some b ∧ ∃ us : List Value, w.heap[b]? = some (.cells us.toArray t (0, 0)) ∧ denL r (l.map (CV.sh k)) us := fun i hi => by
    have hu := List.getElem?_eq_getElem hi
    obtain ⟨o', h1, h2⟩ := hsh.get i hu
    have h3 := hR.own (k + i) o' (by rw [hS i hi, h1])
    have h4 := hob _ (List.getElem_mem hi)
    cases ho : U[i] with
    | cells t l =>
      rw [ho] at h2 hu
      cases o' with
      | cells t' l' =>
        obtain ⟨rfl, rfl⟩ := h2
        obtain ⟨b, us, e1, e2, e3⟩ := h3
        exact ⟨b, t, l, hu, e1, us, e2, e3⟩
      | row => exact h2.elim
      | ext => exact h2.elim
      | view => exact h2.elim
      | gone => exact h2.elim
    | row => rw [ho] at h4; exact h4.elim
    | ext => rw [ho] at h4; exact h4.elim
    | view => rw [ho] at h4; exact h4.elim
    | gone => rw [ho] at h4; exact h4.elim
  obtain ⟨gs, hgl, hgs⟩ : ∃ gs : List Nat, gs.length = U.length ∧ ∀ i, i < U.length → gs[i]? = r.blk (k + i) := by
    refine ⟨(List.range U.length).map fun i => (r.blk (k + i)).getD 0, by simp, fun i hi => ?_⟩
    obtain ⟨b, _, _, _, hb, _⟩ := hown i hi
    rw [List.getElem?_map, List.getElem?_range hi, hb]
    simp [hb]
  have hto : ∀ i b, i < U.length → r.blk (k + i) = some b → (envOf gs).blk i = some b := fun i b hi hb => by
    show gs[i]? = some b
    rw [hgs i hi]; exact hb
  have hin : ∀ (i b : Nat), gs[i]? = some b → i < U.length ∧ r.blk (k + i) = some b := fun i b hb => by
    have hi : i < U.length := by
      rcases Nat.lt_or_ge i U.length with h1 | h1
      · exact h1
      · rw [List.getElem?_eq_none (by omega)] at hb; cases hb
    exact ⟨hi, by rw [← hgs i hi]; exact hb⟩
  have hU : ObjsAt w gs U := by
    refine ⟨hgl.symm, fun i j b hi hj => ?_, fun b hb => ?_, fun i o ho => ?_⟩
    · have := hR.inj _ _ b (hin i b hi).2 (hin j b hj).2
      omega
    · obtain ⟨i, hi⟩ := List.getElem?_of_mem hb
      exact (hR.new _ b (hin i b hi).2).1
    · have hi : i < U.length := by
        rcases Nat.lt_or_ge i U.length with h1 | h1
        · exact h1
        · rw [List.getElem?_eq_none h1] at ho; cases ho
      obtain ⟨b, t, l, e1, e2, us, e3, e4⟩ := hown i hi
      rw [ho] at e1; injection e1 with e1; subst e1
      exact ⟨b, us, hto i b hi e2, e3, denL_sh (n := U.length) hto (hob _ (List.mem_of_getElem? ho)) e4⟩
  cases gs with
  | nil => simp at hgl; omega
  | cons g gs =>
    refine ⟨g, gs, ?_, hU⟩
    have := hgs 0 hpos
    rw [Nat.add_zero] at this
    rw [← this]; rfl
theorem ObjsAt.later {w w' : World} {gs : List Nat} {U : List Ow} (hob : ObAll U.length U) (h : ObjsAt w gs U) (hs : w.heap.size ≤ w'.heap.size) (hk : ∀ g ∈ gs, w'.heap[g]? = w.heap[g]?) : ObjsAt w' gs U :=
  ⟨h.len, h.nodup, fun g hg => Nat.lt_of_lt_of_le (h.lt g hg) hs, fun i o ho => by
    have h1 := h.own i o ho
    have h2 := hob o (List.mem_of_getElem? ho)
    cases o with
    | cells t l =>
      obtain ⟨b, us, e1, e2, e3⟩ := h1
      exact ⟨b, us, e1, by rw [hk b (List.mem_of_getElem? (show gs[i]? = some b from e1))]; exact e2, e3⟩
    | row => exact h2.elim
    | ext => exact h2.elim
    | view => exact h2.elim
    | gone => exact h2.elim⟩
theorem ObjsAt.below {w w' : World} {gs : List Nat} {U : List Ow} (hob : ObAll U.length U) (h : ObjsAt w gs U) (hB : Below w.heap.size w w') : ObjsAt w' gs U :=
  h.later hob hB.size fun g hg => hB.block g (h.lt g hg)
end Go.Proofs.YtnhdcclpjildjaaGreat
namespace Go.Proofs.YtnhdcclpjildjaaGreat
open Go.RowKit

/-- The operations one after the other; a guard parts the cases, and is known from then on. -/
def guardedN (P : Program) (w0 : World) (G : Gs) (N : Nd) (ops : Array Oper) : List Oper → Fr → List Ow → (Fr → List Ow → Prop) → Prop
  | [], f, S, K => K f S
  | o :: l, f, S, K => match o.guard with
    | none => opK P w0 G N o f S fun f' S' => guardedN P w0 G N ops l f' S' K
    | some (j, pol) => (match slotOf ops j with
      | none => False
      | some d => (match f.get d with
        | .p (.c (.v (.bool x))) => (x = pol → opK P w0 G N o ((d, one (.bool pol)) :: f) S fun f' S' => guardedN P w0 G N ops l f' S' K) ∧
            (x = (!pol) → match dstOk N.n o.dst with | true => (Fr.putK ((d, one (.bool (!pol))) :: f) o.dst (one undef) fun f' => guardedN P w0 G N ops l f' S K) | false => False)
        | .p (.c (.v (.tuple _))) => (match dstOk N.n o.dst with | true => (f.putK o.dst (one undef) fun f' => guardedN P w0 G N ops l f' S K) | false => False)
        | _ => False))
section
variable {P : Program} {w0 : World} {G : Gs} {N : Nd} {c d : Code} {f : Fr} {S : List Ow} {Q : Exit → Act → World → Prop}
theorem guardedN_sound {ops : Array Oper} {Q : Act → World → Prop} : ∀ (l : List Oper) (f : Fr) (S : List Ow) (K : Fr → List Ow → Prop), guardedN P w0 G N ops l f S K → (∀ f' S' a' w', K f' S' → Good w0 G N f' S' a' w' → Q a' w') →
    ∀ a w, Good w0 G N f S a w → seL P ops Q l a w
  | [], f, S, K, h, hK, a, w, hg => hK _ _ _ _ h hg
  | o :: l, f, S, K, h, hK, a, w, hg => by
    unfold guardedN at h
    split at h
    · rename_i hgd
      obtain ⟨r, hR, hf, hN, hd⟩ := hg
      exact step_do (wanted_none hgd _) ((opK_sound h).out r a w hR hf hN hd _ (fun _ _ _ => True) fun f' S' a' w' hk hg' => guardedN_sound l f' S' K hk hK a' w' hg')
    · rename_i j pol hgd
      split at h
      · exact h.elim
      · rename_i d hs
        split at h
        · rename_i x hfx
          obtain ⟨h1, h2⟩ := h
          by_cases hx : x = pol
          · obtain ⟨r, hR, hf, hN, hd⟩ := hg.known (d := d) (x := one (.bool pol)) (by rw [hfx, hx])
            refine step_do ?_ ((opK_sound (h1 hx)).out r a w hR hf hN hd _ (fun _ _ _ => True) fun f' S' a' w' hk hgd => guardedN_sound l f' S' K hk hK a' w' hgd)
            rw [wanted_some hgd, yielded_of hf hs (get_cons_self d _ f)]; simp
          · have hx' : x = !pol := by cases x <;> cases pol <;> simp_all
            have h2 := h2 hx'
            obtain ⟨r, hR, hf, hN, hd⟩ := hg.known (d := d) (x := one (.bool (!pol))) (by rw [hfx, hx'])
            split at h2
            · rename_i hdst
              refine step_not ?_ (guardedN_sound l _ S K (putK_iff.1 h2) hK _ _ ⟨r, hR, hf.put (den_one _ _) (by rw [hN]; exact hdst), (put_size a _ _).trans hN, (put_defers a _ _).trans hd⟩)
              rw [wanted_some hgd, yielded_of hf hs (get_cons_self d _ f)]; cases pol <;> simp
            · exact h2.elim
        · rename_i vs hfx
          obtain ⟨r, hR, hf, hN, hd⟩ := hg
          have hgu : guardU ops f o = some false := by unfold guardU; rw [hgd]; dsimp only; rw [hs]; dsimp only; rw [hfx]
          have hw := guardU_wanted hf hgu
          split at h
          · rename_i hdst
            exact step_not hw (guardedN_sound l _ S K (putK_iff.1 h) hK _ _ ⟨r, hR, hf.put (den_one _ _) (by rw [hN]; exact hdst), (put_size a _ _).trans hN, (put_defers a _ _).trans hd⟩)
          · exact h.elim
        · exact h.elim
theorem atq_end {fn : Func} {N : Nat} {R : Ending → World → Prop} (h : resK P w0 G S f fn.results.toList fun v => Fin w0 G S v R) : AtQ w0 G ⟨N, []⟩ .normal f S (bodyPostM Fence.wide 10 P fn R) := by
  refine ⟨fun a w ⟨r, hR, hf, hN, hd⟩ => ?_⟩
  obtain ⟨v, u, hK, hdn, hrun⟩ := resK_sound h hR hf
  show LeavesInM _ _ _ _ _ _ a.defers _ _
  rw [show a.defers = [] from hd]
  exact ⟨u, hrun, hK.out r w u hR hdn⟩
end
section
variable (ro : Option Nat) (P : Program) (w0 : World) (G : Gs) (N : Nd)
def vcN : Code → Fr → List Ow → (Exit → Fr → List Ow → Prop) → Prop
  | .skip, f, S, K => K .normal f S
  | .region id ops draw, f, S, K => (match draw with
    | false => guardedN P w0 G N ops ops.toList f S (K .normal)
    | true => Sat ro P w0 G N (.region id ops true) f S K)
  | .seq a b, f, S, K => vcN a f S fun e f' S' => match e with | .normal => vcN b f' S' K | e => K e f' S'
  | .cond c x y, f, S, K => (match f.ev c with
    | .p (.c (.v (.bool t))) => (t = true → vcN x f S K) ∧ (t = false → vcN y f S K)
    | _ => False)
  | .block id body, f, S, K => vcN body f S fun e f' S' => match e with
    | .exit id' => (match Nat.beq id' id with | true => K .normal f' S' | false => K (.exit id') f' S')
    | e => K e f' S'
  | .exit id, f, S, K => K (.exit id) f S
  | .ret, f, S, K => K .ret f S
  | c, f, S, K => Sat ro P w0 G N c f S K
end
section
variable {ro : Option Nat} {P : Program} {w0 : World} {G : Gs} {N : Nd}
theorem vcN_sound : ∀ (c : Code) (f : Fr) (S : List Ow) (K : Exit → Fr → List Ow → Prop), vcN ro P w0 G N c f S K → Sat ro P w0 G N c f S K
  | .skip, f, S, K, h => ⟨fun n a w hg => wpIn_skip ⟨f, S, h, hg⟩⟩
  | .region id ops draw, f, S, K, h => by
    cases draw with
    | false => exact ⟨fun n a w hg => wpIn_region_list (seL_wpIn ro n (guardedN_sound _ f S _ h (fun f' S' a' w' hk hg' => ⟨f', S', hk, hg'⟩) a w hg))⟩
    | true => exact h
  | .seq x y, f, S, K, h => ⟨fun n a w hg => wpIn_seq (wpIn_mono ((vcN_sound x f S _ h).out n a w hg) (fun e a' w' ⟨f', S', hk, hg'⟩ => by
      cases e with
      | normal => exact (vcN_sound y f' S' K hk).out n a' w' hg'
      | exit id => exact ⟨f', S', hk, hg'⟩
      | goto l => exact ⟨f', S', hk, hg'⟩
      | ret => exact ⟨f', S', hk, hg'⟩
      | panic ch => exact ⟨f', S', hk, hg'⟩
      | outgrown => exact ⟨f', S', hk, hg'⟩))⟩
  | .cond c x y, f, S, K, h => ⟨fun n a w hg => by
      unfold vcN at h
      split at h
      · rename_i t ht
        obtain ⟨r, hR, hf, hN, hd⟩ := hg
        have hc := hf.ev c
        rw [ht] at hc
        have hc := den_v hc
        refine wpIn_cond_split hc (fun e => (vcN_sound x f S K (h.1 e)).out n a w ⟨r, hR, hf, hN, hd⟩) (fun e => (vcN_sound y f S K (h.2 e)).out n a w ⟨r, hR, hf, hN, hd⟩)
      · exact h.elim⟩
  | .block id c, f, S, K, h => ⟨fun n a w hg => wpIn_block (wpIn_mono ((vcN_sound c f S _ h).out n a w hg) (fun e a' w' ⟨f', S', hk, hg'⟩ => by
      cases e with
      | exit id' =>
        simp only [Exit.inBlock]
        by_cases hi : id' = id
        · subst hi; simp only [Nat.beq_refl] at hk; rw [if_pos rfl]; exact ⟨f', S', hk, hg'⟩
        · have hb : Nat.beq id' id = false := by
            cases h2 : Nat.beq id' id
            · rfl
            · exact absurd (Nat.eq_of_beq_eq_true h2) hi
          simp only [hb] at hk; rw [if_neg hi]; exact ⟨f', S', hk, hg'⟩
      | normal => exact ⟨f', S', hk, hg'⟩
      | goto l => exact ⟨f', S', hk, hg'⟩
      | ret => exact ⟨f', S', hk, hg'⟩
      | panic ch => exact ⟨f', S', hk, hg'⟩
      | outgrown => exact ⟨f', S', hk, hg'⟩))⟩
  | .loop c, f, S, K, h => h
  | .exit id, f, S, K, h => ⟨fun n a w hg => wpIn_exit ⟨f, S, h, hg⟩⟩
  | .ret, f, S, K, h => ⟨fun n a w hg => wpIn_ret ⟨f, S, h, hg⟩⟩
  | .rangeFunc _ _ _ _, f, S, K, h => h
  | .scope _, f, S, K, h => h
  | .label _, f, S, K, h => h
  | .goto _, f, S, K, h => h
  | .refuse _, f, S, K, h => h
end
section
variable {P : Program} {w0 : World} {G : Gs} {N : Nd} {c d : Code} {f : Fr} {S : List Ow} {Q : Exit → Act → World → Prop}
theorem satq_vcN (h : vcN none P w0 G N c f S fun e f S => AtQ w0 G N e f S Q) : SatQ P w0 G N c f S Q :=
  ⟨fun a w hg => wpIn_mono ((vcN_sound (ro := none) c f S _ h).out 10 a w hg) fun _e a' w' ⟨_f', _S', hk, hg'⟩ => hk.out a' w' hg'⟩
theorem satq_seqN (h : vcN none P w0 G N c f S fun e f S => match e with | .normal => SatQ P w0 G N d f S Q | e => AtQ w0 G N e f S Q) : SatQ P w0 G N (.seq c d) f S Q :=
  ⟨fun a w hg => wpIn_seq (wpIn_mono ((vcN_sound (ro := none) c f S _ h).out 10 a w hg) fun e a' w' ⟨f', S', hk, hg'⟩ => by
    cases e with
    | normal => exact hk.out a' w' hg'
    | exit id => exact hk.out a' w' hg'
    | goto l => exact hk.out a' w' hg'
    | ret => exact hk.out a' w' hg'
    | panic ch => exact hk.out a' w' hg'
    | outgrown => exact hk.out a' w' hg')⟩
end
theorem bodyPost_of {P : Program} {fn : Func} {w0 : World} {G : Gs} {N : Nat} {R : Ending → World → Prop} {e : Exit} {f : Fr} {S : List Ow} (h : RetK P w0 G fn.results.toList R e f S) : AtQ w0 G ⟨N, []⟩ e f S (bodyPostM Fence.wide 10 P fn R) := by
  cases e with
  | normal => exact atq_end h
  | ret => exact atq_ret h
  | exit id => exact h.elim
  | goto l => exact h.elim
  | panic ch => exact h.elim
  | outgrown => exact h.elim
theorem calls_valN {P : Program} {fid : FuncId} {fn : Func} {c : Code} {N : Nat} {w0 : World} (xs : List Value) (hf : P.funcs[fid]? = some fn) (hN : fn.ntmps = N) (hb : fn.body = some c) (hle : xs.length ≤ N) {R : Ending → World → Prop}
    (h : vcN none P w0 Gs.nil ⟨N, []⟩ c (argFr (xs.map fun x => AV.of x) 0) [] (RetK P w0 Gs.nil fn.results.toList R)) : Calls P fid xs.toArray w0 R :=
  calls_satq xs hf hN hb hle ⟨fun a w hg => wpIn_mono ((vcN_sound (ro := none) c _ _ _ h).out 10 a w hg) fun _e a' w' ⟨_f', _S', hk, hg'⟩ => (bodyPost_of hk).out a' w' hg'⟩

/-! What is plain of a frame; calls that turn the world. -/
/-- A call whose result and whose world are known by a fact. -/
structure Jmp (P : Program) (w0 : World) (G : Gs) (fid : FuncId) (args : List AV) (S : List Ow) (K : Value → World → Prop) : Prop where
  ok : fnOk P fid = true
  out : ∀ r w us, Rel w0 G S r w → avdenL r args us → Calls P fid us.toArray w fun e w' => ∃ u, e = .returned u ∧ K u w'
section
variable {P : Program} {w0 : World} {G : Gs} {N : Nd} {c d : Code} {f : Fr} {S : List Ow} {Q : Exit → Act → World → Prop}
/-! A loop over what is known of the world. -/
end
end Go.Proofs.YtnhdcclpjildjaaGreat
namespace Go.Proofs.YtnhdcclpjildjaaGreat
open Go.RowKit

theorem sgn12 (n : Int) : sgnW n 12 = if 2048 ≤ n % 4096 then n % 4096 + 4294963200 else n % 4096 := rfl
set_option maxRecDepth 100000 in
theorem sign_ref (n : Int) (b : Nat) (w : World) (hn : word n) (hb : sbits b) : Calls Tryz.prog 23 #[.int .u32 n, .int .i64 (b : Int)] w fun e w' => e = .returned (.int .u32 (sgnW n b)) ∧ Below w.heap.size w w' := by
  have hn2 := hn
  obtain ⟨h0, h1⟩ := hn
  have key : ∀ (B H : Int), n.tmod B = n % B → (IntKind.u32.wrap (1 * 2 ^ (min (b : Int).toNat IntKind.u32.bits)) = B) → (IntKind.i64.wrap ((b : Int) - 1) = (b : Int) - 1) → (IntKind.u32.wrap (1 * 2 ^ (min ((b : Int) - 1).toNat IntKind.u32.bits)) = H) → (1 ≤ (b : Int) ∧ (b : Int) < 32) → B ≠ 0 →
      (∀ x : Int, x = n % B → sgnW n b = if H ≤ x then IntKind.u32.wrap (x - B) else x) → Calls Tryz.prog 23 #[.int .u32 n, .int .i64 (b : Int)] w fun e w' => e = .returned (.int .u32 (sgnW n b)) ∧ Below w.heap.size w w' := by
    intro B H hm hB hb1 hH hbr hB0 hs
    refine calls_val [.int .u32 n, .int .i64 (b : Int)] Tryz.func23 Tryz.ntmps23 rfl (by simp) ?_
    conv => whnf
    refine ⟨fun hc => absurd hc (by simp; omega), fun _ => ?_⟩
    conv => whnf
    refine ⟨fun hc => absurd hc (by simp; omega), fun _ => ?_⟩
    conv => whnf
    refine ⟨by omega, B, hB, ?_⟩
    conv => whnf
    refine ⟨hB0, n % B, hm, ?_⟩
    conv => whnf
    refine ⟨_, hb1, ?_⟩
    conv => whnf
    refine ⟨by omega, H, hH, ?_⟩
    conv => whnf
    refine ⟨fun hc => ?_, fun hc => ?_⟩
    · conv => whnf
      refine ⟨by omega, B, hB, ?_⟩
      conv => whnf
      refine ⟨_, rfl, ?_⟩
      conv => whnf
      refine fin_val rfl fun w' hB => ⟨?_, hB⟩
      have : H ≤ n % B := by simpa using hc
      rw [hs _ rfl, if_pos this]
    · conv => whnf
      refine fin_val rfl fun w' hB => ⟨?_, hB⟩
      have : ¬ H ≤ n % B := by simpa using hc
      rw [hs _ rfl, if_neg this]
  rcases hb with rfl | rfl | rfl
  · refine key 4096 2048 (Int.tmod_eq_emod_of_nonneg h0) (by decide) (by decide) (by decide) (by omega) (by omega) fun x hx => ?_
    rw [sgn12, ← hx]; split
    · rw [wr32]; omega
    · rfl
  · refine key 262144 131072 (Int.tmod_eq_emod_of_nonneg h0) (by decide) (by decide) (by decide) (by omega) (by omega) fun x hx => ?_
    rw [sgn18, ← hx]; split
    · rw [wr32]; omega
    · rfl
  · refine key 4194304 2097152 (Int.tmod_eq_emod_of_nonneg h0) (by decide) (by decide) (by decide) (by omega) (by omega) fun x hx => ?_
    rw [sgn22, ← hx]; split
    · rw [wr32]; omega
    · rfl
theorem sgnW_w (n : Int) {b : Nat} (hb : sbits b) : word (sgnW n b) := by
  rcases hb with rfl | rfl | rfl
  · rw [sgn12]; unfold word; split <;> omega
  · exact sgnW_word n (.inr (.inl rfl)) (by omega)
  · exact sgnW_word n (.inr (.inr rfl)) (by omega)
theorem fits_ref (n : Int) (b : Nat) (w : World) (hn : word n) (hb : sbits b) : Calls Tryz.prog 92 #[.int .u32 n, .int .i64 (b : Int)] w fun e w' => e = .returned (.bool (decide (sgnW n b = n))) ∧ Below w.heap.size w w' := by
  refine calls_val [.int .u32 n, .int .i64 (b : Int)] Tryz.func92 Tryz.ntmps92 rfl (by simp) ?_
  conv => whnf
  refine call_con rfl (by kernel_rfl) (fun r w' _ => sign_ref n b w' hn hb) ?_
  conv => whnf
  exact fin_val rfl fun w' hB => ⟨rfl, hB⟩
end Go.Proofs.YtnhdcclpjildjaaGreat
namespace Go.Proofs.YtnhdcclpjildjaaGreat
open Go.RowKit

/-- A memory in own entries k and behind, and more. -/
abbrev memL (k n p : Nat) (M : MemP) (T : List Ow) : List Ow :=
  .cells 125 [.sl (k + 1) 0 n (n + M.td.length), .sl (k + 2) 0 n (n + M.ti.length), .sl (k + 3) 0 n (n + M.tod.length), .sl (k + 4) 0 n (n + M.toi.length), .sl (k + 5) 0 p (p + M.tr.length), .v (.bool false)] ::
   .cells 5 (M.dV.map .v) :: .cells 5 (M.iV.map .v) :: .cells 5 (M.odV.map .v) :: .cells 5 (M.oiV.map .v) :: .cells 3 (M.rV.map .v) :: T
theorem memL_sub {n p : Nat} {M : MemP} {T : List Ow} : ∀ (i : Nat) (o : Ow), (memS 0 n p M)[i]? = some o → (memL 0 n p M T)[i]? = some o := sub_append (T := T)
theorem memL_six {n p : Nat} {M : MemP} {T : List Ow} : ∀ (i : Nat), i < 6 → (memL 0 n p M T)[0 + i]? = (memS 0 n p M)[i]? := fun i hi => by
  rw [Nat.zero_add]
  exact List.getElem?_append_left (l₁ := memS 0 n p M) (l₂ := T) hi
theorem grp_memT (g g1 g2 g3 g4 g5 n p : Nat) (M : MemP) (T : List Ow) (hT : sbnd (6 + T.length) T = true) : grpOk ⟨[g, g1, g2, g3, g4, g5], []⟩ (memL 0 n p M T) = true := by
  have hl : (memL 0 n p M T).length = 6 + T.length := by simp; omega
  have hb : ∀ i, i < 6 → Nat.blt i (6 + T.length) = true := fun i hi => by rw [Nat.blt_eq]; omega
  unfold grpOk
  rw [hl, show Nat.ble (Gs.mk [g, g1, g2, g3, g4, g5] []).fix.length (6 + T.length) = true from Nat.ble_eq_true_of_le (by show 6 ≤ _; omega)]
  show sbnd (6 + T.length) (memL 0 n p M T) = true
  simp only [sbnd, Ow.bnd, bndL_vals, bndL, CV.bnd, Nat.zero_add, hb 1 (by omega), hb 2 (by omega), hb 3 (by omega), hb 4 (by omega), hb 5 (by omega)]
  exact hT
def valV (v at_ : Int) (ok : Bool) : Value := .agg #[.int .u32 v, .int .u32 at_, .bool ok]
/-- The first of k addresses from a + i on that lacks a right. -/
def MemP.bad (M : MemP) (a r : Int) : Nat → Nat → Option Int
  | _, 0 => none
  | i, k + 1 => if M.right ((a + i) % 4294967296) r = true then M.bad a r (i + 1) k else some ((a + i) % 4294967296)
def checkV (x : Option Int) : Value := match x with | none => valV 0 0 true | some y => valV 0 y false
theorem bad_step (M : MemP) (a r : Int) {i m : Nat} (h : i < m) : M.bad a r i (m - i) = if M.right ((a + i) % 4294967296) r = true then M.bad a r (i + 1) (m - (i + 1)) else some ((a + i) % 4294967296) := by
  obtain ⟨k, hk⟩ : ∃ k, m - i = k + 1 := ⟨m - i - 1, by omega⟩
  rw [hk, show m - (i + 1) = k by omega]; rfl
set_option maxRecDepth 100000 in
theorem mem_check (M : MemP) (n p : Nat) (a r : Int) (m : Nat) (w : World) (g : Nat) (gs : List Nat) (hU : ObjsAt w (g :: gs) (memS 0 n p M)) (hM : M.ok n p) (_ha : word a) (hr : r = 1 ∨ r = 2 ∨ r = 4) (hm : 1 ≤ m ∧ m ≤ 4) :
    Calls Tryz.prog 84 #[.pointer (some ⟨g, 0, none⟩), .int .u32 a, .int .i64 (m : Int), .int .i64 r] w fun e w' => e = .returned (checkV (M.bad a r 0 m)) ∧ ObjsAt w' (g :: gs) (memS 0 n p M) ∧ GrownBys w w' (g :: gs) := by
  obtain ⟨g0, g1, g2, g3, g4, g5, hg⟩ := six_blocks hU
  injection hg with hg0 hgs
  subst hgs; subst hg0
  refine calls_objs [.p (.c (.ref 0 0)), one (.int .u32 a), one (.int .i64 (m : Int)), one (.int .i64 r)] [.pointer (some ⟨g, 0, none⟩), .int .u32 a, .int .i64 (m : Int), .int .i64 r] Tryz.func84 Tryz.ntmps84 rfl (by simp) hU ⟨_, _, rfl, den_mk_ref rfl, avdenL_of [.int .u32 a, .int .i64 (m : Int), .int .i64 r]⟩ ?_
  conv => whnf
  refine ⟨decide ((m : Int) > 4), fun _ => ?_, ?_⟩
  · conv => whnf
    exact ⟨rfl, rfl, rfl, rfl, grp_memT g g1 g2 g3 g4 g5 n p M [.cells 120 [.v (.int .u32 0), .v (.int .u32 0), .v (.bool false)]] rfl⟩
  conv => whnf
  refine ⟨fun hc => absurd hc (by simp [cmb]; omega), fun _ => ?_⟩
  conv => whnf
  refine ⟨{ i : Nat // i ≤ m ∧ M.bad a r 0 m = M.bad a r i (m - i) }, fun x => [(0, .p (.c (.ref 0 0))), (1, one (.int .u32 a)), (2, one (.int .i64 (m : Int))), (3, one (.int .i64 r)), (8, .p (.c (.ref 6 0))), (9, one (.int .i64 (x.1 : Int)))], fun x => memL 0 n p M [.cells 120 [.v (.int .u32 0), .v (.int .u32 0), .v (.bool false)]], fun x => m - x.1,
    ⟨⟨0, by omega, rfl⟩, ent_same rfl (aI rfl (aI rfl (aI rfl (aI rfl (aI rfl (aI rfl trivial)))))) (aI ((aI rfl (Or.inl rfl))) (aI ((aI rfl (Or.inl rfl))) (aI ((aI rfl (Or.inl rfl))) (aI ((aI rfl (Or.inl rfl))) (aI ((aI rfl (Or.inl rfl))) (aI ((aI rfl (Or.inl rfl))) (aI ((aI rfl (Or.inl rfl))) trivial)))))))⟩, fun x => ?_⟩
  obtain ⟨i, hi, hbad⟩ := x
  dsimp only
  conv => whnf
  refine ⟨fun hc => ?_, fun hc => ?_⟩
  · have hlt : i < m := by simpa using hc
    rw [bad_step M a r hlt] at hbad
    conv => whnf
    refine ⟨(i : Int), by rw [wr32]; omega, ?_⟩
    conv => whnf
    refine ⟨(a + i) % 4294967296, wr32 _, ?_⟩
    conv => whnf
    refine call_memR (pre := []) (suf := [one (.int .u32 ((a + i) % 4294967296)), one (.int .i64 r)]) 0 n p M (.bool (M.right ((a + i) % 4294967296) r)) memL_six rfl rfl (by kernel_rfl) (fun w' g gs hk hU => mem_right M n p _ r w' g gs hU hM (by unfold word; omega) hr) ?_
    conv => whnf
    refine ⟨fun hb => ?_, fun hb => ?_⟩
    · have hb' : M.right ((a + i) % 4294967296) r = false := by simpa using hb
      rw [hb', if_neg (by decide)] at hbad
      conv => whnf
      refine ⟨(i : Int), by rw [wr32]; omega, ?_⟩
      conv => whnf
      refine ⟨(a + i) % 4294967296, wr32 _, ?_⟩
      conv => whnf
      refine ⟨_, _, ent_refl, ?_⟩
      conv => whnf
      exact fin_objs rfl rfl memL_sub (memS_ob n p M) fun w' h1 h2 => ⟨by rw [hbad]; rfl, h1, h2⟩
    · have hb' : M.right ((a + i) % 4294967296) r = true := by simpa using hb
      rw [if_pos hb'] at hbad
      conv => whnf
      refine ⟨_, wr64 (by omega), ?_⟩
      conv => whnf
      exact ⟨⟨i + 1, by omega, hbad⟩, ent_same rfl (aI rfl (aI rfl (aI rfl (aI rfl (aI rfl (aI rfl trivial)))))) (aI ((aI rfl (Or.inl rfl))) (aI ((aI rfl (Or.inl rfl))) (aI ((aI rfl (Or.inl rfl))) (aI ((aI rfl (Or.inl rfl))) (aI ((aI rfl (Or.inl rfl))) (aI ((aI rfl (Or.inl rfl))) (aI ((aI rfl (Or.inl rfl))) trivial))))))), by show m - (i + 1) < m - i; omega⟩
  · have hie : i = m := by simp at hc; omega
    subst hie
    rw [Nat.sub_self] at hbad
    conv => whnf
    refine ⟨_, _, ent_refl, ?_⟩
    conv => whnf
    exact fin_objs rfl rfl memL_sub (memS_ob n p M) fun w' h1 h2 => ⟨by rw [hbad]; rfl, h1, h2⟩
end Go.Proofs.YtnhdcclpjildjaaGreat
