/- The quiet operations: what the law says of them holds. One operation, over states that are known part by part. One operation's law holds; lists of operations, regions. Two operations compared by ==, !=. -/
import Derived.RangeFuncNested
import Derived.RangeFuncCalls
import Derived.ControlIn
import Derived.TacticsIn
import Derived.ChangeKeysEq
import Derived.Test.YtmjfgnnefcimiaaM1
import Derived.Test.YtmjfgnnefcimiaaM14
import Derived.Test.YtmjfgnnefcimiaaM3
import Derived.Test.YtmjfgnnefcimiaaM5
import Derived.Test.YtmjfgnnefcimiaaM6
import Derived.Test.YtmjfgnnefcimiaaM7
namespace Go.Proofs.Ytmjfgnnefcimiaa
open Go.RowKit

theorem QRun.use {P : Program} {w0 : World} {G : Gs} {S : List Ow} {f : Fr} {o : Oper} {K : AV → Prop} (h : QRun P w0 G S f o K) {r : Env} {w1 : World} (hR : Rel w0 G S r w1) {a : Act} (hf : FDen r f a) :
    ∃ v u, K v ∧ v.den r u ∧ ∀ w : World, Below w1.heap.size w1 w → (execOp a.eval o).run P w = .ok (.value u) w := by
  obtain ⟨v, hK, hr⟩ := h.out
  obtain ⟨u, hd, hrun⟩ := hr r a hf
  exact ⟨v, u, hK, hd, fun w hw => hrun w (hR.below hw)⟩
section
variable {r : Env} {u : Value}
theorem den_v {x : Value} (h : AV.den r (one x) u) : u = x := by simpa only [AV.den, Pc.den, CV.den] using h
theorem den_one (r : Env) (x : Value) : AV.den r (one x) x := by simp only [AV.den, Pc.den, CV.den]
theorem den_ref {i off : Nat} (h : AV.den r (.p (.c (.ref i off))) u) : ∃ b, r.blk i = some b ∧ u = .pointer (some ⟨b, off, none⟩) := by simpa only [AV.den, Pc.den, CV.den] using h
theorem den_mk_ref {i off b : Nat} (h : r.blk i = some b) : AV.den r (.p (.c (.ref i off))) (.pointer (some ⟨b, off, none⟩)) := by simp only [AV.den, Pc.den, CV.den]; exact ⟨b, h, rfl⟩
theorem den_agg {l : List CV} (h : AV.den r (.p (.agg l)) u) : ∃ us : List Value, u = .agg us.toArray ∧ denL r l us := h
theorem den_clo {fn : Fn} {cap : List CV} (h : AV.den r (.p (.c (.clo fn cap))) u) : ∃ us : List Value, u = .func fn #[] us.toArray ∧ denL r cap us := by simpa only [AV.den, Pc.den, CV.den] using h
end
theorem pdenL_at {r : Env} : ∀ {l : List Pc} {us : List Value} {k : Nat} {c : Pc}, pdenL r l us → l[k]? = some c → ∃ u, us[k]? = some u ∧ c.den r u
  | [], us, k, c, hd, h => by simp at h
  | a :: l, us, 0, c, hd, h => by
    obtain ⟨u, l', hu, hc, hl⟩ := hd; subst hu
    simp at h; subst h; exact ⟨u, by simp, hc⟩
  | a :: l, us, k + 1, c, hd, h => by
    obtain ⟨u, l', hu, hc, hl⟩ := hd; subst hu
    simpa using pdenL_at hl (by simpa using h)
theorem tsz_sizeOf {P : Program} {e : TypeId} {i : TypeInfo} (h : P.info? e = some i) : tsz P e = i.size := by simp [tsz, h]
theorem run_indexAt_slice {P : Program} {t e : TypeId} (ht : P.underlying t = some (.slice e)) {i : TypeInfo} (hi : P.info? e = some i) {b off n c : Nat} {q : IntKind} {k : Int} (h0 : 0 ≤ k) (h1 : k < (n : Int)) (w : World) :
    (Instr.indexAt t (.slice (some ⟨b, off, none⟩) n c) (.int q k)).run P w = .ok (.pointer (some ⟨b, off + k.toNat * i.size, none⟩)) w := by
  simp [Instr.indexAt, asIntOf, underlying, ht, h0, h1, run_sizeOf P e w hi, addr_add]
theorem run_indexAt_array {P : Program} {t e : TypeId} {n : Nat} (ht : P.underlying t = some (.array n e)) {i : TypeInfo} (hi : P.info? e = some i) {b off : Nat} {q : IntKind} {k : Int} (h0 : 0 ≤ k) (h1 : k < (n : Int)) (w : World) :
    (Instr.indexAt t (.pointer (some ⟨b, off, none⟩)) (.int q k)).run P w = .ok (.pointer (some ⟨b, off + k.toNat * i.size, none⟩)) w := by
  simp [Instr.indexAt, asIntOf, Instr.sureAddr, underlying, ht, h0, h1, run_sizeOf P e w hi, addr_add]

/-- Whether the types that the operation's law speaks of are known. -/
def opTy (P : Program) : Op → Bool
  | .indexAddr t _ _ => (match P.underlying t with | some (.slice e) => (P.info? e).isSome | some (.array _ e) => (P.info? e).isSome | _ => true)
  | .index t _ _ => (match P.underlying t with | some (.array _ e) => (P.info? e).isSome | _ => true)
  | _ => true

set_option maxHeartbeats 1000000 in
theorem qop_sound {P : Program} {w0 : World} {G : Gs} {S : List Ow} {f : Fr} {o : Oper} {K : AV → Prop} (h : qop P w0 G S f o K) (hty : opTy P o.op = true) {r : Env} {w1 : World} (hR : Rel w0 G S r w1) {a : Act} (hf : FDen r f a) :
    ∃ v u, K v ∧ v.den r u ∧ ∀ w : World, Below w1.heap.size w1 w → (execOp a.eval o).run P w = .ok (.value u) w := by
  unfold qop at h
  split at h
  · -- move
    rename_i x hop
    have hx := hf.ev x
    refine ⟨f.ev x, a.eval x, ?_, hx, fun w _ => by simp [execOp, hop]⟩
    split at h <;> (rename_i he; rw [he]; exact h)
  · rename_i x hop
    have hx := hf.ev x
    refine ⟨f.ev x, a.eval x, ?_, hx, fun w _ => by simp [execOp, hop]⟩
    split at h <;> (rename_i he; rw [he]; exact h)
  · -- pick
    rename_i c x y hop
    have hc := hf.ev c
    have hx := hf.ev x
    have hy := hf.ev y
    split at h
    · rename_i b eb
      rw [eb] at hc
      have e1 := den_v hc
      have hrun : ∀ w : World, (execOp a.eval o).run P w = .ok (.value (if b then a.eval x else a.eval y)) w := fun w => by simp [execOp, hop, e1, asBool]
      split at h
      · rename_i p ep
        rw [ep] at hx
        have e2 := den_v hx
        split at h
        · rename_i q eq
          rw [eq] at hy
          have e3 := den_v hy
          refine ⟨_, _, h, den_one r _, fun w _ => ?_⟩
          rw [hrun w, e2, e3]
          cases b <;> rfl
        · cases b with
          | true => exact ⟨_, _, h, den_one r _, fun w _ => by rw [hrun w, e2]; rfl⟩
          | false => exact ⟨_, _, h, hy, fun w _ => by rw [hrun w]; rfl⟩
      · cases b with
        | true => exact ⟨_, _, h, hx, fun w _ => by rw [hrun w]; rfl⟩
        | false => exact ⟨_, _, h, hy, fun w _ => by rw [hrun w]; rfl⟩
    · exact h.elim
  · -- load
    rename_i t x hop
    obtain ⟨v, u, hK, hd, hrun⟩ := loadK_sound h hR (hf.ev x)
    exact ⟨v, u, hK, hd, fun w hw => by simp [execOp, hop, hrun w hw]⟩
  · -- nilCheck
    rename_i x hop
    have hx := hf.ev x
    split at h
    · rename_i i off he
      rw [he] at hx
      refine ⟨_, _, h, hx, fun w _ => ?_⟩
      obtain ⟨b, hb, hu⟩ := den_ref hx
      simp [execOp, hop, hu]
    · rename_i fn cap he
      rw [he] at hx
      refine ⟨_, _, h, hx, fun w _ => ?_⟩
      obtain ⟨us, hu, _⟩ := den_clo hx
      simp [execOp, hop, hu]
    · rename_i p he
      rw [he] at hx
      refine ⟨_, _, h, hx, fun w _ => ?_⟩
      have hu := den_v hx
      simp [execOp, hop, hu]
    · exact QRun.use h hR hf
  · -- binOp
    rename_i op t x y t' hop
    have hx := hf.ev x
    have hy := hf.ev y
    split at h
    · rename_i k p ep
      rw [ep] at hx
      have e1 := den_v hx
      split at h
      · rename_i k' q eq
        rw [eq] at hy
        have e2 := den_v hy
        have hg : ∀ w : World, (eqGuard op t x y (.int k p) (.int k' q)).run P w = .ok () w := fun w => by
          unfold eqGuard; cases op <;> simp
        split at h
        · obtain ⟨u, hK, hrun⟩ := shiftK_sound (P := P) (t := t) (k' := k') h
          exact ⟨_, u, hK, den_one r u, fun w _ => by simp [execOp, hop, e1, e2, hg w, hrun w]⟩
        · obtain ⟨u, hK, hrun⟩ := shiftK_sound (P := P) (t := t) (k' := k') h
          exact ⟨_, u, hK, den_one r u, fun w _ => by simp [execOp, hop, e1, e2, hg w, hrun w]⟩
        · split at h
          · rename_i hk
            have hk := of_decide_eq_true hk
            subst hk
            obtain ⟨u, hK, hrun⟩ := binK_sound (P := P) (t := t) h
            exact ⟨_, u, hK, den_one r u, fun w _ => by simp [execOp, hop, e1, e2, hg w, hrun w]⟩
          · exact h.elim
      · exact QRun.use h hR hf
    · exact QRun.use h hR hf
  · -- unOp
    rename_i op t x hop
    have hx := hf.ev x
    split at h
    · rename_i p ep
      rw [ep] at hx
      have e1 := den_v hx
      exact ⟨_, _, h, den_one r _, fun w _ => by simp [execOp, hop, e1, Op.unary]⟩
    · exact QRun.use h hR hf
  · -- convert
    rename_i src dst x hop
    have hx := hf.ev x
    split at h
    · rename_i k n ep
      rw [ep] at hx
      have e1 := den_v hx
      split at h
      · rename_i q0 hq0
        split at h
        · rename_i q hq
          obtain ⟨m, hm, hK⟩ := h
          exact ⟨_, _, hK, den_one r _, fun w _ => by simp [execOp, hop, e1, convert, underlying, hq0, hq, Conv.intToInt, hm]⟩
        · exact QRun.use h hR hf
      · exact QRun.use h hR hf
    · exact QRun.use h hR hf
  · -- fieldAddr
    rename_i s x k hop
    have hx := hf.ev x
    split at h
    · rename_i i off he
      rw [he] at hx
      obtain ⟨b, hb, hu⟩ := den_ref hx
      split at h
      · rename_i n hn
        exact ⟨_, _, h, den_mk_ref hb, fun w _ => by simp [execOp, hop, hu, run_fieldAt hn]⟩
      · exact h.elim
    · rename_i b off he
      rw [he] at hx
      have hu := den_v hx
      split at h
      · rename_i n hn
        exact ⟨_, _, h, den_one r _, fun w _ => by simp [execOp, hop, hu, run_fieldAt hn]⟩
      · exact h.elim
    · exact h.elim
  · -- field
    rename_i t x k hop
    have hx := hf.ev x
    split at h
    · rename_i l he
      rw [he] at hx
      obtain ⟨us, hu, hl⟩ := den_agg hx
      unfold fldK at h
      split at h
      · rename_i fs hs
        split at h
        · rename_i fl hfl
          obtain ⟨v, u, hK, hd, hrun⟩ := run_part h hl
          exact ⟨v, u, hK, hd, fun w _ => by simp [execOp, hop, hu, Instr.field, underlying, hs, hfl, asAgg, hrun w]⟩
        · exact h.elim
      · exact h.elim
    · exact h.elim
  · -- extract
    rename_i x k hop
    have hx := hf.ev x
    split at h
    · rename_i l he
      rw [he] at hx
      obtain ⟨us, hu, hl⟩ := hx
      split at h
      · rename_i p hp
        obtain ⟨u, h1, h2⟩ := pdenL_at hl hp
        exact ⟨_, u, h, h2, fun w _ => by simp [execOp, hop, hu, Instr.extract, h1]⟩
      · exact h.elim
    · exact h.elim
  · -- build
    rename_i t parts hop
    obtain ⟨v, u, hK, hd, hrun⟩ := buildK_sound hR hf h
    exact ⟨v, u, hK, hd, fun w _ => by simp only [execOp, hop, Sem.run_bind, hrun w, Result.andThen_ok, Sem.run_pure]⟩
  · -- makeFunc
    rename_i fn first cap hop
    split at h
    · rename_i hfirst
      have ef : first = #[] := Array.ext' hfirst
      split at h
      · rename_i hcap
        have ec : cap = #[] := Array.ext' hcap
        exact ⟨_, .func (.func fn) #[] #[], h, by simp [AV.den, Pc.den, CV.den, denL], fun w _ => by simp [execOp, hop, Instr.makeFunc, ef, ec]⟩
      · rename_i x hcap
        have ec : cap = #[x] := Array.ext' hcap
        have hx := hf.ev x
        split at h
        · rename_i c he
          rw [he] at hx
          refine ⟨_, .func (.func fn) #[] #[a.eval x], h, ?_, fun w _ => by simp [execOp, hop, Instr.makeFunc, ef, ec]⟩
          simp only [AV.den, Pc.den, CV.den, denL]
          exact ⟨[a.eval x], rfl, _, _, rfl, hx, rfl⟩
        · exact h.elim
      · exact QRun.use h hR hf
    · exact QRun.use h hR hf
  · -- indexAddr
    rename_i t x ix hop
    rw [hop] at hty
    have hx := hf.ev x
    have hi := hf.ev ix
    split at h
    · rename_i b off n c he
      rw [he] at hx
      have hu := den_v hx
      split at h
      · rename_i q k hk
        rw [hk] at hi
        have hu2 := den_v hi
        split at h
        · rename_i e ht
          simp only [opTy, ht] at hty
          obtain ⟨i, hie⟩ := Option.isSome_iff_exists.1 hty
          obtain ⟨⟨h0, h1⟩, hK⟩ := h
          refine ⟨_, _, hK, den_one r _, fun w _ => ?_⟩
          simp only [execOp, hop, hu, hu2, Sem.run_bind, run_indexAt_slice ht hie h0 h1, Result.andThen_ok, Sem.run_pure, tsz_sizeOf hie]
        · exact h.elim
      · exact h.elim
    · rename_i i he
      rw [he] at hx
      split at h
      · rename_i q k hk
        rw [hk] at hi
        have hu2 := den_v hi
        split at h
        · rename_i e ht
          simp only [opTy, ht] at hty
          obtain ⟨i', hie⟩ := Option.isSome_iff_exists.1 hty
          split at h
          · rename_i e' size n xs hS
            obtain ⟨⟨h0, h1⟩, hK⟩ := h
            obtain ⟨v, hv1, hv2, hv3⟩ := hR.own i _ hS
            have hux : r.val i = some (a.eval x) := by simpa only [AV.den, Pc.den, CV.den] using hx
            rw [hux] at hv1; injection hv1 with hv1
            rcases hv3.2 with ⟨hn, hz⟩ | ⟨g, cap, cur, hv, _⟩
            · omega
            · rw [← hv1] at hv hv2
              have hb : r.blk i = some g := by rw [← hv2, hv]; rfl
              refine ⟨_, _, hK, den_mk_ref hb, fun w _ => ?_⟩
              simp only [execOp, hop, hv, hu2, Sem.run_bind, run_indexAt_slice ht hie h0 h1, Result.andThen_ok, Sem.run_pure, tsz_sizeOf hie, Nat.zero_add]
          · rename_i n xs hS
            obtain ⟨⟨h0, h1, hpos⟩, hK⟩ := h
            obtain ⟨A, c, hv1, hv2, hv3, hv4, hv5⟩ := hR.own i _ hS
            have hux : r.val i = some (a.eval x) := by simpa only [AV.den, Pc.den, CV.den] using hx
            obtain ⟨b, off, hA, _⟩ := hv5 0 xs[0] (by simp [hpos])
            subst hA
            rw [hux] at hv1; injection hv1 with hv1
            refine ⟨_, .pointer (some ⟨b, off + k.toNat * i'.size, none⟩), hK, ?_, fun w _ => ?_⟩
            · simp only [AV.den, Pc.den, CV.den]
              exact ⟨b, off, n, c, by rw [hux, hv1], by rw [tsz_sizeOf hie]⟩
            · simp only [execOp, hop, hv1, hu2, Sem.run_bind, run_indexAt_slice ht hie h0 h1, Result.andThen_ok, Sem.run_pure]
          · exact h.elim
        · exact h.elim
      · exact h.elim
    · rename_i i off n c he
      rw [he] at hx
      have hux : ∃ b, r.blk i = some b ∧ a.eval x = .slice (some ⟨b, off, none⟩) n c := by simpa only [AV.den, Pc.den, CV.den] using hx
      obtain ⟨b, hb, hu⟩ := hux
      split at h
      · rename_i q k hk
        rw [hk] at hi
        have hu2 := den_v hi
        split at h
        · rename_i e ht
          simp only [opTy, ht] at hty
          obtain ⟨i', hie⟩ := Option.isSome_iff_exists.1 hty
          obtain ⟨⟨h0, h1⟩, hK⟩ := h
          refine ⟨_, _, hK, den_mk_ref hb, fun w _ => ?_⟩
          simp only [execOp, hop, hu, hu2, Sem.run_bind, run_indexAt_slice ht hie h0 h1, Result.andThen_ok, Sem.run_pure, tsz_sizeOf hie]
        · exact h.elim
      · exact h.elim
    · rename_i i off he
      rw [he] at hx
      obtain ⟨b, hb, hu⟩ := den_ref hx
      split at h
      · rename_i q k hk
        rw [hk] at hi
        have hu2 := den_v hi
        split at h
        · rename_i n e ht
          simp only [opTy, ht] at hty
          obtain ⟨i', hie⟩ := Option.isSome_iff_exists.1 hty
          obtain ⟨⟨h0, h1⟩, hK⟩ := h
          refine ⟨_, _, hK, den_mk_ref hb, fun w _ => ?_⟩
          simp only [execOp, hop, hu, hu2, Sem.run_bind, run_indexAt_array ht hie h0 h1, Result.andThen_ok, Sem.run_pure, tsz_sizeOf hie]
        · exact h.elim
      · exact h.elim
    · exact QRun.use h hR hf
  · -- index
    rename_i t x ix hop
    rw [hop] at hty
    have hx := hf.ev x
    have hi := hf.ev ix
    split at h
    · rename_i l he
      rw [he] at hx
      obtain ⟨us, hu, hl⟩ := den_agg hx
      split at h
      · rename_i q k hk
        rw [hk] at hi
        have hu2 := den_v hi
        split at h
        · rename_i n e ht
          simp only [opTy, ht] at hty
          obtain ⟨i', hie⟩ := Option.isSome_iff_exists.1 hty
          obtain ⟨⟨h0, h1⟩, hK⟩ := h
          obtain ⟨v, u, hK', hd, hrun⟩ := run_part hK hl
          refine ⟨v, u, hK', hd, fun w _ => ?_⟩
          have e3 := hrun w
          rw [tsz_sizeOf hie] at e3
          simp [execOp, hop, hu, hu2, Instr.index, asIntOf, underlying, ht, h0, h1, run_sizeOf P e w hie, e3]
        · exact h.elim
      · exact h.elim
    · exact QRun.use h hR hf
  · -- len
    rename_i args tys hop
    split at h
    · rename_i x hargs
      have ea : args = #[x] := Array.ext' hargs
      split at h
      · rename_i t htys
        have et : tys = #[t] := Array.ext' htys
        split at h
        · rename_i e ht
          have hx := hf.ev x
          split at h
          · rename_i A n c he
            rw [he] at hx
            have hu := den_v hx
            exact ⟨_, _, h, den_one r _, fun w _ => by simp [execOp, hop, ea, et, resolve, invoke, builtin, Builtin.len_, underlying, ht, hu, goInt]⟩
          · rename_i i off n c he
            rw [he] at hx
            have hux : ∃ b, r.blk i = some b ∧ a.eval x = .slice (some ⟨b, off, none⟩) n c := by simpa only [AV.den, Pc.den, CV.den] using hx
            obtain ⟨b, hb, hu⟩ := hux
            exact ⟨_, _, h, den_one r _, fun w _ => by simp [execOp, hop, ea, et, resolve, invoke, builtin, Builtin.len_, underlying, ht, hu, goInt]⟩
          · rename_i i he
            rw [he] at hx
            split at h
            · rename_i e' size n xs hS
              obtain ⟨v, hv1, hv2, hv3⟩ := hR.own i _ hS
              have hux : r.val i = some (a.eval x) := by simpa only [AV.den, Pc.den, CV.den] using hx
              rw [hux] at hv1; injection hv1 with hv1
              obtain ⟨A, c, hv⟩ := row_slice hv3
              rw [← hv1] at hv
              exact ⟨_, _, h, den_one r _, fun w _ => by simp [execOp, hop, ea, et, resolve, invoke, builtin, Builtin.len_, underlying, ht, hv, goInt]⟩
            · rename_i n xs hS
              obtain ⟨A, c, hv1, _⟩ := hR.own i _ hS
              have hux : r.val i = some (a.eval x) := by simpa only [AV.den, Pc.den, CV.den] using hx
              rw [hux] at hv1; injection hv1 with hv1
              exact ⟨_, _, h, den_one r _, fun w _ => by simp [execOp, hop, ea, et, resolve, invoke, builtin, Builtin.len_, underlying, ht, hv1, goInt]⟩
            · exact h.elim
          · exact h.elim
        · exact QRun.use h hR hf
      · exact h.elim
    · exact h.elim
  · exact QRun.use h hR hf
end Go.Proofs.Ytmjfgnnefcimiaa
namespace Go.Proofs.Ytmjfgnnefcimiaa
open Go.RowKit

/-- Where code runs: in a function's own frame, or in a round of a loop over an iterator. -/
def fenceR : Option Nat → Fence
  | none => Fence.wide
  | some l => Fence.wide.inRound l
theorem fenceR_fn (ro : Option Nat) (f : FuncId) : (fenceR ro).fn f := by cases ro <;> trivial
theorem fenceR_depth (ro : Option Nat) : (fenceR ro).depth = none := by cases ro <;> rfl
theorem calls_fence {P : Program} {f : FuncId} {args : Array Value} {w : World} {R : Ending → World → Prop} (ro : Option Nat) (n : Nat) (h : Calls P f args w R) : CallsIn (fenceR ro) n P f args w R := by
  cases ro with
  | none => exact callsIn_wide.2 h
  | some l => exact CallsIn.inRound l (callsIn_wide.2 h)
/-- What is asked once an operation, carried out, has yielded this. -/
def OpRes (P : Program) (o : Oper) (a : Act) (next : Act → World → Prop) : Result Next → Prop
  | .ok (.value v) w' => next (a.put o.dst v) w'
  | .ok .skip w' => next (a.put o.dst undef) w'
  | .ok (.enter f args) w' => Calls P f args w' fun e w'' => ∃ u, e = .returned u ∧ next (a.put o.dst u) w''
  | _ => False
def Oper.se (P : Program) (o : Oper) (a : Act) (w : World) (next : Act → World → Prop) : Prop := OpRes P o a next ((execOp a.eval o).run P w)
def seL (P : Program) (ops : Array Oper) (Q : Act → World → Prop) : List Oper → Act → World → Prop
  | [], a, w => Q a w
  | o :: rest, a, w => if Region.wanted o (yielded ops a.tmps) then Oper.se P o a w (seL P ops Q rest) else seL P ops Q rest (a.put o.dst undef) w
theorem se_wp {P : Program} {o : Oper} {a : Act} {w : World} {next next' : Act → World → Prop} {Q : Exit → Act → World → Prop} (h : Oper.se P o a w next) (hn : ∀ a w, next a w → next' a w) : o.wp P a w next' Q := by
  unfold Oper.se at h
  unfold Oper.wp
  generalize (execOp a.eval o).run P w = r at h ⊢
  cases r with
  | halt x w' => exact h.elim
  | ok x w' =>
    cases x <;> first | exact (h : False).elim | exact hn _ _ h | skip
    exact Calls.mono h fun e w'' ⟨u, he, hk⟩ => by subst he; exact hn _ _ hk
theorem se_wpIn {P : Program} {o : Oper} {a : Act} {w : World} {next next' : Act → World → Prop} {Q : Exit → Act → World → Prop} (ro : Option Nat) (n : Nat) (h : Oper.se P o a w next) (hn : ∀ a w, next a w → next' a w) : o.wpIn (fenceR ro) n P a w next' Q := by
  refine ⟨fun f _ => fenceR_fn ro f, ?_⟩
  have hdef : ∀ c, o.op ≠ .defer c := fun c hc => by
    unfold Oper.se at h
    simp only [execOp, hc, Sem.run_bind] at h
    cases hr : (resolve a.eval c o.type).run P w with
    | halt x w' => rw [hr] at h; exact h
    | ok x w' => rw [hr] at h; exact h
  rw [Oper.semAt_eq _ _ _ hdef]
  unfold Oper.se at h
  generalize (execOp a.eval o).run P w = r at h ⊢
  cases r with
  | halt x w' => exact h.elim
  | ok x w' =>
    cases x <;> first | exact (h : False).elim | exact hn _ _ h | skip
    refine ⟨fun hd => by rw [fenceR_depth] at hd; simp at hd, ?_⟩
    exact (calls_fence ro (n - 1) h).mono fun e w'' ⟨u, he, hk⟩ => by subst he; exact hn _ _ hk
theorem seL_wp {P : Program} {ops : Array Oper} {Q : Exit → Act → World → Prop} : ∀ {l : List Oper} {a : Act} {w : World}, seL P ops (Q .normal) l a w → wpList P ops Q l a w
  | [], a, w, h => h
  | o :: l, a, w, h => by
    unfold seL at h
    unfold wpList
    split at h
    · rename_i hw; rw [if_pos hw]; exact .inl (se_wp h fun a w h => seL_wp h)
    · rename_i hw; rw [if_neg hw]; exact seL_wp h
theorem seL_wpIn {P : Program} {ops : Array Oper} {Q : Exit → Act → World → Prop} (ro : Option Nat) (n : Nat) : ∀ {l : List Oper} {a : Act} {w : World}, seL P ops (Q .normal) l a w → wpListIn (fenceR ro) n P ops Q l a w
  | [], a, w, h => h
  | o :: l, a, w, h => by
    unfold seL at h
    unfold wpListIn
    split at h
    · rename_i hw; rw [if_pos hw]; exact se_wpIn ro n h fun a w h => seL_wpIn ro n h
    · rename_i hw; rw [if_neg hw]; exact ⟨fun f _ => fenceR_fn ro f, seL_wpIn ro n h⟩
theorem wp_of_value {P : Program} {o : Oper} {a : Act} {w w' : World} {u : Value} {next : Act → World → Prop} (hrun : (execOp a.eval o).run P w = .ok (.value u) w') (h : next (a.put o.dst u) w') : Oper.se P o a w next := by
  unfold Oper.se; rw [hrun]; exact h
theorem wp_of_skip {P : Program} {o : Oper} {a : Act} {w w' : World} {next : Act → World → Prop} (hrun : (execOp a.eval o).run P w = .ok .skip w') (h : next (a.put o.dst undef) w') : Oper.se P o a w next := by
  unfold Oper.se; rw [hrun]; exact h
theorem wp_of_enter {P : Program} {o : Oper} {a : Act} {w w' : World} {fn : FuncId} {args : Array Value} {next : Act → World → Prop} (hrun : (execOp a.eval o).run P w = .ok (.enter fn args) w')
    (h : Calls P fn args w' fun e w'' => ∃ u, e = .returned u ∧ next (a.put o.dst u) w'') : Oper.se P o a w next := by
  unfold Oper.se; rw [hrun]; exact h

/-- The slot put, written out. -/
def Fr.putK (f : Fr) (dst : Option Tmp) (x : AV) (K : Fr → Prop) : Prop := match dst with | some d => K ((d, x) :: f) | none => K f
theorem putK_iff {f : Fr} {dst : Option Tmp} {x : AV} {K : Fr → Prop} : Fr.putK f dst x K ↔ K (f.put dst x) := by unfold Fr.putK Fr.put; split <;> rfl
def lenK {α : Type} : List α → (Nat → Prop) → Prop
  | [], K => K 0
  | _ :: l, K => lenK l fun n => K (n + 1)
theorem lenK_iff {α : Type} : ∀ {l : List α} {K : Nat → Prop}, lenK l K ↔ K l.length
  | [], _ => Iff.rfl
  | _ :: l, _K => lenK_iff (l := l)
def forceAV (x : AV) (K : AV → Prop) : Prop := match x with
  | .p (.c c) => K (.p (.c c))
  | .p (.agg l) => K (.p (.agg l))
  | .tup l => K (.tup l)
theorem forceAV_iff {x : AV} {K : AV → Prop} : forceAV x K ↔ K x := by unfold forceAV; split <;> rfl
def evL (f : Fr) : List Operand → (List AV → Prop) → Prop
  | [], K => K []
  | x :: l, K => forceAV (f.ev x) fun v => evL f l fun vs => K (v :: vs)
theorem evL_iff {f : Fr} : ∀ {l : List Operand} {K : List AV → Prop}, evL f l K ↔ K (l.map f.ev)
  | [], _ => Iff.rfl
  | x :: l, K => by unfold evL; rw [forceAV_iff, evL_iff]; rfl
def avdenL (r : Env) : List AV → List Value → Prop
  | [], us => us = []
  | c :: cs, us => ∃ u l, us = u :: l ∧ c.den r u ∧ avdenL r cs l
theorem avdenL_ev {r : Env} {f : Fr} {a : Act} (h : FDen r f a) : ∀ l : List Operand, avdenL r (l.map f.ev) (l.map a.eval)
  | [] => rfl
  | x :: l => ⟨_, _, rfl, h.ev x, avdenL_ev h l⟩
theorem avdenL_append {r : Env} : ∀ {l m : List AV} {us vs : List Value}, avdenL r l us → avdenL r m vs → avdenL r (l ++ m) (us ++ vs)
  | [], m, us, vs, h, k => by subst h; exact k
  | c :: l, m, us, vs, h, k => by obtain ⟨u, l', rfl, h1, h2⟩ := h; exact ⟨u, _, rfl, h1, avdenL_append h2 k⟩
theorem avdenL_cap {r : Env} : ∀ {l : List CV} {us : List Value}, denL r l us → avdenL r (l.map fun c => .p (.c c)) us
  | [], us, h => by simp only [denL] at h; exact h
  | c :: l, us, h => by simp only [denL] at h; obtain ⟨u, l', rfl, h1, h2⟩ := h; exact ⟨u, _, rfl, h1, avdenL_cap h2⟩

def fnOk (P : Program) (fid : FuncId) : Bool := match P.funcs[fid]? with | some fn => !(fn.name == "runtime.NumGoroutine") && fn.body.isSome | none => false
theorem run_callFunc {P : Program} {fid : FuncId} (h : fnOk P fid = true) (args : Array Value) (w : World) : (callFunc fid args).run P w = .ok (.enter fid args) w := by
  unfold fnOk at h
  split at h
  · rename_i fn hf
    simp only [Bool.and_eq_true, Bool.not_eq_true'] at h
    have h1 : ¬ fn.name = "runtime.NumGoroutine" := by simpa using h.1
    have h2 : ¬ fn.body = none := fun e => by rw [e] at h; simp at h
    simp [callFunc, hf, h1, h2]
  · cases h

section
variable (P : Program) (w0 : World) (G : Gs) (N : Nd)
/-- A call: shown of its contract. -/
structure CallS (fid : FuncId) (args : List AV) (S : List Ow) (K : AV → List Ow → Prop) : Prop where
  ok : fnOk P fid = true
  out : ∀ r w us, Rel w0 G S r w → avdenL r args us →
    Calls P fid us.toArray w fun e w' => ∃ v u S' r', e = .returned u ∧ v.den r' u ∧ Rel w0 G S' r' w' ∧ r.le r' ∧ K v S'
/-- Any operation: shown by hand. -/
structure OpS (o : Oper) (f : Fr) (S : List Ow) (K : Fr → List Ow → Prop) : Prop where
  out : ∀ r a w, Rel w0 G S r w → FDen r f a → a.tmps.size = N.n → a.defers = N.ds → ∀ (next : Act → World → Prop) (_Q : Exit → Act → World → Prop),
    (∀ f' S' a' w', K f' S' → Good w0 G N f' S' a' w' → next a' w') → Oper.se P o a w next

def allocK (o : Oper) (f : Fr) (S : List Ow) (t : TypeId) (K : Fr → List Ow → Prop) : Prop :=
  match P.info? t with
  | some i => (match i.zero with
    | some z => forceS z.cells.toList.length (z.cells.toList.map CV.v) fun l => lenK S fun n => forceL (S ++ [.cells t l]) fun S' => f.putK o.dst (.p (.c (.ref n 0))) fun f' => K f' S'
    | none => False)
  | none => False
def boxK (o : Oper) (f : Fr) (S : List Ow) (t : TypeId) (x : AV) (K : Fr → List Ow → Prop) : Prop :=
  match x.okCells S with
  | some l => lenK S fun n => forceL (S ++ [.cells t l]) fun S' => f.putK o.dst (.p (.c (.ref n 0))) fun f' => K f' S'
  | none => False
def oneS (S : List Ow) : CV → Bool
  | .row i => (match S[i]? with | some (.row ..) => true | some (.view ..) => true | _ => false)
  | c => c.one
def onesL (S : List Ow) : List CV → Bool
  | [] => true
  | c :: l => match oneS S c with | true => onesL S l | false => false
def valsOf : List CV → Option (List Value)
  | [] => some []
  | .v x :: l => (match valsOf l with | some us => some (x :: us) | none => none)
  | _ => none
def storeK (o : Oper) (f : Fr) (S : List Ow) (t : TypeId) (x y : AV) (K : Fr → List Ow → Prop) : Prop :=
  match x with
  | .p (.c (.ref i off)) => (match y.okCells S with
    | some cs => (match P.info? t with
      | some inf => (match Nat.beq cs.length inf.size with
        | true => (match onesL S cs with
          | true => (match S[i]? with
            | some (.cells t' l) => (match Nat.ble (off + cs.length) l.length with
              | true => forceS l.length (setAll l off cs) fun l' => forceL (S.set i (.cells t' l')) fun S' => f.putK o.dst (.p (.c .any)) fun f' => K f' S'
              | false => False)
            | some (.row e size n xs) => (match valsOf cs with
              | some us => off + us.length ≤ xs.length ∧ forceL (S.set i (.row e size n (setAll xs off us))) fun S' => f.putK o.dst (.p (.c .any)) fun f' => K f' S'
              | none => False)
            | _ => False)
          | false => False)
        | false => False)
      | none => False)
    | none => False)
  | _ => False
def bsliceK (o : Oper) (f : Fr) (S : List Ow) (t : TypeId) (n : Nat) (parts : Array (Nat × Operand)) (K : Fr → List Ow → Prop) : Prop :=
  match P.underlying t with
  | some (.slice e) => (match P.info? e with
    | some i => (match i.zero with
      | some z => (match Nat.beq z.cells.size i.size with
        | true => (match Nat.ble (n * i.size) 16777216 with
          | true => (match fillK P S f (fun k => some (k * i.size, i.size)) parts.toList (List.replicate (n * i.size) .any) with
            | some l => forceL l fun l => lenK S fun k => forceL (S ++ [.cells e l]) fun S' => f.putK o.dst (.p (.c (.sl k 0 n n))) fun f' => K f' S'
            | none => False)
          | false => False)
        | false => False)
      | none => False)
    | none => False)
  | _ => False
def callK (o : Oper) (f : Fr) (S : List Ow) (fn : AV) (args : List Operand) (K : Fr → List Ow → Prop) : Prop :=
  match fn with
  | .p (.c (.clo (.func fid) cap)) => evL f args fun vs => CallS P w0 G fid (vs ++ cap.map fun c => .p (.c c)) S fun v S' => f.putK o.dst v fun f' => K f' S'
  | .p (.c (.v (.func (.func fid) first cap))) => (match first.toList with
    | [] => evL f args fun vs => CallS P w0 G fid (vs ++ cap.toList.map fun c => AV.of c) S fun v S' => f.putK o.dst v fun f' => K f' S'
    | _ => False)
  | _ => False
/-- One operation. -/
def opK (o : Oper) (f : Fr) (S : List Ow) (K : Fr → List Ow → Prop) : Prop :=
  match dstOk N.n o.dst with
  | false => False
  | true => (match o.op with
    | .alloc t => allocK P o f S t K
    | .box t x => boxK o f S t (f.ev x) K
    | .store t x y => storeK P o f S t (f.ev x) (f.ev y) K
    | .buildSlice t n parts => bsliceK P o f S t n parts K
    | .call ⟨.value fn, args, _⟩ => callK P w0 G o f S (f.ev fn) args.toList K
    | .call ⟨.builtin .len, _, _⟩ => (match opTy P o.op with | true => qop P w0 G S f o fun v => (f.putK o.dst v fun f' => K f' S) | false => False)
    | .move _ | .assign _ | .pick _ _ _ | .load _ _ | .nilCheck _ | .binOp _ _ _ _ _ | .unOp _ _ _ | .convert _ _ _ | .fieldAddr _ _ _ | .field _ _ _ | .extract _ _ | .build _ _ | .makeFunc _ _ _ | .indexAddr _ _ _ | .index _ _ _ | .lookup _ _ _ _ =>
      (match opTy P o.op with | true => qop P w0 G S f o fun v => (f.putK o.dst v fun f' => K f' S) | false => False)
    | _ => OpS P w0 G N o f S K)
end

theorem setCell_only {w : World} {b off : Nat} (u : Value) : w.grownBy (w.setCell ⟨b, off, none⟩ u) (some b) := only_setCell (World.grownBy.refl w _) (.inl rfl) u
theorem setCell_block {w : World} {b off : Nat} {cs : List Value} {t : TypeId} (h : w.heap[b]? = some (.cells cs.toArray t (0, 0))) (u : Value) : (w.setCell ⟨b, off, none⟩ u).heap[b]? = some (.cells (cs.set off u).toArray t (0, 0)) := by
  simp [World.setCell, Array.getElem?_modify, h]
theorem run_storeCells {P : Program} : ∀ (us : List Value) {w : World} {b off i : Nat} {cs : List Value} {t : TypeId}, w.heap[b]? = some (.cells cs.toArray t (0, 0)) → (∀ u ∈ us, (∀ x, u ≠ .agg x) ∧ (∀ x, u ≠ .tuple x)) → off + i + us.length ≤ cs.length →
    ∃ w', (storeCells ⟨b, off, none⟩ us i).run P w = .ok () w' ∧ w.grownBy w' (some b) ∧ w'.heap[b]? = some (.cells (setAll cs (off + i) us).toArray t (0, 0))
  | [], w, b, off, i, cs, t, h, _, _ => ⟨w, by simp [storeCells], World.grownBy.refl _ _, h⟩
  | u :: us, w, b, off, i, cs, t, h, hu, hl => by
    obtain ⟨h1, h2⟩ := hu u (List.mem_cons_self ..)
    have hc : w.cell? ⟨b, off + i, none⟩ ≠ none := by
      simp [World.cell?, h]; simp at hl; omega
    have hf : w.frozen? ⟨b, off + i, none⟩ = false := by simp [World.frozen?, h]
    have hset := setCell_block (off := off + i) h u
    obtain ⟨w', hr, hg, hb⟩ := run_storeCells (P := P) us (i := i + 1) (off := off) hset (fun v hv => hu v (List.mem_cons_of_mem _ hv)) (by simp at hl ⊢; omega)
    refine ⟨w', ?_, (setCell_only u).trans hg, by simpa [setAll, Nat.add_assoc] using hb⟩
    unfold storeCells
    simp only [Sem.run_bind, addr_add]
    have : (store ⟨b, off + i, none⟩ u).run P w = .ok () (w.setCell ⟨b, off + i, none⟩ u) := by
      obtain ⟨x, hx⟩ := Option.ne_none_iff_exists'.1 hc
      cases u <;> first | (exact absurd rfl (h1 _)) | (exact absurd rfl (h2 _)) | simp [store, Sem.run, hx, hf]
    rw [this]
    exact hr
theorem onesL_one {w0 : World} {G : Gs} {S : List Ow} {r : Env} {w : World} (hR : Rel w0 G S r w) : ∀ {cs : List CV} {us : List Value}, onesL S cs = true → denL r cs us → ∀ u ∈ us, (∀ x, u ≠ .agg x) ∧ (∀ x, u ≠ .tuple x)
  | [], us, _, hd, u, hu => by simp only [denL] at hd; subst hd; cases hu
  | c :: cs, us, h, hd, u, hu => by
    simp only [denL] at hd; obtain ⟨v, l, rfl, hc, hl⟩ := hd
    simp only [onesL] at h
    split at h
    · rename_i h1
      rcases List.mem_cons.1 hu with rfl | hu
      · unfold oneS at h1
        split at h1
        · split at h1
          · rename_i i _ e size n xs hS
            simp only [CV.den] at hc
            obtain ⟨v, hv, _, ho⟩ := hR.own _ _ hS
            rw [hc] at hv; injection hv with hv; subst hv
            obtain ⟨A, c, hs⟩ := row_slice ho
            subst hs
            exact ⟨nofun, nofun⟩
          · rename_i i _ φ n xs hS
            simp only [CV.den] at hc
            obtain ⟨A, c, hv, _⟩ := hR.own _ _ hS
            rw [hc] at hv; injection hv with hv; subst hv
            exact ⟨nofun, nofun⟩
          · cases h1
        · exact one_not_agg h1 hc
      · exact onesL_one hR h hl u hu
    · cases h
theorem valsOf_spec {r : Env} : ∀ {cs : List CV} {us vs : List Value}, valsOf cs = some us → denL r cs vs → vs = us
  | [], us, vs, h, hd => by injection h with h; subst h; simpa only [denL] using hd
  | c :: cs, us, vs, h, hd => by
    simp only [denL] at hd; obtain ⟨v, l, rfl, hc, hl⟩ := hd
    cases c <;> simp only [valsOf] at h <;> try cases h
    rename_i x
    split at h
    · rename_i us' hus
      injection h with h; subst h
      simp only [CV.den] at hc; subst hc
      rw [valsOf_spec hus hl]
    · cases h
theorem setAll_take {α : Type} : ∀ (us l : List α) (off : Nat), off + us.length ≤ l.length → ∀ m, l.length ≤ m → ∀ l' : List α, setAll (l ++ l') off us = setAll l off us ++ l'
  | [], l, off, _, m, _, l' => rfl
  | u :: us, l, off, h, m, hm, l' => by
    simp only [setAll]
    rw [List.set_append_left _ _ (by simp at h; omega)]
    exact setAll_take us (l.set off u) (off + 1) (by simp at h ⊢; omega) m (by simpa using hm) l'
end Go.Proofs.Ytmjfgnnefcimiaa
namespace Go.Proofs.Ytmjfgnnefcimiaa
open Go.RowKit

section
variable {P : Program} {w0 : World} {G : Gs} {N : Nd} {o : Oper} {f : Fr} {S : List Ow} {K : Fr → List Ow → Prop}
variable {r : Env} {a : Act} {w : World} {next : Act → World → Prop} {Q : Exit → Act → World → Prop}

theorem good_value (_hR : Rel w0 G S r w) (hf : FDen r f a) (hN : a.tmps.size = N.n) (hd : a.defers = N.ds) (hdst : dstOk N.n o.dst = true) {v : AV} {u : Value} {S' : List Ow} {r' : Env} {w' : World} (hv : v.den r' u) (hR' : Rel w0 G S' r' w') (hle : r.le r') :
    Good w0 G N (f.put o.dst v) S' (a.put o.dst u) w' :=
  ⟨r', hR', (hf.mono hle).put hv (by rw [hN]; exact hdst), (put_size a _ _).trans hN, (put_defers a _ _).trans hd⟩
theorem alloc_new_holds (r : Env) (w : World) (n : Nat) (t : TypeId) {l : List CV} {us : List Value} (h : denL (r.set n (some w.heap.size) none) l us) : (Ow.cells t l).holds (r.set n (some w.heap.size) none) (w.alloc (.cells us.toArray t)) n :=
  ⟨w.heap.size, us, by simp [Env.set], heap_alloc_new w _, h⟩
theorem good_alloc (hR : Rel w0 G S r w) (hf : FDen r f a) (hN : a.tmps.size = N.n) (hd : a.defers = N.ds) (hdst : dstOk N.n o.dst = true) {t : TypeId} {l : List CV} {us : List Value} (hl : denL r l us) :
    Good w0 G N (f.put o.dst (.p (.c (.ref S.length 0)))) (S ++ [.cells t l]) (a.put o.dst (.pointer (some ⟨w.heap.size, 0, none⟩))) (w.alloc (.cells us.toArray t)) := by
  have hle := hR.le_new (some w.heap.size) none
  refine good_value hR hf hN hd hdst (r' := r.set S.length (some w.heap.size) none) (den_mk_ref (by simp [Env.set])) (hR.snoc ((Below.refl _ _).alloc (Nat.le_refl _) _) (fun x hx => by injection hx with hx; subst hx; simp) (alloc_new_holds r w _ t (denL_mono hle _ _ hl))) hle

theorem allocK_sound {t : TypeId} (hop : o.op = .alloc t) (h : allocK P o f S t K) (hdst : dstOk N.n o.dst = true) (hR : Rel w0 G S r w) (hf : FDen r f a) (hN : a.tmps.size = N.n) (hd : a.defers = N.ds)
    (hK : ∀ f' S' a' w', K f' S' → Good w0 G N f' S' a' w' → next a' w') : Oper.se P o a w next := by
  unfold allocK at h
  split at h
  · rename_i i hi
    split at h
    · rename_i z hz
      rw [forceS_iff, lenK_iff, forceL_iff, putK_iff] at h
      have hrun : (execOp a.eval o).run P w = .ok (.value (.pointer (some ⟨w.heap.size, 0, none⟩))) (w.alloc (.cells z.cells t)) := by
        simp [execOp, hop, Instr.alloc, zeroValue, typeInfo, hi, hz, newVar, newRow]
      exact wp_of_value hrun (hK _ _ _ _ h (by have := good_alloc (o := o) (t := t) hR hf hN hd hdst (denL_vals (r := r) z.cells.toList); simpa using this))
    · exact h.elim
  · exact h.elim
theorem boxK_sound {t : TypeId} {x : Operand} (hop : o.op = .box t x) (h : boxK o f S t (f.ev x) K) (hdst : dstOk N.n o.dst = true) (hR : Rel w0 G S r w) (hf : FDen r f a) (hN : a.tmps.size = N.n) (hd : a.defers = N.ds)
    (hK : ∀ f' S' a' w', K f' S' → Good w0 G N f' S' a' w' → next a' w') : Oper.se P o a w next := by
  unfold boxK at h
  split at h
  · rename_i l hl
    rw [lenK_iff, forceL_iff, putK_iff] at h
    have hrun : (execOp a.eval o).run P w = .ok (.value (.pointer (some ⟨w.heap.size, 0, none⟩))) (w.alloc (.cells (a.eval x).cells t)) := by
      simp [execOp, hop, Instr.box, newVar, newRow]
    exact wp_of_value hrun (hK _ _ _ _ h (by have := good_alloc (o := o) (t := t) hR hf hN hd hdst (okCells_den hR hl (hf.ev x)); simpa using this))
  · exact h.elim
theorem storeK_sound {t : TypeId} {x y : Operand} (hop : o.op = .store t x y) (h : storeK P o f S t (f.ev x) (f.ev y) K) (hdst : dstOk N.n o.dst = true) (hR : Rel w0 G S r w) (hf : FDen r f a) (hN : a.tmps.size = N.n) (hd : a.defers = N.ds)
    (hK : ∀ f' S' a' w', K f' S' → Good w0 G N f' S' a' w' → next a' w') : Oper.se P o a w next := by
  unfold storeK at h
  split at h
  · rename_i i off hx
    have hxd := hf.ev x
    rw [hx] at hxd
    obtain ⟨b, hb, hu⟩ := den_ref hxd
    split at h
    · rename_i cs hcs
      have hdc := okCells_den hR hcs (hf.ev y)
      have hlen := denL_length hdc
      split at h
      · rename_i inf hinf
        split at h
        · rename_i hsz
          have e1 : cs.length = inf.size := Nat.eq_of_beq_eq_true hsz
          split at h
          · rename_i hones
            have hone := onesL_one hR hones hdc
            have hil : i < S.length := by
              rcases Nat.lt_or_ge i S.length with h1 | h1
              · exact h1
              · rw [hR.outB i h1] at hb; cases hb
            have hrun : ∀ w', (storeCells ⟨b, off, none⟩ (a.eval y).cells.toList 0).run P w = .ok () w' → (execOp a.eval o).run P w = .ok .skip w' := fun w' h' => by
              have hz : ¬ (a.eval y).cells.size ≠ inf.size := by rw [← Array.length_toList, hlen, e1]; simp
              simp only [execOp, hop, Instr.storeAt, hu, Instr.sureAddr, storeVar, Sem.run_bind, Sem.run_pure, Result.andThen_ok, run_sizeOf P t w hinf, if_neg hz, h']
            split at h
            · rename_i t' l hS
              split at h
              · rename_i hle
                rw [forceS_iff, forceL_iff, putK_iff] at h
                obtain ⟨b', us, h1, h2, h3⟩ := hR.own i _ hS
                rw [hb] at h1; injection h1 with h1; subst h1
                have hll := denL_length h3
                have e2 := Nat.le_of_ble_eq_true hle
                obtain ⟨w', hr, hg, hbl⟩ := run_storeCells (P := P) (a.eval y).cells.toList (i := 0) (off := off) h2 hone (by omega)
                refine wp_of_skip (hrun w' hr) (hK _ _ _ _ h ?_)
                refine good_value hR hf hN hd hdst (by simp [AV.den, Pc.den, CV.den]) (hR.setBlock hb hg ⟨b, _, hb, hbl, ?_⟩ hil) (Env.le.refl r)
                exact denL_setAll _ hdc h3
              · exact h.elim
            · rename_i e size n xs hS
              split at h
              · rename_i us hus
                obtain ⟨hle, h⟩ := h
                rw [forceL_iff, putK_iff] at h
                have hv := valsOf_spec hus hdc
                obtain ⟨v, h1, h2, h3⟩ := hR.own i _ hS
                obtain ⟨hxl, h4⟩ := h3
                rcases h4 with ⟨hvn, hn0⟩ | ⟨g, cap, cur, hvg, hg0, hh, hnc, hcm, hcs', htk⟩
                · rw [hvn, hb] at h2; cases h2
                · have hgb : g = b := by rw [hvg, hb] at h2; simpa [Value.ownBlock] using h2
                  subst hgb
                  have hcl : cur.toList.length = cap * size := by simpa using hcs'
                  have hnm : n * size ≤ cap * size := Nat.mul_le_mul_right size hnc
                  obtain ⟨w', hr, hg, hbl⟩ := run_storeCells (P := P) (a.eval y).cells.toList (i := 0) (off := off) (cs := cur.toList) (by simpa using hh) hone (by rw [hv]; omega)
                  refine wp_of_skip (hrun w' hr) (hK _ _ _ _ h ?_)
                  refine good_value hR hf hN hd hdst (by simp [AV.den, Pc.den, CV.den]) (hR.setBlock hb hg ⟨v, h1, h2, by rw [setAll_length]; exact hxl, .inr ⟨g, cap, (setAll cur.toList off us).toArray, hvg, hg0, by rw [hbl, hv]; simp, hnc, hcm, by simp [setAll_length, hcl], ?_⟩⟩ hil) (Env.le.refl r)
                  have hsplit : cur.toList = xs ++ cur.toList.drop (n * size) := by rw [← htk]; exact (List.take_append_drop _ _).symm
                  rw [List.toList_toArray, hsplit, setAll_take us xs off hle _ (Nat.le_refl _), List.take_append_of_le_length (by rw [setAll_length]; omega), List.take_of_length_le (by rw [setAll_length]; omega)]
              · exact h.elim
            · exact h.elim
          · exact h.elim
        · exact h.elim
      · exact h.elim
    · exact h.elim
  · exact h.elim
theorem denL_any (r : Env) : ∀ us : List Value, denL r (List.replicate us.length .any) us
  | [] => by simp [denL]
  | u :: us => by simp only [List.length_cons, List.replicate_succ, denL]; exact ⟨u, us, rfl, by simp only [CV.den], denL_any r us⟩
theorem bsliceK_sound {t : TypeId} {n : Nat} {parts : Array (Nat × Operand)} (hop : o.op = .buildSlice t n parts) (h : bsliceK P o f S t n parts K) (hdst : dstOk N.n o.dst = true) (hR : Rel w0 G S r w) (hf : FDen r f a) (hN : a.tmps.size = N.n) (hd : a.defers = N.ds)
    (hK : ∀ f' S' a' w', K f' S' → Good w0 G N f' S' a' w' → next a' w') : Oper.se P o a w next := by
  unfold bsliceK at h
  split at h
  · rename_i e ht
    split at h
    · rename_i i hi
      split at h
      · rename_i z hz
        split at h
        · rename_i hzs
          split at h
          · rename_i hle
            split at h
            · rename_i l hl
              rw [forceL_iff, lenK_iff, forceL_iff, putK_iff] at h
              have e1 : z.cells.size = i.size := Nat.eq_of_beq_eq_true hzs
              have e2 : n * i.size ≤ 16777216 := Nat.le_of_ble_eq_true hle
              have hlen : ∀ zero : Array Value, ((Array.range (n * i.size)).map (zero[· % zero.size]!)).toList.length = n * i.size := fun zero => by simp
              have hany : ∀ zero : Array Value, denL r (List.replicate (n * i.size) .any) ((Array.range (n * i.size)).map (zero[· % zero.size]!)).toList := fun zero => by
                have := denL_any r ((Array.range (n * i.size)).map (zero[· % zero.size]!)).toList
                rwa [hlen zero] at this
              have hrun : ∃ vs : List Value, denL r l vs ∧ (execOp a.eval o).run P w = .ok (.value (.slice (some ⟨w.heap.size, 0, none⟩) n n)) (w.alloc (.cells vs.toArray e)) := by
                have e3 : (parts.map fun (i, x) => (i, a.eval x)).toList = parts.toList.map fun p => (p.1, a.eval p.2) := by simp
                by_cases h0 : n * i.size = 0
                · obtain ⟨vs, hv, hdv⟩ := fillK_sound hR hf parts.toList _ l _ hl (hany #[])
                  refine ⟨vs, hdv, ?_⟩
                  simp only [execOp, hop, Instr.buildSlice, underlying, Sem.run_bind, run_program, Result.andThen_ok, ht, Sem.run_pure, run_sizeOf P e w hi, e3]
                  rw [if_neg (by omega), if_pos h0]
                  have hv' : Instr.fill (fun k => some (k * i.size, i.size)) ((Array.range (n * i.size)).map ((#[] : Array Value)[· % (#[] : Array Value).size]!)) (parts.toList.map fun p => (p.1, a.eval p.2)) = some vs.toArray := by
                    rw [← hv, Array.toArray_toList]
                  simp only [Sem.run_bind, Sem.run_pure, Result.andThen_ok]
                  rw [hv']
                  simp [newRow]
                · obtain ⟨vs, hv, hdv⟩ := fillK_sound hR hf parts.toList _ l _ hl (hany z.cells)
                  refine ⟨vs, hdv, ?_⟩
                  simp only [execOp, hop, Instr.buildSlice, underlying, Sem.run_bind, run_program, Result.andThen_ok, ht, Sem.run_pure, run_sizeOf P e w hi, e3]
                  rw [if_neg (by omega), if_neg h0]
                  simp only [zeroValue, typeInfo, Sem.run_bind, run_program, Result.andThen_ok, hi, hz, Sem.run_pure]
                  have hv' : Instr.fill (fun k => some (k * i.size, i.size)) ((Array.range (n * i.size)).map (z.cells[· % z.cells.size]!)) (parts.toList.map fun p => (p.1, a.eval p.2)) = some vs.toArray := by
                    rw [← hv, Array.toArray_toList]
                  rw [hv']
                  simp [newRow]
              obtain ⟨vs, hdv, hrun⟩ := hrun
              refine wp_of_value hrun (hK _ _ _ _ h ?_)
              have hle := hR.le_new (some w.heap.size) none
              refine good_value hR hf hN hd hdst (r' := r.set S.length (some w.heap.size) none) ?_ (hR.snoc ((Below.refl _ _).alloc (Nat.le_refl _) _) (fun x hx => by injection hx with hx; subst hx; simp) (alloc_new_holds r w _ e (denL_mono hle _ _ hdv))) hle
              simp only [AV.den, Pc.den, CV.den]
              exact ⟨w.heap.size, by simp [Env.set], rfl⟩
            · exact h.elim
          · exact h.elim
        · exact h.elim
      · exact h.elim
    · exact h.elim
  · exact h.elim
theorem avdenL_of {r : Env} : ∀ us : List Value, avdenL r (us.map fun c => AV.of c) us
  | [] => rfl
  | u :: us => ⟨u, us, rfl, AV.of_den r u, avdenL_of us⟩
theorem callK_sound {fn : Operand} {args : Array Operand} {tys : Array TypeId} (hop : o.op = .call ⟨.value fn, args, tys⟩) (h : callK P w0 G o f S (f.ev fn) args.toList K) (hdst : dstOk N.n o.dst = true) (hR : Rel w0 G S r w) (hf : FDen r f a) (hN : a.tmps.size = N.n) (hd : a.defers = N.ds)
    (hK : ∀ f' S' a' w', K f' S' → Good w0 G N f' S' a' w' → next a' w') : Oper.se P o a w next := by
  have hfn := hf.ev fn
  unfold callK at h
  split at h
  · rename_i fid cap he
    rw [he] at hfn
    obtain ⟨us, hu, hcap⟩ := den_clo hfn
    rw [evL_iff] at h
    obtain ⟨hok, hc⟩ := h
    have hrun : (execOp a.eval o).run P w = .ok (.enter fid ((args.map a.eval) ++ us.toArray)) w := by
      simp [execOp, hop, resolve, Deferred.ofValue, hu, invoke, run_callFunc hok]
    refine wp_of_enter hrun ?_
    have := hc r w ((args.toList.map a.eval) ++ us) hR (avdenL_append (avdenL_ev hf _) (avdenL_cap hcap))
    rw [show ((args.toList.map a.eval) ++ us).toArray = (args.map a.eval) ++ us.toArray by apply Array.ext'; simp] at this
    refine Calls.mono this fun e w' ⟨v, u, S', r', he, hv, hR', hle, hKv⟩ => ⟨u, he, hK _ _ _ _ (putK_iff.1 hKv) (good_value hR hf hN hd hdst hv hR' hle)⟩
  · rename_i fid first cap he
    rw [he] at hfn
    have hu := den_v hfn
    split at h
    · rename_i hfst
      have ef : first = #[] := Array.ext' hfst
      rw [evL_iff] at h
      obtain ⟨hok, hc⟩ := h
      have hrun : (execOp a.eval o).run P w = .ok (.enter fid ((args.map a.eval) ++ cap)) w := by
        simp [execOp, hop, resolve, Deferred.ofValue, hu, ef, invoke, run_callFunc hok]
      refine wp_of_enter hrun ?_
      have := hc r w ((args.toList.map a.eval) ++ cap.toList) hR (avdenL_append (avdenL_ev hf _) (avdenL_of _))
      rw [show ((args.toList.map a.eval) ++ cap.toList).toArray = (args.map a.eval) ++ cap by apply Array.ext'; simp] at this
      refine Calls.mono this fun e w' ⟨v, u, S', r', he, hv, hR', hle, hKv⟩ => ⟨u, he, hK _ _ _ _ (putK_iff.1 hKv) (good_value hR hf hN hd hdst hv hR' hle)⟩
    · exact h.elim
  · exact h.elim
theorem qopK_sound (h : match opTy P o.op with | true => qop P w0 G S f o fun v => (f.putK o.dst v fun f' => K f' S) | false => False) (hdst : dstOk N.n o.dst = true) (hR : Rel w0 G S r w) (hf : FDen r f a) (hN : a.tmps.size = N.n) (hd : a.defers = N.ds)
    (hK : ∀ f' S' a' w', K f' S' → Good w0 G N f' S' a' w' → next a' w') : Oper.se P o a w next := by
  split at h
  · rename_i hty
    obtain ⟨v, u, hKv, hv, hrun⟩ := qop_sound h hty hR hf
    exact wp_of_value (hrun w (Below.refl _ _)) (hK _ _ _ _ (putK_iff.1 hKv) (good_value hR hf hN hd hdst hv hR (Env.le.refl r)))
  · exact h.elim
theorem opK_sound (h : opK P w0 G N o f S K) : OpS P w0 G N o f S K := by
  refine ⟨?_⟩
  intro r a w hR hf hN hd next Q hK
  unfold opK at h
  split at h
  · exact h.elim
  · rename_i hdst
    split at h
    · rename_i t hop; exact allocK_sound hop h hdst hR hf hN hd hK
    · rename_i t x hop; exact boxK_sound hop h hdst hR hf hN hd hK
    · rename_i t x y hop; exact storeK_sound hop h hdst hR hf hN hd hK
    · rename_i t n parts hop; exact bsliceK_sound hop h hdst hR hf hN hd hK
    · rename_i fn args tys hop; exact callK_sound hop h hdst hR hf hN hd hK
    all_goals first | exact qopK_sound h hdst hR hf hN hd hK | exact h.out r a w hR hf hN hd next Q hK
end
end Go.Proofs.Ytmjfgnnefcimiaa
namespace Go.Proofs.Ytmjfgnnefcimiaa
open Go.RowKit
def fld (n : String) (t : TypeId) (k b : Nat) : Field := { name := n, type := t, offset := k, embedded := false, tag := "", pkgPath := "", byteOffset := b }
theorem op_fields : (Try.prog.fieldsOf 53).toList = [fld "Code" 3 0 0, fld "D" 3 1 8, fld "A" 3 2 16, fld "B" 3 3 24, fld "N" 24 4 32] := by kernel_rfl
theorem op_equal (p q : BOp) (w : World) : (Op.equalIn 10000 53 (opV p) (opV q)).run Try.prog w = .ok (p == q) w := by
  have i1 : ∀ (d : Nat) (a b : Int) (w : World), (Op.equalIn (d + 1) 3 (.int .i64 a) (.int .i64 b)).run Try.prog w = .ok (a == b) w := fun d a b w => run_equalIn_int w d _ _ _ a b Try.underlying3
  have i2 : ∀ (d : Nat) (a b : Int) (w : World), (Op.equalIn (d + 1) 24 (.int .u32 a) (.int .u32 b)).run Try.prog w = .ok (a == b) w := fun d a b w => run_equalIn_int w d _ _ _ a b Try.underlying24
  have j1 : ∀ (xs : Array Value) (o : Nat) (v : Value) (w : World), xs[o]? = some v → (part 3 xs o).run Try.prog w = .ok v w := fun xs o v w h => run_part_plain w (by kernel_rfl) h
  have j2 : ∀ (xs : Array Value) (o : Nat) (v : Value) (w : World), xs[o]? = some v → (part 24 xs o).run Try.prog w = .ok v w := fun xs o v w h => run_part_plain w (by kernel_rfl) h
  rw [run_equalIn_agg _ _ _ _ _ (by kernel_rfl) (by kernel_rfl), op_fields]
  obtain ⟨c, d, a, b, n⟩ := p
  obtain ⟨c', d', a', b', n'⟩ := q
  have hb : ((⟨c, d, a, b, n⟩ : BOp) == ⟨c', d', a', b', n'⟩) = (c == c' && (d == d' && (a == a' && (b == b' && n == n')))) := by
    rw [Bool.eq_iff_iff]; simp
  rw [hb]
  cases e0 : c == c' <;> cases e1 : d == d' <;> cases e2 : a == a' <;> cases e3 : b == b' <;> cases e4 : n == n' <;>
    simp [Op.eqFields, fld, j1, j2, i1, i2, e0, e1, e2, e3, e4]
theorem op_neq (p q : BOp) (w : World) : (binOp .neq 53 (opV p) (opV q)).run Try.prog w = .ok (.bool (!(p == q))) w := by
  rw [run_neq_struct, op_equal]; rfl
end Go.Proofs.Ytmjfgnnefcimiaa
