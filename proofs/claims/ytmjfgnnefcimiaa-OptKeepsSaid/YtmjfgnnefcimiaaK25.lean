/- Slices of slices, over states that are known part by part. Walks: the reference's memory. The quiet operations over old memory: what they hand back is the same in all worlds of a kind. Walks: the passes until nothing changes. Walks: Live. -/
import Derived.Test.YtmjfgnnefcimiaaK1
import Derived.Test.YtmjfgnnefcimiaaK10
import Derived.Test.YtmjfgnnefcimiaaK11
import Derived.Test.YtmjfgnnefcimiaaK12
import Derived.Test.YtmjfgnnefcimiaaK14
import Derived.Test.YtmjfgnnefcimiaaK15
import Derived.Test.YtmjfgnnefcimiaaK16
import Derived.Test.YtmjfgnnefcimiaaK17
import Derived.Test.YtmjfgnnefcimiaaK18
import Derived.Test.YtmjfgnnefcimiaaK19
import Derived.Test.YtmjfgnnefcimiaaK20
import Derived.Test.YtmjfgnnefcimiaaK21
import Derived.Test.YtmjfgnnefcimiaaK22
import Derived.Test.YtmjfgnnefcimiaaK23
import Derived.Test.YtmjfgnnefcimiaaK24
import Derived.Test.YtmjfgnnefcimiaaK3
import Derived.Test.YtmjfgnnefcimiaaK4
import Derived.Test.YtmjfgnnefcimiaaK5
namespace Go.Proofs.Ytmjfgnnefcimiaa
open Go.RowKit
theorem Rel.appendG {w0 : World} {G : Gs} {S : List Ow} {r : Env} {w w' : World} (h : Rel w0 G S r w) {i : Nat} {e : TypeId} {size n' : Nat} {xs' : List Value} {B : Option Nat} {v' : Value} (hil : i < S.length) (hG : G.fix.length ≤ i) (hob : B = r.blk i)
    (hown : w'.ownsRow 0 e size v' n' xs') (hg : w.grownBy w' B) (hb : v'.ownBlock = B ∨ v'.ownBlock = some w.heap.size) :
    Rel w0 G ((killS i S).set i (.row e size n' xs')) (r.set i v'.ownBlock (some v')) w' ∧ But i r (r.set i v'.ownBlock (some v')) := by
  have hbut : But i r (r.set i v'.ownBlock (some v')) := fun j hj => by simp [Env.set, hj]
  have hnewlt : ∀ x, v'.ownBlock = some x → x < w'.heap.size := fun x hx => by
    rcases hown.2 with ⟨h1, _⟩ | ⟨g, cap, cur, h1, _, hh, _⟩
    · rw [h1] at hx; cases hx
    · rw [h1] at hx; simp [Value.ownBlock] at hx; subst hx
      rcases Nat.lt_or_ge g w'.heap.size with h2 | h2
      · exact h2
      · rw [Array.getElem?_eq_none h2] at hh; cases hh
  have hblk : ∀ j x, r.blk j = some x → j ≠ i → w'.heap[x]? = w.heap[x]? := fun j x hx hj => hg.block x (h.new j x hx).1 (fun e => hj (h.inj j i x hx (by rw [← hob]; exact e.symm)))
  refine ⟨⟨hg.os.trans h.os, hg.tape.trans h.tape, hg.output.trans h.output, Nat.le_trans h.size hg.size, fun k hk hkG => ?_, fun j o hj => ?_, fun a b x ha hb' => ?_, fun j x hj => ?_, fun j hj => ?_, fun j hj => ?_, fun j g hj => ?_⟩, hbut⟩
  · rw [hg.block k (Nat.lt_of_lt_of_le hk h.size) (fun e => hkG ((h.new i k (by rw [← hob]; exact e.symm)).2 hk))]
    exact h.old k hk hkG
  · by_cases hij : i = j
    · subst hij
      rw [List.getElem?_set_self (by rw [killS_length]; exact hil)] at hj
      injection hj with hj; subst hj
      exact ⟨v', by simp [Env.set], by simp [Env.set], hown⟩
    · rw [List.getElem?_set_ne hij, killS_get] at hj
      cases hSj : S[j]? with
      | none => rw [hSj] at hj; cases hj
      | some o' =>
        rw [hSj] at hj
        simp at hj; subst hj
        have h1 := Ow.holds_block (h.own j o' hSj) (fun x hx => hblk j x hx (Ne.symm hij)) hg.size (fun x hx hno => hg.block x hx (fun e => hno i (by rw [← hob]; exact e.symm)))
        cases o' with
        | view φ m ys =>
          obtain ⟨A, c, h2, h3, h4, h5, h6⟩ := h.own j _ hSj
          refine ⟨A, c, by rw [← (hbut j (Ne.symm hij)).2]; exact h2, h3, h4, by rw [← (hbut j (Ne.symm hij)).1]; exact h5, fun k u hk => ?_⟩
          obtain ⟨b, off, h7, h8, h9, h10⟩ := h6 k u hk
          refine ⟨b, off, h7, Nat.lt_of_lt_of_le h8 hg.size, fun q hq => ?_, (World.cell?_of_block (w := w) (a := ⟨b, off + k, none⟩) (hg.block b h8 (fun e => h9 i (by rw [← hob]; exact e.symm)))).trans h10⟩
          by_cases hqi : q = i
          · subst hqi
            simp [Env.set] at hq
            rcases hb with hb | hb
            · rw [hb, hob] at hq; exact h9 q hq
            · rw [hb] at hq; injection hq with hq; omega
          · exact h9 q (by rw [(hbut q hqi).1]; exact hq)
        | cells t l => obtain ⟨b, us, h2, h3, h4⟩ := h1; exact ⟨b, us, by rw [← (hbut j (Ne.symm hij)).1]; exact h2, h3, killL_den hbut h4⟩
        | row e s n xs => obtain ⟨v, h2, h3, h4⟩ := h1; exact ⟨v, by rw [← (hbut j (Ne.symm hij)).2]; exact h2, by rw [← (hbut j (Ne.symm hij)).1]; exact h3, h4⟩
        | ext φ => obtain ⟨b, h2, h3⟩ := h1; exact ⟨b, by rw [← (hbut j (Ne.symm hij)).1]; exact h2, h3⟩
        | gone => trivial
  · have fresh : ∀ j x, j ≠ i → r.blk j = some x → v'.ownBlock = some x → False := fun j x hj hx he => by
      rcases hb with hb | hb
      · rw [hb, hob] at he; exact hj (h.inj j i x hx he)
      · rw [hb] at he; injection he with he; have := (h.new j x hx).1; omega
    simp only [Env.set] at ha hb'
    split at ha <;> split at hb'
    · omega
    · exact (fresh b x (by assumption) hb' ha).elim
    · exact (fresh a x (by assumption) ha hb').elim
    · exact h.inj a b x ha hb'
  · simp only [Env.set] at hj
    split at hj
    · refine ⟨hnewlt x hj, fun hlt => ?_⟩
      rcases hb with hb | hb
      · rw [hb, hob] at hj; exact (h.new i x hj).2 hlt
      · rw [hb] at hj; injection hj with hj; have := h.size; omega
    · exact ⟨Nat.lt_of_lt_of_le (h.new j x hj).1 hg.size, (h.new j x hj).2⟩
  · have hj' : S.length ≤ j := by simpa [killS_length] using hj
    simp only [Env.set]; rw [if_neg (by omega)]; exact h.outB j hj'
  · have hj' : S.length ≤ j := by simpa [killS_length] using hj
    simp only [Env.set]; rw [if_neg (by omega)]; exact h.outV j hj'
  · have : j < G.fix.length := by
      rcases Nat.lt_or_ge j G.fix.length with h1 | h1
      · exact h1
      · rw [List.getElem?_eq_none h1] at hj; cases hj
    simp only [Env.set]; rw [if_neg (by omega)]; exact h.first j g hj


section
variable {P : Program} {w0 : World} {G : Gs} {N : Nd} {o : Oper} {f : Fr} {S : List Ow} {K : Fr → List Ow → Prop} {Q : Exit → Act → World → Prop} {d : Code}
/-- An operation that hands back a value and leaves the world as it is. -/
theorem opS_val (v : AV) (hdst : dstOk N.n o.dst = true) (h : ∀ r a w, Rel w0 G S r w → FDen r f a → ∃ u, v.den r u ∧ (execOp a.eval o).run P w = .ok (.value u) w) (hk : K (f.put o.dst v) S) : OpS P w0 G N o f S K := by
  refine ⟨fun r a w hR hf hN hd next Q hK => ?_⟩
  obtain ⟨u, hu, hrun⟩ := h r a w hR hf
  exact wp_of_value hrun (hK _ _ _ _ hk (good_value hR hf hN hd hdst hu hR (Env.le.refl r)))
theorem op_min {x y : Operand} {a b : Int} {tys : Array TypeId} (hop : o.op = .call ⟨.builtin .min, #[x, y], tys⟩) (hx : f.ev x = one (.int .i64 a)) (hy : f.ev y = one (.int .i64 b)) (hdst : dstOk N.n o.dst = true) (hk : K (f.put o.dst (one (.int .i64 (if b < a then b else a)))) S) : OpS P w0 G N o f S K := by
  refine opS_val _ hdst (fun r act w hR hf => ⟨_, den_one _ _, ?_⟩) hk
  have h1 := hf.ev x
  have h2 := hf.ev y
  rw [hx] at h1; rw [hy] at h2
  simp [execOp, hop, resolve, invoke, builtin, den_v h1, den_v h2, Builtin.min_, Builtin.min2]
theorem run_slice {t e : TypeId} {i : TypeInfo} (ht : P.underlying t = some (.slice e)) (hi : P.info? e = some i) (A : Option Addr) (n c l h : Nat) (low high : Option Value) (hl : (low = none ∧ l = 0) ∨ ∃ q, low = some (.int q (l : Int))) (hh : (high = none ∧ h = n) ∨ ∃ q, high = some (.int q (h : Int))) (hlh : l ≤ h) (hhc : h ≤ c) (w : World) :
    (Instr.sliceAt t (.slice A n c) low high none).run P w = .ok (.slice (if c = l then A else A.map (·.add (l * i.size))) (h - l) (c - l)) w := by
  have hs := run_sizeOf P e w hi
  have hl0 : (0 : Int) ≤ (l : Int) ∧ (l : Int) ≤ (h : Int) := by omega
  have hh0 : (0 : Int) ≤ (h : Int) ∧ (h : Int) ≤ (c : Int) := by omega
  rcases hl with ⟨rfl, rfl⟩ | ⟨q, rfl⟩ <;> rcases hh with ⟨rfl, rfl⟩ | ⟨q', rfl⟩ <;>
    simp [Instr.sliceAt, Instr.slice, underlying, ht, Instr.sliceBounds, Instr.sliceBound, asIntOf, hs, hl0, hh0, hlh, hhc]
/-- A slice of a slice that is known whole. -/
theorem op_slice_v {t e : TypeId} {i : TypeInfo} {x : Operand} {lo hi : Option Operand} {A : Option Addr} {n c : Nat} (l h size : Nat) (hop : o.op = .slice t x lo hi none) (ht : P.underlying t = some (.slice e)) (hif : P.info? e = some i) (hsz : i.size = size) (hx : f.ev x = one (.slice A n c))
    (hl : (lo = none ∧ l = 0) ∨ ∃ y q, lo = some y ∧ f.ev y = one (.int q (l : Int))) (hh : (hi = none ∧ h = n) ∨ ∃ y q, hi = some y ∧ f.ev y = one (.int q (h : Int))) (hlh : l ≤ h) (hhc : h ≤ c) (hdst : dstOk N.n o.dst = true)
    (hk : K (f.put o.dst (one (.slice (if c = l then A else A.map (·.add (l * size))) (h - l) (c - l)))) S) : OpS P w0 G N o f S K := by
  subst hsz
  refine opS_val _ hdst (fun r act w hR hf => ⟨_, den_one _ _, ?_⟩) hk
  have h1 := hf.ev x
  rw [hx] at h1
  have hl' : ((lo.map act.eval) = none ∧ l = 0) ∨ ∃ q, (lo.map act.eval) = some (.int q (l : Int)) := by
    rcases hl with ⟨rfl, h0⟩ | ⟨y, q, rfl, hy⟩
    · exact .inl ⟨rfl, h0⟩
    · have := hf.ev y; rw [hy] at this; exact .inr ⟨q, by rw [Option.map_some, den_v this]⟩
  have hh' : ((hi.map act.eval) = none ∧ h = n) ∨ ∃ q, (hi.map act.eval) = some (.int q (h : Int)) := by
    rcases hh with ⟨rfl, h0⟩ | ⟨y, q, rfl, hy⟩
    · exact .inl ⟨rfl, h0⟩
    · have := hf.ev y; rw [hy] at this; exact .inr ⟨q, by rw [Option.map_some, den_v this]⟩
  have := run_slice (P := P) ht hif A n c l h (lo.map act.eval) (hi.map act.eval) hl' hh' hlh hhc w
  simp [execOp, hop, den_v h1, this]
/-- A row cut off behind its first m elements; nothing else names it any more. -/
theorem op_reslice {t e : TypeId} {i : TypeInfo} {x y : Operand} {q : IntKind} {n size : Nat} {xs : List Value} (k m : Nat) (hop : o.op = .slice t x none (some y) none) (ht : P.underlying t = some (.slice e)) (hif : P.info? e = some i) (_hsz : i.size = size) (hx : f.ev x = .p (.c (.row k))) (hS : S[k]? = some (.row e size n xs)) (hy : f.ev y = one (.int q (m : Int))) (hm : m ≤ n) (hG : G.fix.length ≤ k) (hdst : dstOk N.n o.dst = true)
    (hk : K ((Fr.kill k f).put o.dst (.p (.c (.row k)))) ((killS k S).set k (.row e size m (xs.take (m * size))))) : OpS P w0 G N o f S K := by
  refine ⟨fun r a w hR hf hN hd next Q hK => ?_⟩
  have h1 := hf.ev x
  have h2 := hf.ev y
  rw [hx] at h1; rw [hy] at h2
  have hu := den_row h1
  obtain ⟨v, f1, f2, f3⟩ := hR.own k _ hS
  rw [hu] at f1; injection f1 with f1; subst f1
  have hlt : k < S.length := by
    rcases Nat.lt_or_ge k S.length with h | h
    · exact h
    · rw [List.getElem?_eq_none h] at hS; cases hS
  obtain ⟨A, c, he⟩ := row_slice f3
  rw [he] at f2 f3 hu
  have hnc : n ≤ c := by
    rcases f3.2 with ⟨e1, e2⟩ | ⟨g, cap, cur, e1, _, _, e2, _⟩
    · injection e1 with _ _ e1; omega
    · injection e1 with _ _ e1; omega
  have hmin : min (m * size) xs.length = m * size := Nat.min_eq_left (by rw [f3.1]; exact Nat.mul_le_mul_right _ hm)
  have hown : w.ownsRow 0 e size (.slice A m c) m (xs.take (m * size)) := by
    refine ⟨by rw [List.length_take, hmin], ?_⟩
    rcases f3.2 with ⟨e1, e2⟩ | ⟨g, cap, cur, e1, e2, e3, e4, e5, e6, e7⟩
    · injection e1 with e0 e0' e1; subst e0; subst e1
      exact .inl ⟨by rw [show m = 0 by omega], by omega⟩
    · injection e1 with e0 e0' e1; subst e0; subst e1
      refine .inr ⟨g, c, cur, rfl, Nat.zero_le _, e3, by omega, e5, e6, ?_⟩
      rw [← e7, List.take_take, Nat.min_eq_left (Nat.mul_le_mul_right _ hm)]
  have hbl : (Value.slice A m c).ownBlock = (Value.slice A n c).ownBlock := by cases A <;> rfl
  obtain ⟨hR', hbut⟩ := hR.appendG (i := k) (B := (Value.slice A n c).ownBlock) hlt hG f2 hown (World.grownBy.refl w _) (.inl hbl)
  have hrun := run_slice (P := P) ht hif A n c 0 m none (some (.int q (m : Int))) (.inl ⟨rfl, rfl⟩) (.inr ⟨q, rfl⟩) (Nat.zero_le _) (by omega) w
  have hA : (if c = 0 then A else A.map (·.add (0 * i.size))) = A := by
    split
    · rfl
    · cases A with
      | none => rfl
      | some p => simp [Addr.add]
  rw [hA, Nat.sub_zero, Nat.sub_zero] at hrun
  have hex : (execOp a.eval o).run P w = .ok (.value (.slice A m c)) w := by simp [execOp, hop, he, den_v h2, hrun]
  exact wp_of_value hex (hK _ _ _ _ hk ⟨_, hR', (hf.kill hbut).put (by simp [AV.den, Pc.den, CV.den, Env.set]) (by rw [hN]; exact hdst), (put_size a _ _).trans hN, (put_defers a _ _).trans hd⟩)
/-- What the memory is, looked at closer. -/
theorem satq_conc (h : ∀ r w, Rel w0 G S r w → ∃ f2 S2, Rel w0 G S2 r w ∧ (∀ a, FDen r f a → FDen r f2 a) ∧ SatQ P w0 G N d f2 S2 Q) : SatQ P w0 G N d f S Q :=
  ⟨fun a w ⟨r, hR, hf, hN, hd⟩ => by
    obtain ⟨f2, S2, hR2, hf2, hs⟩ := h r w hR
    exact hs.out a w ⟨r, hR2, hf2 a hf, hN, hd⟩⟩
/-- append onto the front of a block whose content is known, of a part of it. -/
theorem op_app_obj {t e : TypeId} {inf : TypeInfo} {z : Value} {s x : Operand} {A : Option Addr} {m c2 : Nat} (k ob i C size : Nat) (cur news : List Value) (hop : o.op = .call ⟨.builtin .append, #[s, x], #[t, t]⟩) (ht : P.underlying t = some (.slice e)) (hif : P.info? e = some inf) (hz : inf.zero = some z) (hzs : z.cells.size = inf.size) (hsz : inf.size = size) (hpos : 0 < size) (hbytes : inf.bytes ≤ 100000)
    (hs : f.ev s = one (.slice (some ⟨ob, 0, none⟩) i C)) (hx : f.ev x = one (.slice A m c2)) (hSk : S[k]? = some (objOw ob (.cells cur.toArray e (0, 0)))) (hG : G.fix.length ≤ k) (hC : cur.length = C * size) (hiC : i ≤ C) (hCm : C ≤ maxLen) (hl : news.length = m * size) (hnews : ∀ (j : Nat) u, news[j]? = some u → ∃ off, A = some ⟨ob, off, none⟩ ∧ cur[off + j]? = some u) (hone : ∀ u ∈ news, u.oneCell' = true) (hle : i + m ≤ 1000000000) (hdst : dstOk N.n o.dst = true)
    (hk : K ((Fr.kill k f).put o.dst (.p (.c (.row k)))) ((killS k S).set k (.row e size (i + m) (cur.take (i * size) ++ news)))) : OpS P w0 G N o f S K := by
  subst hsz
  refine ⟨fun r a w hR hf hN hd next Q hK => ?_⟩
  have h1 := hf.ev s
  have h2 := hf.ev x
  rw [hs] at h1; rw [hx] at h2
  obtain ⟨b, hb, ⟨rfl, hh⟩, _⟩ := hR.own k _ hSk
  have hlt : k < S.length := by
    rcases Nat.lt_or_ge k S.length with h | h
    · exact h
    · rw [List.getElem?_eq_none h] at hSk; cases hSk
  have hown : w.ownsRow 0 e inf.size (.slice (some ⟨b, 0, none⟩) i C) i (cur.take (i * inf.size)) :=
    ⟨by rw [List.length_take, Nat.min_eq_left (by rw [hC]; exact Nat.mul_le_mul_right _ hiC)], .inr ⟨b, C, cur.toArray, rfl, Nat.zero_le _, hh, hiC, hCm, by simpa using hC, by simp⟩⟩
  obtain ⟨v', w', hrun, hown', hg, hbb⟩ := run_append_src (P := P) 0 t o.type e inf z ht hif hz hzs hpos _ i _ hown A m c2 news hl (fun j u hj => by
    obtain ⟨off, e1, e2⟩ := hnews j u hj
    exact ⟨b, off, e1, by simp [World.cell?, hh, e2]⟩) hone hle hbytes (Nat.zero_le _)
  obtain ⟨hR', hbut⟩ := hR.appendG (i := k) (B := some b) hlt hG hb.symm hown' hg hbb
  have hex : (execOp a.eval o).run P w = .ok (.value v') w' := by
    simp [execOp, hop, resolve, invoke, builtin, den_v h1, den_v h2, hrun]
  exact wp_of_value hex (hK _ _ _ _ hk ⟨_, hR', (hf.kill hbut).put (by simp [AV.den, Pc.den, CV.den, Env.set]) (by rw [hN]; exact hdst), (put_size a _ _).trans hN, (put_defers a _ _).trans hd⟩)
/-- append onto a row, of a part of a block whose content is known. -/
theorem op_app_from {t e : TypeId} {inf : TypeInfo} {z : Value} {s x : Operand} {A : Option Addr} {m c2 n : Nat} {xs : List Value} (k j ob size : Nat) (cur news : List Value) (hop : o.op = .call ⟨.builtin .append, #[s, x], #[t, t]⟩) (ht : P.underlying t = some (.slice e)) (hif : P.info? e = some inf) (hz : inf.zero = some z) (hzs : z.cells.size = inf.size) (hsz : inf.size = size) (hpos : 0 < size) (hbytes : inf.bytes ≤ 100000)
    (hs : f.ev s = .p (.c (.row j))) (hSj : S[j]? = some (.row e size n xs)) (hx : f.ev x = one (.slice A m c2)) (hSk : S[k]? = some (objOw ob (.cells cur.toArray e (0, 0)))) (hG : G.fix.length ≤ j) (hl : news.length = m * size) (hnews : ∀ (j : Nat) u, news[j]? = some u → ∃ off, A = some ⟨ob, off, none⟩ ∧ cur[off + j]? = some u) (hone : ∀ u ∈ news, u.oneCell' = true) (hle : n + m ≤ 1000000000) (hdst : dstOk N.n o.dst = true)
    (hk : K ((Fr.kill j f).put o.dst (.p (.c (.row j)))) ((killS j S).set j (.row e size (n + m) (xs ++ news)))) : OpS P w0 G N o f S K := by
  subst hsz
  refine ⟨fun r a w hR hf hN hd next Q hK => ?_⟩
  have h1 := hf.ev s
  have h2 := hf.ev x
  rw [hs] at h1; rw [hx] at h2
  obtain ⟨b, hb, ⟨rfl, hh⟩, _⟩ := hR.own k _ hSk
  obtain ⟨v, hv, hob, hown⟩ := hR.own j _ hSj
  have hux := den_row h1
  rw [hux] at hv; injection hv with hv; subst hv
  obtain ⟨v', w', hrun, hown', hg, hbb⟩ := run_append_src (P := P) 0 t o.type e inf z ht hif hz hzs hpos _ n xs hown A m c2 news hl (fun j u hj => by
    obtain ⟨off, e1, e2⟩ := hnews j u hj
    exact ⟨b, off, e1, by simp [World.cell?, hh, e2]⟩) hone hle hbytes (Nat.zero_le _)
  obtain ⟨hR', hbut⟩ := hR.append hSj hG hux hown' hg hbb
  have hex : (execOp a.eval o).run P w = .ok (.value v') w' := by
    simp [execOp, hop, resolve, invoke, builtin, den_v h2, hrun]
  exact wp_of_value hex (hK _ _ _ _ hk ⟨_, hR', (hf.kill hbut).put (by simp [AV.den, Pc.den, CV.den, Env.set]) (by rw [hN]; exact hdst), (put_size a _ _).trans hN, (put_defers a _ _).trans hd⟩)
end
end Go.Proofs.Ytmjfgnnefcimiaa
namespace Go.Proofs.Ytmjfgnnefcimiaa
open Go.RowKit

/-- A memory that is not coherent. -/
structure MemP where
  data : List Int
  image : List Int
  oldData : List Int
  oldImage : List Int
  rights : List Int
structure MemP.ok (M : MemP) (n p : Nat) : Prop where
  ld : M.data.length = n
  li : M.image.length = n
  lr : M.rights.length = p
  np : n = 256 * p
  pmax : p ≤ 4096
  db : ∀ x ∈ M.data, 0 ≤ x ∧ x < 256
  ib : ∀ x ∈ M.image, 0 ≤ x ∧ x < 256
  rb : ∀ x ∈ M.rights, 0 ≤ x ∧ x < 8
section
variable {w0 : World} {G : Gs} {fid : FuncId} {S : List Ow} {K : AV → List Ow → Prop} {pre suf : List AV} {xs ys : List Value} {P : Program}
end
def MemP.right (M : MemP) (a r : Int) : Bool := decide (a < (M.data.length : Int)) && (((M.rights[(a / 256).toNat]?).getD 0) / r % 2 == 1)
end Go.Proofs.Ytmjfgnnefcimiaa
namespace Go.Proofs.Ytmjfgnnefcimiaa
open Go.RowKit

theorem QRun.useD {P : Program} {w0 : World} {G : Gs} {S : List Ow} {f : Fr} {o : Oper} {K : AV → Prop} (h : QRun P w0 G S f o K) {r : Env} {D : World → Prop} (hD : ∀ w, D w → Rel w0 G S r w) {w1 : World} (_ : D w1) {a : Act} (hf : FDen r f a) :
    ∃ v u, K v ∧ v.den r u ∧ ∀ w : World, D w → (execOp a.eval o).run P w = .ok (.value u) w := by
  obtain ⟨v, hK, hr⟩ := h.out
  obtain ⟨u, hd, hrun⟩ := hr r a hf
  exact ⟨v, u, hK, hd, fun w hw => hrun w (hD w hw)⟩
set_option maxHeartbeats 1000000 in
theorem qop_held {P : Program} {w0 : World} {G : Gs} {S : List Ow} {f : Fr} {o : Oper} {K : AV → Prop} (h : qop P w0 G S f o K) (hty : opTy P o.op = true) (hS0 : S = []) {r : Env} {D : World → Prop} (hD : ∀ w, D w → Rel w0 G S r w) {w1 : World} (hw1 : D w1) {a : Act} (hf : FDen r f a) :
    ∃ v u, K v ∧ v.den r u ∧ ∀ w : World, D w → (execOp a.eval o).run P w = .ok (.value u) w := by
  have hR := hD w1 hw1
  unfold qop at h
  split at h
  · -- move
    rename_i x hop
    have hx := hf.ev x
    refine ⟨f.ev x, a.eval x, ?_, hx, fun w _ => by simp [execOp, hop]⟩
    split at h <;> (rename_i he; rw [he]; exact h)
  · rename_i x hop
    have hx := hf.ev x
    refine ⟨f.ev x, a.eval x, ?_, hx, fun w _ => by simp [execOp, hop]⟩
    split at h <;> (rename_i he; rw [he]; exact h)
  · -- pick
    rename_i c x y hop
    have hc := hf.ev c
    have hx := hf.ev x
    have hy := hf.ev y
    split at h
    · rename_i b eb
      rw [eb] at hc
      have e1 := den_v hc
      have hrun : ∀ w : World, (execOp a.eval o).run P w = .ok (.value (if b then a.eval x else a.eval y)) w := fun w => by simp [execOp, hop, e1, asBool]
      split at h
      · rename_i p ep
        rw [ep] at hx
        have e2 := den_v hx
        split at h
        · rename_i q eq
          rw [eq] at hy
          have e3 := den_v hy
          refine ⟨_, _, h, den_one r _, fun w _ => ?_⟩
          rw [hrun w, e2, e3]
          cases b <;> rfl
        · cases b with
          | true => exact ⟨_, _, h, den_one r _, fun w _ => by rw [hrun w, e2]; rfl⟩
          | false => exact ⟨_, _, h, hy, fun w _ => by rw [hrun w]; rfl⟩
      · cases b with
        | true => exact ⟨_, _, h, hx, fun w _ => by rw [hrun w]; rfl⟩
        | false => exact ⟨_, _, h, hy, fun w _ => by rw [hrun w]; rfl⟩
    · exact h.elim
  · -- load
    rename_i t x hop
    have hx := hf.ev x
    subst hS0
    unfold loadK at h
    split at h
    · simp at h
    · simp at h
    · rename_i b off he
      rw [he] at hx
      have hu := den_v hx
      obtain ⟨v, u, hK, hd, hrun⟩ := oldK_sound h r
      exact ⟨v, u, hK, hd, fun w hw => by simp [execOp, hop, hu, hrun [] r w (hD w hw)]⟩
    · exact h.elim
  · -- nilCheck
    rename_i x hop
    have hx := hf.ev x
    split at h
    · rename_i i off he
      rw [he] at hx
      refine ⟨_, _, h, hx, fun w _ => ?_⟩
      obtain ⟨b, hb, hu⟩ := den_ref hx
      simp [execOp, hop, hu]
    · rename_i fn cap he
      rw [he] at hx
      refine ⟨_, _, h, hx, fun w _ => ?_⟩
      obtain ⟨us, hu, _⟩ := den_clo hx
      simp [execOp, hop, hu]
    · rename_i p he
      rw [he] at hx
      refine ⟨_, _, h, hx, fun w _ => ?_⟩
      have hu := den_v hx
      simp [execOp, hop, hu]
    · exact QRun.useD h hD hw1 hf
  · -- binOp
    rename_i op t x y t' hop
    have hx := hf.ev x
    have hy := hf.ev y
    split at h
    · rename_i k p ep
      rw [ep] at hx
      have e1 := den_v hx
      split at h
      · rename_i k' q eq
        rw [eq] at hy
        have e2 := den_v hy
        have hg : ∀ w : World, (eqGuard op t x y (.int k p) (.int k' q)).run P w = .ok () w := fun w => by
          unfold eqGuard; cases op <;> simp
        split at h
        · obtain ⟨u, hK, hrun⟩ := shiftK_sound (P := P) (t := t) (k' := k') h
          exact ⟨_, u, hK, den_one r u, fun w _ => by simp [execOp, hop, e1, e2, hg w, hrun w]⟩
        · obtain ⟨u, hK, hrun⟩ := shiftK_sound (P := P) (t := t) (k' := k') h
          exact ⟨_, u, hK, den_one r u, fun w _ => by simp [execOp, hop, e1, e2, hg w, hrun w]⟩
        · split at h
          · rename_i hk
            have hk := of_decide_eq_true hk
            subst hk
            obtain ⟨u, hK, hrun⟩ := binK_sound (P := P) (t := t) h
            exact ⟨_, u, hK, den_one r u, fun w _ => by simp [execOp, hop, e1, e2, hg w, hrun w]⟩
          · exact h.elim
      · exact QRun.useD h hD hw1 hf
    · exact QRun.useD h hD hw1 hf
  · -- unOp
    rename_i op t x hop
    have hx := hf.ev x
    split at h
    · rename_i p ep
      rw [ep] at hx
      have e1 := den_v hx
      exact ⟨_, _, h, den_one r _, fun w _ => by simp [execOp, hop, e1, Op.unary]⟩
    · exact QRun.useD h hD hw1 hf
  · -- convert
    rename_i src dst x hop
    have hx := hf.ev x
    split at h
    · rename_i k n ep
      rw [ep] at hx
      have e1 := den_v hx
      split at h
      · rename_i q0 hq0
        split at h
        · rename_i q hq
          obtain ⟨m, hm, hK⟩ := h
          exact ⟨_, _, hK, den_one r _, fun w _ => by simp [execOp, hop, e1, convert, underlying, hq0, hq, Conv.intToInt, hm]⟩
        · exact QRun.useD h hD hw1 hf
      · exact QRun.useD h hD hw1 hf
    · exact QRun.useD h hD hw1 hf
  · -- fieldAddr
    rename_i s x k hop
    have hx := hf.ev x
    split at h
    · rename_i i off he
      rw [he] at hx
      obtain ⟨b, hb, hu⟩ := den_ref hx
      split at h
      · rename_i n hn
        exact ⟨_, _, h, den_mk_ref hb, fun w _ => by simp [execOp, hop, hu, run_fieldAt hn]⟩
      · exact h.elim
    · rename_i b off he
      rw [he] at hx
      have hu := den_v hx
      split at h
      · rename_i n hn
        exact ⟨_, _, h, den_one r _, fun w _ => by simp [execOp, hop, hu, run_fieldAt hn]⟩
      · exact h.elim
    · exact h.elim
  · -- field
    rename_i t x k hop
    have hx := hf.ev x
    split at h
    · rename_i l he
      rw [he] at hx
      obtain ⟨us, hu, hl⟩ := den_agg hx
      unfold fldK at h
      split at h
      · rename_i fs hs
        split at h
        · rename_i fl hfl
          obtain ⟨v, u, hK, hd, hrun⟩ := run_part h hl
          exact ⟨v, u, hK, hd, fun w _ => by simp [execOp, hop, hu, Instr.field, underlying, hs, hfl, asAgg, hrun w]⟩
        · exact h.elim
      · exact h.elim
    · exact h.elim
  · -- extract
    rename_i x k hop
    have hx := hf.ev x
    split at h
    · rename_i l he
      rw [he] at hx
      obtain ⟨us, hu, hl⟩ := hx
      split at h
      · rename_i p hp
        obtain ⟨u, h1, h2⟩ := pdenL_at hl hp
        exact ⟨_, u, h, h2, fun w _ => by simp [execOp, hop, hu, Instr.extract, h1]⟩
      · exact h.elim
    · exact h.elim
  · -- build
    rename_i t parts hop
    obtain ⟨v, u, hK, hd, hrun⟩ := buildK_sound hR hf h
    exact ⟨v, u, hK, hd, fun w _ => by simp only [execOp, hop, Sem.run_bind, hrun w, Result.andThen_ok, Sem.run_pure]⟩
  · -- makeFunc
    rename_i fn first cap hop
    split at h
    · rename_i hfirst
      have ef : first = #[] := Array.ext' hfirst
      split at h
      · rename_i hcap
        have ec : cap = #[] := Array.ext' hcap
        exact ⟨_, .func (.func fn) #[] #[], h, by simp [AV.den, Pc.den, CV.den, denL], fun w _ => by simp [execOp, hop, Instr.makeFunc, ef, ec]⟩
      · rename_i x hcap
        have ec : cap = #[x] := Array.ext' hcap
        have hx := hf.ev x
        split at h
        · rename_i c he
          rw [he] at hx
          refine ⟨_, .func (.func fn) #[] #[a.eval x], h, ?_, fun w _ => by simp [execOp, hop, Instr.makeFunc, ef, ec]⟩
          simp only [AV.den, Pc.den, CV.den, denL]
          exact ⟨[a.eval x], rfl, _, _, rfl, hx, rfl⟩
        · exact h.elim
      · exact QRun.useD h hD hw1 hf
    · exact QRun.useD h hD hw1 hf
  · -- indexAddr
    rename_i t x ix hop
    rw [hop] at hty
    have hx := hf.ev x
    have hi := hf.ev ix
    split at h
    · rename_i b off n c he
      rw [he] at hx
      have hu := den_v hx
      split at h
      · rename_i q k hk
        rw [hk] at hi
        have hu2 := den_v hi
        split at h
        · rename_i e ht
          simp only [opTy, ht] at hty
          obtain ⟨i, hie⟩ := Option.isSome_iff_exists.1 hty
          obtain ⟨⟨h0, h1⟩, hK⟩ := h
          refine ⟨_, _, hK, den_one r _, fun w _ => ?_⟩
          simp only [execOp, hop, hu, hu2, Sem.run_bind, run_indexAt_slice ht hie h0 h1, Result.andThen_ok, Sem.run_pure, tsz_sizeOf hie]
        · exact h.elim
      · exact h.elim
    · rename_i i he
      rw [he] at hx
      split at h
      · rename_i q k hk
        rw [hk] at hi
        have hu2 := den_v hi
        split at h
        · rename_i e ht
          simp only [opTy, ht] at hty
          obtain ⟨i', hie⟩ := Option.isSome_iff_exists.1 hty
          split at h
          · rename_i e' size n xs hS
            obtain ⟨⟨h0, h1⟩, hK⟩ := h
            obtain ⟨v, hv1, hv2, hv3⟩ := hR.own i _ hS
            have hux : r.val i = some (a.eval x) := by simpa only [AV.den, Pc.den, CV.den] using hx
            rw [hux] at hv1; injection hv1 with hv1
            rcases hv3.2 with ⟨hn, hz⟩ | ⟨g, cap, cur, hv, _⟩
            · omega
            · rw [← hv1] at hv hv2
              have hb : r.blk i = some g := by rw [← hv2, hv]; rfl
              refine ⟨_, _, hK, den_mk_ref hb, fun w _ => ?_⟩
              simp only [execOp, hop, hv, hu2, Sem.run_bind, run_indexAt_slice ht hie h0 h1, Result.andThen_ok, Sem.run_pure, tsz_sizeOf hie, Nat.zero_add]
          · rename_i n xs hS
            obtain ⟨⟨h0, h1, hpos⟩, hK⟩ := h
            obtain ⟨A, c, hv1, hv2, hv3, hv4, hv5⟩ := hR.own i _ hS
            have hux : r.val i = some (a.eval x) := by simpa only [AV.den, Pc.den, CV.den] using hx
            obtain ⟨b, off, hA, _⟩ := hv5 0 xs[0] (by simp [hpos])
            subst hA
            rw [hux] at hv1; injection hv1 with hv1
            refine ⟨_, .pointer (some ⟨b, off + k.toNat * i'.size, none⟩), hK, ?_, fun w _ => ?_⟩
            · simp only [AV.den, Pc.den, CV.den]
              exact ⟨b, off, n, c, by rw [hux, hv1], by rw [tsz_sizeOf hie]⟩
            · simp only [execOp, hop, hv1, hu2, Sem.run_bind, run_indexAt_slice ht hie h0 h1, Result.andThen_ok, Sem.run_pure]
          · exact h.elim
        · exact h.elim
      · exact h.elim
    · rename_i i off n c he
      rw [he] at hx
      have hux : ∃ b, r.blk i = some b ∧ a.eval x = .slice (some ⟨b, off, none⟩) n c := by simpa only [AV.den, Pc.den, CV.den] using hx
      obtain ⟨b, hb, hu⟩ := hux
      split at h
      · rename_i q k hk
        rw [hk] at hi
        have hu2 := den_v hi
        split at h
        · rename_i e ht
          simp only [opTy, ht] at hty
          obtain ⟨i', hie⟩ := Option.isSome_iff_exists.1 hty
          obtain ⟨⟨h0, h1⟩, hK⟩ := h
          refine ⟨_, _, hK, den_mk_ref hb, fun w _ => ?_⟩
          simp only [execOp, hop, hu, hu2, Sem.run_bind, run_indexAt_slice ht hie h0 h1, Result.andThen_ok, Sem.run_pure, tsz_sizeOf hie]
        · exact h.elim
      · exact h.elim
    · rename_i i off he
      rw [he] at hx
      obtain ⟨b, hb, hu⟩ := den_ref hx
      split at h
      · rename_i q k hk
        rw [hk] at hi
        have hu2 := den_v hi
        split at h
        · rename_i n e ht
          simp only [opTy, ht] at hty
          obtain ⟨i', hie⟩ := Option.isSome_iff_exists.1 hty
          obtain ⟨⟨h0, h1⟩, hK⟩ := h
          refine ⟨_, _, hK, den_mk_ref hb, fun w _ => ?_⟩
          simp only [execOp, hop, hu, hu2, Sem.run_bind, run_indexAt_array ht hie h0 h1, Result.andThen_ok, Sem.run_pure, tsz_sizeOf hie]
        · exact h.elim
      · exact h.elim
    · exact QRun.useD h hD hw1 hf
  · -- index
    rename_i t x ix hop
    rw [hop] at hty
    have hx := hf.ev x
    have hi := hf.ev ix
    split at h
    · rename_i l he
      rw [he] at hx
      obtain ⟨us, hu, hl⟩ := den_agg hx
      split at h
      · rename_i q k hk
        rw [hk] at hi
        have hu2 := den_v hi
        split at h
        · rename_i n e ht
          simp only [opTy, ht] at hty
          obtain ⟨i', hie⟩ := Option.isSome_iff_exists.1 hty
          obtain ⟨⟨h0, h1⟩, hK⟩ := h
          obtain ⟨v, u, hK', hd, hrun⟩ := run_part hK hl
          refine ⟨v, u, hK', hd, fun w _ => ?_⟩
          have e3 := hrun w
          rw [tsz_sizeOf hie] at e3
          simp [execOp, hop, hu, hu2, Instr.index, asIntOf, underlying, ht, h0, h1, run_sizeOf P e w hie, e3]
        · exact h.elim
      · exact h.elim
    · exact QRun.useD h hD hw1 hf
  · -- len
    rename_i args tys hop
    split at h
    · rename_i x hargs
      have ea : args = #[x] := Array.ext' hargs
      split at h
      · rename_i t htys
        have et : tys = #[t] := Array.ext' htys
        split at h
        · rename_i e ht
          have hx := hf.ev x
          split at h
          · rename_i A n c he
            rw [he] at hx
            have hu := den_v hx
            exact ⟨_, _, h, den_one r _, fun w _ => by simp [execOp, hop, ea, et, resolve, invoke, builtin, Builtin.len_, underlying, ht, hu, goInt]⟩
          · rename_i i off n c he
            rw [he] at hx
            have hux : ∃ b, r.blk i = some b ∧ a.eval x = .slice (some ⟨b, off, none⟩) n c := by simpa only [AV.den, Pc.den, CV.den] using hx
            obtain ⟨b, hb, hu⟩ := hux
            exact ⟨_, _, h, den_one r _, fun w _ => by simp [execOp, hop, ea, et, resolve, invoke, builtin, Builtin.len_, underlying, ht, hu, goInt]⟩
          · rename_i i he
            rw [he] at hx
            split at h
            · rename_i e' size n xs hS
              obtain ⟨v, hv1, hv2, hv3⟩ := hR.own i _ hS
              have hux : r.val i = some (a.eval x) := by simpa only [AV.den, Pc.den, CV.den] using hx
              rw [hux] at hv1; injection hv1 with hv1
              obtain ⟨A, c, hv⟩ := row_slice hv3
              rw [← hv1] at hv
              exact ⟨_, _, h, den_one r _, fun w _ => by simp [execOp, hop, ea, et, resolve, invoke, builtin, Builtin.len_, underlying, ht, hv, goInt]⟩
            · rename_i n xs hS
              obtain ⟨A, c, hv1, _⟩ := hR.own i _ hS
              have hux : r.val i = some (a.eval x) := by simpa only [AV.den, Pc.den, CV.den] using hx
              rw [hux] at hv1; injection hv1 with hv1
              exact ⟨_, _, h, den_one r _, fun w _ => by simp [execOp, hop, ea, et, resolve, invoke, builtin, Builtin.len_, underlying, ht, hv1, goInt]⟩
            · exact h.elim
          · exact h.elim
        · exact QRun.useD h hD hw1 hf
      · exact h.elim
    · exact h.elim
  · exact QRun.useD h hD hw1 hf
end Go.Proofs.Ytmjfgnnefcimiaa
namespace Go.Proofs.Ytmjfgnnefcimiaa
open Go.RowKit

theorem fin_view {w0 : World} {S : List Ow} {i n : Nat} {xs : List Value} {φ : Option Addr → Prop} {l : List BOp} {x1 x2 : Value} {R : Ending → World → Prop} (hi : S[i]? = some (.view φ n xs)) (hn : n = l.length) (hx : xs = l.flatMap opC)
    (h : ∀ w' A c, OpsAt w' w'.heap.size A l → l.length ≤ c → c ≤ maxLen → φ A → Below w0.heap.size w0 w' → R (.returned (.agg #[x1, x2, .slice A l.length c])) w') : Fin w0 Gs.nil S (.p (.agg [.v x1, .v x2, .row i])) R := by
  refine ⟨fun r w u hR hd => ?_⟩
  subst hn; subst hx
  obtain ⟨us, rfl, hl⟩ := den_agg hd
  simp only [denL] at hl
  obtain ⟨u1, l1, rfl, d1, u2, l2, rfl, d2, u3, l3, rfl, d3, rfl⟩ := hl
  simp only [CV.den] at d1 d2 d3
  subst d1; subst d2
  obtain ⟨A, c, rfl, hs, hc1, hc2, hA, _⟩ := viewAt hR hi d3
  exact h w A c hs hc1 hc2 hA hR.toBelow
theorem call_equal_views {w0 : World} {G : Gs} {S : List Ow} {K : AV → List Ow → Prop} (i j : Nat) (l m : List BOp) {φ ψ : Option Addr → Prop} (hi : S[i]? = some (.view φ l.length (l.flatMap opC))) (hj : S[j]? = some (.view ψ m.length (m.flatMap opC))) (hl : l.length ≤ 1000000) (hK : K (one (.bool (l == m))) S) :
    CallS Try.prog w0 G 77 [.p (.c (.row i)), .p (.c (.row j))] S K := by
  refine callS_val (.bool (l == m)) (by kernel_rfl) (fun r w us hR hd => ?_) hK
  obtain ⟨u1, l1, rfl, d1, u2, l2, rfl, d2, d3⟩ := hd
  obtain rfl : l2 = [] := d3
  obtain ⟨A, c, rfl, hs, _⟩ := viewAt hR hi (den_row d1)
  obtain ⟨A', c', rfl, hs', _⟩ := viewAt hR hj (den_row d2)
  exact equal_ops A A' c c' l m w hs hs' hl
def passV : List Value := [.func (.func 17) #[] #[], .func (.func 18) #[] #[], .func (.func 19) #[] #[]]
structure RepSt (mu : Blk → Nat) (b0 : Blk) where
  b : Blk
  ok : b.ok
  hat : b.at_ = b0.at_
  hpg : b.pages = b0.pages
  eq : optN (mu b0) b0 = optN (mu b) b
set_option maxRecDepth 100000 in
theorem repeat_walk (mu : Blk → Nat) (hmu : ∀ b, b.ok → (onceP b).ops ≠ b.ops → mu (onceP b) < mu b) (b : Blk) (A1 A2 A3 : Option Addr) (c1 c2 c3 bp : Nat) (w : World) (hb : b.ok) (h1 : SlAt w w.heap.size A1 (b.at_.map (.int .u32))) (h2 : SlAt w w.heap.size A2 (b.pages.map (.int .i64))) (h3 : OpsAt w w.heap.size A3 b.ops) (hc3 : b.ops.length ≤ c3) (hm3 : c3 ≤ maxLen)
    (hp : SlAt w w.heap.size (some ⟨bp, 0, none⟩) passV) :
    Calls Try.prog 51 #[.agg #[.slice A1 b.at_.length c1, .slice A2 b.pages.length c2, .slice A3 b.ops.length c3], .slice (some ⟨bp, 0, none⟩) 3 3] w fun e w' =>
      ∃ A c, e = .returned (.agg #[.slice A1 b.at_.length c1, .slice A2 b.pages.length c2, .slice A (optN (mu b) b).ops.length c]) ∧ OpsAt w' w'.heap.size A (optN (mu b) b).ops ∧ (optN (mu b) b).ops.length ≤ c ∧ c ≤ maxLen ∧ (Fresh w.heap.size A ∨ A = A3) ∧ Below w.heap.size w w' := by
  obtain ⟨φ, hφ⟩ : ∃ φ : Option Addr → Prop, φ = fun A => Fresh w.heap.size A ∨ A = A3 := ⟨_, rfl⟩
  have hφ1 : ∀ A, Fresh w.heap.size A → φ A := fun A h => by rw [hφ]; exact .inl h
  have hφ2 : φ A3 := by rw [hφ]; exact .inr rfl
  have cellP : ∀ (k : Nat) (v : Value), passV[k]? = some v → CellsAt w Gs.nil bp k [v] := fun k v hk => by
    obtain ⟨b', off, e1, e2, e3⟩ := hp k v hk
    injection e1 with e1; injection e1 with e1 e4; subst e1; subst e4
    exact cells_one e2 (by simp) (by rwa [Nat.zero_add] at e3)
  refine calls_val [.agg #[.slice A1 b.at_.length c1, .slice A2 b.pages.length c2, .slice A3 b.ops.length c3], .slice (some ⟨bp, 0, none⟩) 3 3] Try.func51 Try.ntmps51 rfl (by simp) ?_
  conv => whnf
  refine ⟨RepSt mu b, fun x => [(1, one (.slice (some ⟨bp, 0, none⟩) 3 3)), (2, .p (.c (.ref 0 0))), (4, .p (.c (.ref 1 0)))],
    fun x => [.cells 32 [.v (.slice A1 b.at_.length c1), .v (.slice A2 b.pages.length c2), .row 2], .cells 32 [.v (.slice none 0 0), .v (.slice none 0 0), .v (.slice none 0 0)], .view φ x.b.ops.length (x.b.ops.flatMap opC)],
    fun x => mu x.b, ⟨⟨b, hb, rfl, rfl, rfl⟩, ?_⟩, fun x => ?_⟩
  · exact ent_trans (ent_view (φ := φ) (f' := [(1, one (.slice (some ⟨bp, 0, none⟩) 3 3)), (2, .p (.c (.ref 0 0))), (4, .p (.c (.ref 1 0)))]) 0 2 rfl rfl h3 hc3 hm3 hφ2 (aI rfl (aI rfl (aI rfl trivial)))) (ent_same rfl (aI rfl (aI rfl (aI rfl trivial))) (aI ((aI rfl (Or.inl rfl))) (aI ((aI rfl (Or.inl rfl))) (aI ((aI rfl (aI rfl rfl))) trivial))))
  have hok := x.ok
  have hlen : x.b.ops.length ≤ 1000000 := x.ok.lops
  have hat := x.hat
  have hpg := x.hpg
  have heq := x.eq
  conv => whnf
  refine ⟨{ k : Nat // k ≤ 3 }, fun y => [(1, one (.slice (some ⟨bp, 0, none⟩) 3 3)), (2, .p (.c (.ref 0 0))), (4, .p (.c (.ref 1 0))), (5, .p (.c (.ref 3 0))), (9, one (.slice (some ⟨bp, 0, none⟩) 3 3)), (10, one (.int .i64 3)), (11, one (.int .i64 y.1))],
    fun y => [.cells 32 [.v (.slice A1 b.at_.length c1), .v (.slice A2 b.pages.length c2), .row 4], .cells 32 [.v (.slice none 0 0), .v (.slice none 0 0), .v (.slice none 0 0)], .view φ x.b.ops.length (x.b.ops.flatMap opC), .cells 32 [.v (.slice A1 b.at_.length c1), .v (.slice A2 b.pages.length c2), .row 2], .view φ (passN y.1 x.b).ops.length ((passN y.1 x.b).ops.flatMap opC)],
    fun y => 3 - y.1, ⟨⟨0, by omega⟩, ?_⟩, fun y => ?_⟩
  · exact ent_ren [0, 1, 2, 3, 2] (aI rfl (aI rfl (aI rfl (aI rfl (aI rfl (aI rfl (aI rfl trivial))))))) (aI ((Exists.intro _ (aI rfl (aI rfl (Or.inl rfl))))) (aI ((Exists.intro _ (aI rfl (aI rfl (Or.inl rfl))))) (aI ((Exists.intro _ (aI rfl (aI rfl (aI rfl rfl))))) (aI ((Exists.intro _ (aI rfl (aI rfl (Or.inl rfl))))) (aI ((Exists.intro _ (aI rfl (aI rfl (aI rfl rfl))))) trivial))))) rfl rfl rfl rfl rfl
  obtain ⟨k, hk⟩ := y
  match k, hk with
  | 0, _ =>
    conv => whnf
    refine ⟨fun _ => ?_, (fun h => by simp at h)⟩
    conv => whnf
    refine ⟨⟨by dsimp only; decide, by dsimp only; decide⟩, ?_⟩
    conv => whnf
    refine ⟨_, cellP 0 _ rfl, ?_⟩
    conv => whnf
    refine call_pass_at fold_pass (by kernel_rfl) 4 x.b b rfl hok hat hpg fold_nil h1 h2 hφ1 ?_
    conv => whnf
    refine ⟨1, rfl, ?_⟩
    conv => whnf
    exact ⟨⟨1, by omega⟩, ent_ren [0, 1, 2, 3, 5] (aI rfl (aI rfl (aI rfl (aI rfl (aI rfl (aI rfl (aI rfl trivial))))))) (aI ((Exists.intro _ (aI rfl (aI rfl (Or.inl rfl))))) (aI ((Exists.intro _ (aI rfl (aI rfl (Or.inl rfl))))) (aI ((Exists.intro _ (aI rfl (aI rfl (aI rfl rfl))))) (aI ((Exists.intro _ (aI rfl (aI rfl (Or.inl rfl))))) (aI ((Exists.intro _ (aI rfl (aI rfl (aI rfl rfl))))) trivial))))) rfl rfl rfl rfl rfl, by dsimp only; decide⟩
  | 1, _ =>
    conv => whnf
    refine ⟨fun _ => ?_, (fun h => by simp at h)⟩
    conv => whnf
    refine ⟨⟨by dsimp only; decide, by dsimp only; decide⟩, ?_⟩
    conv => whnf
    refine ⟨_, cellP 1 _ rfl, ?_⟩
    conv => whnf
    refine call_pass_at copies_pass (by kernel_rfl) 4 (foldP x.b) b rfl (foldP_ok hok) hat hpg copy_nil h1 h2 hφ1 ?_
    conv => whnf
    refine ⟨2, rfl, ?_⟩
    conv => whnf
    exact ⟨⟨2, by omega⟩, ent_ren [0, 1, 2, 3, 5] (aI rfl (aI rfl (aI rfl (aI rfl (aI rfl (aI rfl (aI rfl trivial))))))) (aI ((Exists.intro _ (aI rfl (aI rfl (Or.inl rfl))))) (aI ((Exists.intro _ (aI rfl (aI rfl (Or.inl rfl))))) (aI ((Exists.intro _ (aI rfl (aI rfl (aI rfl rfl))))) (aI ((Exists.intro _ (aI rfl (aI rfl (Or.inl rfl))))) (aI ((Exists.intro _ (aI rfl (aI rfl (aI rfl rfl))))) trivial))))) rfl rfl rfl rfl rfl, by dsimp only; decide⟩
  | 2, _ =>
    conv => whnf
    refine ⟨fun _ => ?_, (fun h => by simp at h)⟩
    conv => whnf
    refine ⟨⟨by dsimp only; decide, by dsimp only; decide⟩, ?_⟩
    conv => whnf
    refine ⟨_, cellP 2 _ rfl, ?_⟩
    conv => whnf
    refine call_pass_at dead_pass (by kernel_rfl) 4 (copyP (foldP x.b)) b rfl (copyP_ok (foldP_ok hok)) hat hpg dead_nil h1 h2 hφ1 ?_
    conv => whnf
    refine ⟨3, rfl, ?_⟩
    conv => whnf
    exact ⟨⟨3, by omega⟩, ent_ren [0, 1, 2, 3, 5] (aI rfl (aI rfl (aI rfl (aI rfl (aI rfl (aI rfl (aI rfl trivial))))))) (aI ((Exists.intro _ (aI rfl (aI rfl (Or.inl rfl))))) (aI ((Exists.intro _ (aI rfl (aI rfl (Or.inl rfl))))) (aI ((Exists.intro _ (aI rfl (aI rfl (aI rfl rfl))))) (aI ((Exists.intro _ (aI rfl (aI rfl (Or.inl rfl))))) (aI ((Exists.intro _ (aI rfl (aI rfl (aI rfl rfl))))) trivial))))) rfl rfl rfl rfl rfl, by dsimp only; decide⟩
  | 3, _ =>
    conv => whnf
    refine ⟨(fun h => by simp at h), fun _ => ?_⟩
    conv => whnf
    refine ⟨_, _, ent_refl, ?_⟩
    conv => whnf
    refine call_equal_views 2 4 x.b.ops (onceP x.b).ops rfl rfl hlen ?_
    conv => whnf
    refine ⟨fun h => ?_, fun h => ?_⟩
    · have he : (onceP x.b).ops = x.b.ops := (by simpa using h : x.b.ops = (onceP x.b).ops).symm
      conv => whnf
      refine ⟨_, _, ent_refl, ?_⟩
      conv => whnf
      rw [optN_same he] at heq
      refine fin_view (i := 4) (l := (onceP x.b).ops) rfl rfl rfl fun w' A c e1 e2 e3 e4 e5 => ?_
      rw [heq, ← he]
      exact ⟨A, c, rfl, e1, e2, e3, by rw [hφ] at e4; exact e4, e5⟩
    · have he : (onceP x.b).ops ≠ x.b.ops := fun e => by rw [e] at h; simp at h
      conv => whnf
      exact ⟨⟨onceP x.b, onceP_ok hok, hat, hpg, by rw [heq, optN_step hmu hok he]⟩, ent_ren [0, 1, 4] (aI rfl (aI rfl (aI rfl trivial))) (aI ((Exists.intro _ (aI rfl (aI rfl (Or.inl rfl))))) (aI ((Exists.intro _ (aI rfl (aI rfl (Or.inl rfl))))) (aI ((Exists.intro _ (aI rfl (aI rfl (aI rfl rfl))))) trivial))) rfl rfl rfl rfl rfl, hmu _ hok he⟩
end Go.Proofs.Ytmjfgnnefcimiaa
namespace Go.Proofs.Ytmjfgnnefcimiaa
open Go.RowKit

def ndsOf {l : List BOp} (pre : List (Elt l)) : List (Nat × BOp) := pre.map fun x => x.1
theorem ndsOf_formed {l : List BOp} (h : ∀ o ∈ l, formedB o = true) (pre : List (Elt l)) : ∀ x ∈ ndsOf pre, formedB x.2 = true := fun o ho => by
  obtain ⟨x, _, rfl⟩ := List.mem_map.1 ho
  exact h _ (List.mem_of_getElem? x.2)
theorem ndsOf_snoc {l : List BOp} (pre : List (Elt l)) (x : Elt l) : ndsOf (pre ++ [x]) = ndsOf pre ++ [x.1] := by simp [ndsOf]
theorem ndsOf_all {l : List BOp} {xs : List (Elt l)} (h : AllDown xs) : (liveRun l.length (ndsOf xs)).row = liveL l := by
  refine liveRun_all l (fun x hx => ?_) ?_
  · obtain ⟨y, _, rfl⟩ := List.mem_map.1 hx; exact y.2
  · unfold AllDown at h
    rw [show (ndsOf xs).map (·.1) = xs.map fun x => x.1.1 by simp [ndsOf], h]
    simp [downTo]
set_option maxRecDepth 100000 in
theorem live_opt (b : Blk) (A1 A2 A3 : Option Addr) (c1 c2 c3 : Nat) (w : World) (hb : b.ok) (h2 : SlAt w w.heap.size A2 (b.pages.map (.int .i64))) (h3 : OpsAt w w.heap.size A3 b.ops) :
    Calls Try.prog 27 #[.agg #[.slice A1 b.at_.length c1, .slice A2 b.pages.length c2, .slice A3 b.ops.length c3]] w fun e w' =>
      ∃ A c, e = .returned (.slice A (liveAll b).length c) ∧ SlAt w' w'.heap.size A ((liveAll b).map natV) ∧ (liveAll b).length ≤ c ∧ c ≤ maxLen ∧ Fresh w.heap.size A ∧ Below w.heap.size w w' := by
  refine calls_satq [.agg #[.slice A1 b.at_.length c1, .slice A2 b.pages.length c2, .slice A3 b.ops.length c3]] Try.func27 Try.ntmps27 rfl (by simp) ?_
  refine satq_seq ?_
  conv => whnf
  refine satq_seq ?_
  conv => whnf
  refine call_con rfl (by kernel_rfl) (fun r w' hR => valid_ir A1 A2 A3 c1 c2 c3 b w' hb (sl_later h2 hR.toBelow) (sl_later h3 hR.toBelow)) ?_
  conv => whnf
  refine ⟨fun hn => ?_, fun hn => ?_⟩
  · have hv : validB b = false := by simpa using hn
    have hF : liveAll b = [] := by unfold liveAll; rw [hv]; rfl
    conv => whnf
    refine atq_ret ?_
    conv => whnf
    refine fin_val rfl fun w' hB => ⟨none, 0, by rw [hF]; rfl, by rw [hF]; intro j u hj; simp at hj, by rw [hF]; exact Nat.le_refl _, by decide, nofun, hB⟩
  have hv : validB b = true := by simpa using hn
  have hF : liveAll b = liveL b.ops := by unfold liveAll; rw [hv]; rfl
  obtain ⟨hpos, hmax⟩ := valid_pos hv
  obtain ⟨bb, off, rfl⟩ := ops_addr h3 hpos
  have hform := valid_formed hv
  conv => whnf
  refine satq_seq ?_
  conv => whnf
  refine op_makeSlice (e := 24) (z := .int .u32 0) 1 b.ops.length rfl rfl rfl rfl rfl rfl rfl (by omega) (by show 4 * _ ≤ _; omega) (by simp [maxLen]; omega) rfl (zero_row _) ?_
  conv => whnf
  refine satq_seq ?_
  conv => whnf
  refine satq_in ?_
  refine satq_seq ?_
  conv => whnf
  refine call_backward ?_
  conv => whnf
  refine satq_block ?_
  refine satq_back (N := 27) (m := 3) (V := [.cells 32 [.v (.slice A1 b.at_.length c1), .v (.slice A2 b.pages.length c2), .v (.slice (some ⟨bb, off, none⟩) b.ops.length c3)], .row 24 1 b.ops.length ((List.replicate b.ops.length 0).map natV), .cells 29 [.row 1], .cells 24 [.v (.int .u32 0)]])
    (A := [.cells 32 [.v (.slice A1 b.at_.length c1), .v (.slice A2 b.pages.length c2), .v (.slice (some ⟨bb, off, none⟩) b.ops.length c3)], .cells 29 [.row 3], .cells 24 [.v (.int .u32 0)]]) (T := [.row 24 1 b.ops.length ((List.replicate b.ops.length 0).map natV)])
    (f0 := [(1, .p (.c (.ref 0 0))), (3, .p (.c (.ref 2 0))), (4, .p (.c (.ref 3 0)))]) (fa := [(1, .p (.c (.ref 0 0))), (3, .p (.c (.ref 1 0))), (4, .p (.c (.ref 2 0)))])
    h3 (ops_lt h3 hpos) (by omega) rfl ⟨rfl, rfl⟩ (aI rfl (aI rfl (aI rfl trivial))) rfl rfl
    (fun pre => [.cells 32 [.v (.slice A1 b.at_.length c1), .v (.slice A2 b.pages.length c2), .v (.slice (some ⟨bb, off, none⟩) b.ops.length c3)], .cells 29 [.row 3], .cells 24 [.v (.int .u32 ((liveRun b.ops.length (ndsOf pre)).live : Int))], .row 24 1 b.ops.length ((liveRun b.ops.length (ndsOf pre)).row.map natV)])
    rfl rfl rfl (fun _ => rfl) (fun _ => rfl) (fun _ => rfl) (entB_ren [0, 2, 3, 1] (aI rfl (aI rfl (aI rfl trivial))) (aI ((Exists.intro _ (aI rfl (aI rfl (Or.inl rfl))))) (aI ((Exists.intro _ (aI rfl (aI rfl (Or.inl rfl))))) (aI ((Exists.intro _ (aI rfl (aI rfl (Or.inl rfl))))) (aI ((Exists.intro _ (aI rfl (aI rfl (aI rfl (aI rfl rfl)))))) trivial)))) rfl rfl rfl) rfl 1 (by omega) (fun pre => ⟨_, _, _, _, _, rfl, rfl⟩)
    (fun x => [(1, .p (.c (.ref 0 0))), (3, .p (.c (.ref 1 0))), (4, .p (.c (.ref 2 0))), (5, one (.int .i64 (x.1.1 : Int))), (6, .p (.c (.ref 4 0)))]) (fun _ => rfl) ?_ ?_ ?_
  · rintro W gs ext lp pre x hgs
    match gs, hgs with
    | [g0, g1, g2], _ =>
    conv => whnf
    exact ⟨rfl, ent_same rfl (aI rfl (aI rfl (aI rfl (aI rfl (aI rfl trivial))))) (aI ((aI rfl (Or.inl rfl))) (aI ((aI rfl (Or.inl rfl))) (aI ((aI rfl (Or.inl rfl))) (aI ((aI rfl (aI rfl (aI rfl rfl)))) (aI ((aI rfl (Or.inl rfl))) trivial)))))⟩
  · rintro W gs ext lp pre x hgs hpl
    match gs, hgs with
    | [g0, g1, g2], _ =>
    obtain ⟨o, ho⟩ : ∃ o, o = x.1.2 := ⟨_, rfl⟩
    obtain ⟨j, hj⟩ : ∃ j, j = x.1.1 := ⟨_, rfl⟩
    have hof : formedB o = true := by rw [ho]; exact hform _ (List.mem_of_getElem? x.2)
    have hjl : j < b.ops.length := by
      rw [hj]
      rcases Nat.lt_or_ge x.1.1 b.ops.length with h1 | h1
      · exact h1
      · have := x.2; rw [List.getElem?_eq_none h1] at this; cases this
    have hlive := liveRun_lt b.ops.length (ndsOf_formed hform pre)
    have hlen := liveRun_length b.ops.length (ndsOf pre)
    have hsnoc : liveRun b.ops.length (ndsOf (pre ++ [x])) = liveStep (liveRun b.ops.length (ndsOf pre)) (j, o) := by rw [ndsOf_snoc, liveRun_snoc, hj, ho]
    rw [hsnoc, ← ho, ← hj]
    generalize liveRun b.ops.length (ndsOf pre) = s at hlive hlen ⊢
    conv => whnf
    refine call_con rfl (by kernel_rfl) (fun r w' hR => before_opt o s.live hlive hof w') ?_
    conv => whnf
    refine ⟨⟨by omega, by omega⟩, ?_⟩
    conv => whnf
    have ht : (j : Int).toNat * tsz Try.prog 24 = j := by rw [Int.toNat_natCast]; exact Nat.mul_one j
    rw [ht]
    refine ⟨by simp [hlen]; omega, ?_⟩
    rw [setAll_ints]
    conv => whnf
    exact ⟨rfl, ent_drop trivial (aI ((aI rfl (Or.inl rfl))) (aI ((aI rfl (Or.inl rfl))) (aI ((aI rfl (Or.inl rfl))) (aI ((aI rfl (aI rfl (aI rfl rfl)))) trivial)))) rfl rfl⟩
  · intro D xs hxs
    refine atq_then ?_
    refine satq_seq ?_
    conv => whnf
    refine satq_vc ?_
    conv => whnf
    refine atq_ret_mark 4 rfl ?_
    conv => whnf
    rw [ndsOf_all hxs]
    refine fin_row (i := 3) rfl fun w' A c e1 e2 e3 e4 e5 => ?_
    rw [hF, liveL_length]
    exact ⟨A, c, rfl, e1, e2, e3, e4, e5⟩
end Go.Proofs.Ytmjfgnnefcimiaa
