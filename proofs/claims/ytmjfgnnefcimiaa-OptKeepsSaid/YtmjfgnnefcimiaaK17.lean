/- One operation's law holds; lists of operations, regions. Two operations compared by ==, !=. Lists of operations, code, functions, over states that are known part by part. Plain: a list turned about in place; the dead operations. -/
import Derived.Test.YtmjfgnnefcimiaaK1
import Derived.Test.YtmjfgnnefcimiaaK13
import Derived.Test.YtmjfgnnefcimiaaK14
import Derived.Test.YtmjfgnnefcimiaaK16
import Derived.Test.YtmjfgnnefcimiaaK3
import Derived.Test.YtmjfgnnefcimiaaK5
import Derived.Test.YtmjfgnnefcimiaaK6
namespace Go.Proofs.Ytmjfgnnefcimiaa
open Go.RowKit

section
variable {P : Program} {w0 : World} {G : Gs} {N : Nd} {o : Oper} {f : Fr} {S : List Ow} {K : Fr → List Ow → Prop}
variable {r : Env} {a : Act} {w : World} {next : Act → World → Prop} {Q : Exit → Act → World → Prop}

theorem good_value (_hR : Rel w0 G S r w) (hf : FDen r f a) (hN : a.tmps.size = N.n) (hd : a.defers = N.ds) (hdst : dstOk N.n o.dst = true) {v : AV} {u : Value} {S' : List Ow} {r' : Env} {w' : World} (hv : v.den r' u) (hR' : Rel w0 G S' r' w') (hle : r.le r') :
    Good w0 G N (f.put o.dst v) S' (a.put o.dst u) w' :=
  ⟨r', hR', (hf.mono hle).put hv (by rw [hN]; exact hdst), (put_size a _ _).trans hN, (put_defers a _ _).trans hd⟩
theorem alloc_new_holds (r : Env) (w : World) (n : Nat) (t : TypeId) {l : List CV} {us : List Value} (h : denL (r.set n (some w.heap.size) none) l us) : (Ow.cells t l).holds (r.set n (some w.heap.size) none) (w.alloc (.cells us.toArray t)) n :=
  ⟨w.heap.size, us, by simp [Env.set], heap_alloc_new w _, h⟩
theorem good_alloc (hR : Rel w0 G S r w) (hf : FDen r f a) (hN : a.tmps.size = N.n) (hd : a.defers = N.ds) (hdst : dstOk N.n o.dst = true) {t : TypeId} {l : List CV} {us : List Value} (hl : denL r l us) :
    Good w0 G N (f.put o.dst (.p (.c (.ref S.length 0)))) (S ++ [.cells t l]) (a.put o.dst (.pointer (some ⟨w.heap.size, 0, none⟩))) (w.alloc (.cells us.toArray t)) := by
  have hle := hR.le_new (some w.heap.size) none
  refine good_value hR hf hN hd hdst (r' := r.set S.length (some w.heap.size) none) (den_mk_ref (by simp [Env.set])) (hR.snoc ((Below.refl _ _).alloc (Nat.le_refl _) _) (fun x hx => by injection hx with hx; subst hx; simp) (alloc_new_holds r w _ t (denL_mono hle _ _ hl))) hle

theorem allocK_sound {t : TypeId} (hop : o.op = .alloc t) (h : allocK P o f S t K) (hdst : dstOk N.n o.dst = true) (hR : Rel w0 G S r w) (hf : FDen r f a) (hN : a.tmps.size = N.n) (hd : a.defers = N.ds)
    (hK : ∀ f' S' a' w', K f' S' → Good w0 G N f' S' a' w' → next a' w') : Oper.se P o a w next := by
  unfold allocK at h
  split at h
  · rename_i i hi
    split at h
    · rename_i z hz
      rw [forceS_iff, lenK_iff, forceL_iff, putK_iff] at h
      have hrun : (execOp a.eval o).run P w = .ok (.value (.pointer (some ⟨w.heap.size, 0, none⟩))) (w.alloc (.cells z.cells t)) := by
        simp [execOp, hop, Instr.alloc, zeroValue, typeInfo, hi, hz, newVar, newRow]
      exact wp_of_value hrun (hK _ _ _ _ h (by have := good_alloc (o := o) (t := t) hR hf hN hd hdst (denL_vals (r := r) z.cells.toList); simpa using this))
    · exact h.elim
  · exact h.elim
theorem boxK_sound {t : TypeId} {x : Operand} (hop : o.op = .box t x) (h : boxK o f S t (f.ev x) K) (hdst : dstOk N.n o.dst = true) (hR : Rel w0 G S r w) (hf : FDen r f a) (hN : a.tmps.size = N.n) (hd : a.defers = N.ds)
    (hK : ∀ f' S' a' w', K f' S' → Good w0 G N f' S' a' w' → next a' w') : Oper.se P o a w next := by
  unfold boxK at h
  split at h
  · rename_i l hl
    rw [lenK_iff, forceL_iff, putK_iff] at h
    have hrun : (execOp a.eval o).run P w = .ok (.value (.pointer (some ⟨w.heap.size, 0, none⟩))) (w.alloc (.cells (a.eval x).cells t)) := by
      simp [execOp, hop, Instr.box, newVar, newRow]
    exact wp_of_value hrun (hK _ _ _ _ h (by have := good_alloc (o := o) (t := t) hR hf hN hd hdst (okCells_den hR hl (hf.ev x)); simpa using this))
  · exact h.elim
theorem storeK_sound {t : TypeId} {x y : Operand} (hop : o.op = .store t x y) (h : storeK P o f S t (f.ev x) (f.ev y) K) (hdst : dstOk N.n o.dst = true) (hR : Rel w0 G S r w) (hf : FDen r f a) (hN : a.tmps.size = N.n) (hd : a.defers = N.ds)
    (hK : ∀ f' S' a' w', K f' S' → Good w0 G N f' S' a' w' → next a' w') : Oper.se P o a w next := by
  unfold storeK at h
  split at h
  · rename_i i off hx
    have hxd := hf.ev x
    rw [hx] at hxd
    obtain ⟨b, hb, hu⟩ := den_ref hxd
    split at h
    · rename_i cs hcs
      have hdc := okCells_den hR hcs (hf.ev y)
      have hlen := denL_length hdc
      split at h
      · rename_i inf hinf
        split at h
        · rename_i hsz
          have e1 : cs.length = inf.size := Nat.eq_of_beq_eq_true hsz
          split at h
          · rename_i hones
            have hone := onesL_one hR hones hdc
            have hil : i < S.length := by
              rcases Nat.lt_or_ge i S.length with h1 | h1
              · exact h1
              · rw [hR.outB i h1] at hb; cases hb
            have hrun : ∀ w', (storeCells ⟨b, off, none⟩ (a.eval y).cells.toList 0).run P w = .ok () w' → (execOp a.eval o).run P w = .ok .skip w' := fun w' h' => by
              have hz : ¬ (a.eval y).cells.size ≠ inf.size := by rw [← Array.length_toList, hlen, e1]; simp
              simp only [execOp, hop, Instr.storeAt, hu, Instr.sureAddr, storeVar, Sem.run_bind, Sem.run_pure, Result.andThen_ok, run_sizeOf P t w hinf, if_neg hz, h']
            split at h
            · rename_i t' l hS
              split at h
              · rename_i hle
                rw [forceS_iff, forceL_iff, putK_iff] at h
                obtain ⟨b', us, h1, h2, h3⟩ := hR.own i _ hS
                rw [hb] at h1; injection h1 with h1; subst h1
                have hll := denL_length h3
                have e2 := Nat.le_of_ble_eq_true hle
                obtain ⟨w', hr, hg, hbl⟩ := run_storeCells (P := P) (a.eval y).cells.toList (i := 0) (off := off) h2 hone (by omega)
                refine wp_of_skip (hrun w' hr) (hK _ _ _ _ h ?_)
                refine good_value hR hf hN hd hdst (by simp [AV.den, Pc.den, CV.den]) (hR.setBlock hb hg ⟨b, _, hb, hbl, ?_⟩ hil) (Env.le.refl r)
                exact denL_setAll _ hdc h3
              · exact h.elim
            · rename_i e size n xs hS
              split at h
              · rename_i us hus
                obtain ⟨hle, h⟩ := h
                rw [forceL_iff, putK_iff] at h
                have hv := valsOf_spec hus hdc
                obtain ⟨v, h1, h2, h3⟩ := hR.own i _ hS
                obtain ⟨hxl, h4⟩ := h3
                rcases h4 with ⟨hvn, hn0⟩ | ⟨g, cap, cur, hvg, hg0, hh, hnc, hcm, hcs', htk⟩
                · rw [hvn, hb] at h2; cases h2
                · have hgb : g = b := by rw [hvg, hb] at h2; simpa [Value.ownBlock] using h2
                  subst hgb
                  have hcl : cur.toList.length = cap * size := by simpa using hcs'
                  have hnm : n * size ≤ cap * size := Nat.mul_le_mul_right size hnc
                  obtain ⟨w', hr, hg, hbl⟩ := run_storeCells (P := P) (a.eval y).cells.toList (i := 0) (off := off) (cs := cur.toList) (by simpa using hh) hone (by rw [hv]; omega)
                  refine wp_of_skip (hrun w' hr) (hK _ _ _ _ h ?_)
                  refine good_value hR hf hN hd hdst (by simp [AV.den, Pc.den, CV.den]) (hR.setBlock hb hg ⟨v, h1, h2, by rw [setAll_length]; exact hxl, .inr ⟨g, cap, (setAll cur.toList off us).toArray, hvg, hg0, by rw [hbl, hv]; simp, hnc, hcm, by simp [setAll_length, hcl], ?_⟩⟩ hil) (Env.le.refl r)
                  have hsplit : cur.toList = xs ++ cur.toList.drop (n * size) := by rw [← htk]; exact (List.take_append_drop _ _).symm
                  rw [List.toList_toArray, hsplit, setAll_take us xs off hle _ (Nat.le_refl _), List.take_append_of_le_length (by rw [setAll_length]; omega), List.take_of_length_le (by rw [setAll_length]; omega)]
              · exact h.elim
            · exact h.elim
          · exact h.elim
        · exact h.elim
      · exact h.elim
    · exact h.elim
  · exact h.elim
theorem denL_any (r : Env) : ∀ us : List Value, denL r (List.replicate us.length .any) us
  | [] => by simp [denL]
  | u :: us => by simp only [List.length_cons, List.replicate_succ, denL]; exact ⟨u, us, rfl, by simp only [CV.den], denL_any r us⟩
theorem bsliceK_sound {t : TypeId} {n : Nat} {parts : Array (Nat × Operand)} (hop : o.op = .buildSlice t n parts) (h : bsliceK P o f S t n parts K) (hdst : dstOk N.n o.dst = true) (hR : Rel w0 G S r w) (hf : FDen r f a) (hN : a.tmps.size = N.n) (hd : a.defers = N.ds)
    (hK : ∀ f' S' a' w', K f' S' → Good w0 G N f' S' a' w' → next a' w') : Oper.se P o a w next := by
  unfold bsliceK at h
  split at h
  · rename_i e ht
    split at h
    · rename_i i hi
      split at h
      · rename_i z hz
        split at h
        · rename_i hzs
          split at h
          · rename_i hle
            split at h
            · rename_i l hl
              rw [forceL_iff, lenK_iff, forceL_iff, putK_iff] at h
              have e1 : z.cells.size = i.size := Nat.eq_of_beq_eq_true hzs
              have e2 : n * i.size ≤ 16777216 := Nat.le_of_ble_eq_true hle
              have hlen : ∀ zero : Array Value, ((Array.range (n * i.size)).map (zero[· % zero.size]!)).toList.length = n * i.size := fun zero => by simp
              have hany : ∀ zero : Array Value, denL r (List.replicate (n * i.size) .any) ((Array.range (n * i.size)).map (zero[· % zero.size]!)).toList := fun zero => by
                have := denL_any r ((Array.range (n * i.size)).map (zero[· % zero.size]!)).toList
                rwa [hlen zero] at this
              have hrun : ∃ vs : List Value, denL r l vs ∧ (execOp a.eval o).run P w = .ok (.value (.slice (some ⟨w.heap.size, 0, none⟩) n n)) (w.alloc (.cells vs.toArray e)) := by
                have e3 : (parts.map fun (i, x) => (i, a.eval x)).toList = parts.toList.map fun p => (p.1, a.eval p.2) := by simp
                by_cases h0 : n * i.size = 0
                · obtain ⟨vs, hv, hdv⟩ := fillK_sound hR hf parts.toList _ l _ hl (hany #[])
                  refine ⟨vs, hdv, ?_⟩
                  simp only [execOp, hop, Instr.buildSlice, underlying, Sem.run_bind, run_program, Result.andThen_ok, ht, Sem.run_pure, run_sizeOf P e w hi, e3]
                  rw [if_neg (by omega), if_pos h0]
                  have hv' : Instr.fill (fun k => some (k * i.size, i.size)) ((Array.range (n * i.size)).map ((#[] : Array Value)[· % (#[] : Array Value).size]!)) (parts.toList.map fun p => (p.1, a.eval p.2)) = some vs.toArray := by
                    rw [← hv, Array.toArray_toList]
                  simp only [Sem.run_bind, Sem.run_pure, Result.andThen_ok]
                  rw [hv']
                  simp [newRow]
                · obtain ⟨vs, hv, hdv⟩ := fillK_sound hR hf parts.toList _ l _ hl (hany z.cells)
                  refine ⟨vs, hdv, ?_⟩
                  simp only [execOp, hop, Instr.buildSlice, underlying, Sem.run_bind, run_program, Result.andThen_ok, ht, Sem.run_pure, run_sizeOf P e w hi, e3]
                  rw [if_neg (by omega), if_neg h0]
                  simp only [zeroValue, typeInfo, Sem.run_bind, run_program, Result.andThen_ok, hi, hz, Sem.run_pure]
                  have hv' : Instr.fill (fun k => some (k * i.size, i.size)) ((Array.range (n * i.size)).map (z.cells[· % z.cells.size]!)) (parts.toList.map fun p => (p.1, a.eval p.2)) = some vs.toArray := by
                    rw [← hv, Array.toArray_toList]
                  rw [hv']
                  simp [newRow]
              obtain ⟨vs, hdv, hrun⟩ := hrun
              refine wp_of_value hrun (hK _ _ _ _ h ?_)
              have hle := hR.le_new (some w.heap.size) none
              refine good_value hR hf hN hd hdst (r' := r.set S.length (some w.heap.size) none) ?_ (hR.snoc ((Below.refl _ _).alloc (Nat.le_refl _) _) (fun x hx => by injection hx with hx; subst hx; simp) (alloc_new_holds r w _ e (denL_mono hle _ _ hdv))) hle
              simp only [AV.den, Pc.den, CV.den]
              exact ⟨w.heap.size, by simp [Env.set], rfl⟩
            · exact h.elim
          · exact h.elim
        · exact h.elim
      · exact h.elim
    · exact h.elim
  · exact h.elim
theorem avdenL_of {r : Env} : ∀ us : List Value, avdenL r (us.map fun c => AV.of c) us
  | [] => rfl
  | u :: us => ⟨u, us, rfl, AV.of_den r u, avdenL_of us⟩
theorem callK_sound {fn : Operand} {args : Array Operand} {tys : Array TypeId} (hop : o.op = .call ⟨.value fn, args, tys⟩) (h : callK P w0 G o f S (f.ev fn) args.toList K) (hdst : dstOk N.n o.dst = true) (hR : Rel w0 G S r w) (hf : FDen r f a) (hN : a.tmps.size = N.n) (hd : a.defers = N.ds)
    (hK : ∀ f' S' a' w', K f' S' → Good w0 G N f' S' a' w' → next a' w') : Oper.se P o a w next := by
  have hfn := hf.ev fn
  unfold callK at h
  split at h
  · rename_i fid cap he
    rw [he] at hfn
    obtain ⟨us, hu, hcap⟩ := den_clo hfn
    rw [evL_iff] at h
    obtain ⟨hok, hc⟩ := h
    have hrun : (execOp a.eval o).run P w = .ok (.enter fid ((args.map a.eval) ++ us.toArray)) w := by
      simp [execOp, hop, resolve, Deferred.ofValue, hu, invoke, run_callFunc hok]
    refine wp_of_enter hrun ?_
    have := hc r w ((args.toList.map a.eval) ++ us) hR (avdenL_append (avdenL_ev hf _) (avdenL_cap hcap))
    rw [show ((args.toList.map a.eval) ++ us).toArray = (args.map a.eval) ++ us.toArray by apply Array.ext'; simp] at this
    refine Calls.mono this fun e w' ⟨v, u, S', r', he, hv, hR', hle, hKv⟩ => ⟨u, he, hK _ _ _ _ (putK_iff.1 hKv) (good_value hR hf hN hd hdst hv hR' hle)⟩
  · rename_i fid first cap he
    rw [he] at hfn
    have hu := den_v hfn
    split at h
    · rename_i hfst
      have ef : first = #[] := Array.ext' hfst
      rw [evL_iff] at h
      obtain ⟨hok, hc⟩ := h
      have hrun : (execOp a.eval o).run P w = .ok (.enter fid ((args.map a.eval) ++ cap)) w := by
        simp [execOp, hop, resolve, Deferred.ofValue, hu, ef, invoke, run_callFunc hok]
      refine wp_of_enter hrun ?_
      have := hc r w ((args.toList.map a.eval) ++ cap.toList) hR (avdenL_append (avdenL_ev hf _) (avdenL_of _))
      rw [show ((args.toList.map a.eval) ++ cap.toList).toArray = (args.map a.eval) ++ cap by apply Array.ext'; simp] at this
      refine Calls.mono this fun e w' ⟨v, u, S', r', he, hv, hR', hle, hKv⟩ => ⟨u, he, hK _ _ _ _ (putK_iff.1 hKv) (good_value hR hf hN hd hdst hv hR' hle)⟩
    · exact h.elim
  · exact h.elim
theorem qopK_sound (h : match opTy P o.op with | true => qop P w0 G S f o fun v => (f.putK o.dst v fun f' => K f' S) | false => False) (hdst : dstOk N.n o.dst = true) (hR : Rel w0 G S r w) (hf : FDen r f a) (hN : a.tmps.size = N.n) (hd : a.defers = N.ds)
    (hK : ∀ f' S' a' w', K f' S' → Good w0 G N f' S' a' w' → next a' w') : Oper.se P o a w next := by
  split at h
  · rename_i hty
    obtain ⟨v, u, hKv, hv, hrun⟩ := qop_sound h hty hR hf
    exact wp_of_value (hrun w (Below.refl _ _)) (hK _ _ _ _ (putK_iff.1 hKv) (good_value hR hf hN hd hdst hv hR (Env.le.refl r)))
  · exact h.elim
theorem opK_sound (h : opK P w0 G N o f S K) : OpS P w0 G N o f S K := by
  refine ⟨?_⟩
  intro r a w hR hf hN hd next Q hK
  unfold opK at h
  split at h
  · exact h.elim
  · rename_i hdst
    split at h
    · rename_i t hop; exact allocK_sound hop h hdst hR hf hN hd hK
    · rename_i t x hop; exact boxK_sound hop h hdst hR hf hN hd hK
    · rename_i t x y hop; exact storeK_sound hop h hdst hR hf hN hd hK
    · rename_i t n parts hop; exact bsliceK_sound hop h hdst hR hf hN hd hK
    · rename_i fn args tys hop; exact callK_sound hop h hdst hR hf hN hd hK
    all_goals first | exact qopK_sound h hdst hR hf hN hd hK | exact h.out r a w hR hf hN hd next Q hK
end
end Go.Proofs.Ytmjfgnnefcimiaa
namespace Go.Proofs.Ytmjfgnnefcimiaa
open Go.RowKit
def fld (n : String) (t : TypeId) (k b : Nat) : Field := { name := n, type := t, offset := k, embedded := false, tag := "", pkgPath := "", byteOffset := b }
theorem op_fields : (Try.prog.fieldsOf 53).toList = [fld "Code" 3 0 0, fld "D" 3 1 8, fld "A" 3 2 16, fld "B" 3 3 24, fld "N" 24 4 32] := by kernel_rfl
theorem op_equal (p q : BOp) (w : World) : (Op.equalIn 10000 53 (opV p) (opV q)).run Try.prog w = .ok (p == q) w := by
  have i1 : ∀ (d : Nat) (a b : Int) (w : World), (Op.equalIn (d + 1) 3 (.int .i64 a) (.int .i64 b)).run Try.prog w = .ok (a == b) w := fun d a b w => run_equalIn_int w d _ _ _ a b Try.underlying3
  have i2 : ∀ (d : Nat) (a b : Int) (w : World), (Op.equalIn (d + 1) 24 (.int .u32 a) (.int .u32 b)).run Try.prog w = .ok (a == b) w := fun d a b w => run_equalIn_int w d _ _ _ a b Try.underlying24
  have j1 : ∀ (xs : Array Value) (o : Nat) (v : Value) (w : World), xs[o]? = some v → (part 3 xs o).run Try.prog w = .ok v w := fun xs o v w h => run_part_plain w (by kernel_rfl) h
  have j2 : ∀ (xs : Array Value) (o : Nat) (v : Value) (w : World), xs[o]? = some v → (part 24 xs o).run Try.prog w = .ok v w := fun xs o v w h => run_part_plain w (by kernel_rfl) h
  rw [run_equalIn_agg _ _ _ _ _ (by kernel_rfl) (by kernel_rfl), op_fields]
  obtain ⟨c, d, a, b, n⟩ := p
  obtain ⟨c', d', a', b', n'⟩ := q
  have hb : ((⟨c, d, a, b, n⟩ : BOp) == ⟨c', d', a', b', n'⟩) = (c == c' && (d == d' && (a == a' && (b == b' && n == n')))) := by
    rw [Bool.eq_iff_iff]; simp
  rw [hb]
  cases e0 : c == c' <;> cases e1 : d == d' <;> cases e2 : a == a' <;> cases e3 : b == b' <;> cases e4 : n == n' <;>
    simp [Op.eqFields, fld, j1, j2, i1, i2, e0, e1, e2, e3, e4]
theorem op_neq (p q : BOp) (w : World) : (binOp .neq 53 (opV p) (opV q)).run Try.prog w = .ok (.bool (!(p == q))) w := by
  rw [run_neq_struct, op_equal]; rfl
end Go.Proofs.Ytmjfgnnefcimiaa
namespace Go.Proofs.Ytmjfgnnefcimiaa
open Go.RowKit

def slotOf (ops : Array Oper) (j : Nat) : Option Nat := (ops[j]?).bind (·.dst)
def sameG (j : Nat) (pol : Bool) (o : Oper) : Bool := match o.guard with
  | some (i, p) => (match Nat.beq i j with | true => p == pol | false => false)
  | none => false
def spanG (j : Nat) (pol : Bool) : List Oper → List Oper × List Oper
  | [] => ([], [])
  | o :: l => match sameG j pol o with | true => (o :: (spanG j pol l).1, (spanG j pol l).2) | false => ([], o :: l)
theorem spanG_append (j : Nat) (pol : Bool) : ∀ l : List Oper, (spanG j pol l).1 ++ (spanG j pol l).2 = l
  | [] => rfl
  | o :: l => by unfold spanG; split <;> simp [spanG_append j pol l]
theorem spanG_all (j : Nat) (pol : Bool) : ∀ (l : List Oper), ∀ o ∈ (spanG j pol l).1, o.guard = some (j, pol)
  | [], o, h => by cases h
  | x :: l, o, h => by
    unfold spanG at h
    split at h
    · rename_i hs
      rcases List.mem_cons.1 h with rfl | h
      · unfold sameG at hs
        split at hs
        · rename_i i p hg
          split at hs
          · rename_i hi
            have := Nat.eq_of_beq_eq_true hi
            rw [hg, this]; simp at hs; rw [hs]
          · cases hs
        · cases hs
      · exact spanG_all j pol l o h
    · cases h
/-- What closes '&&' and '||': the slot of the second operand. -/
def pickOf (p : Oper) (d : Nat) (pol : Bool) : Option Nat := match p.guard with
  | some _ => none
  | none => (match p.op with
    | .pick (.tmp c) (.tmp b) (.const (.bool false)) => (match Nat.beq c d with | true => (match pol with | true => some b | false => none) | false => none)
    | .pick (.tmp c) (.const (.bool true)) (.tmp b) => (match Nat.beq c d with | true => (match pol with | false => some b | true => none) | false => none)
    | _ => none)
def cmb (pol x y : Bool) : Bool := match pol with | true => x && y | false => x || y
def putsAny : List Oper → Fr → Fr
  | [], f => f
  | o :: l, f => putsAny l (f.put o.dst (.p (.c .any)))
def putsAnyK : List Oper → Fr → (Fr → Prop) → Prop
  | [], f, K => K f
  | o :: l, f, K => f.putK o.dst (.p (.c .any)) fun f' => putsAnyK l f' K
theorem putsAnyK_iff : ∀ {l : List Oper} {f : Fr} {K : Fr → Prop}, putsAnyK l f K ↔ K (putsAny l f)
  | [], _, _ => Iff.rfl
  | o :: l, f, K => by unfold putsAnyK; rw [putK_iff, putsAnyK_iff]; rfl
def dstsOf : List Oper → List Nat
  | [] => []
  | o :: l => match o.dst with | some d => d :: dstsOf l | none => dstsOf l
def memN (d : Nat) : List Nat → Bool
  | [] => false
  | x :: l => match Nat.beq x d with | true => true | false => memN d l
/-- f' is f with slots of the list put on top. -/
def onTop (ds : List Nat) (f : Fr) : Nat → Fr → Prop
  | 0, f' => f' = f
  | _n + 1, [] => False
  | n + 1, (d, _) :: f' => match memN d ds with | true => onTop ds f n f' | false => False
def allDst (N : Nat) : List Oper → Bool
  | [] => true
  | o :: l => match dstOk N o.dst with | true => allDst N l | false => false
def putN : List Oper → Nat
  | [] => 0
  | o :: l => match o.dst with | some _ => putN l + 1 | none => putN l

def Ow.bnd (n : Nat) : Ow → Bool
  | .cells _ l => bndL n l
  | _ => true
def sbnd (n : Nat) : List Ow → Bool
  | [] => true
  | o :: S => match o.bnd n with | true => sbnd n S | false => false
/-- The own entries name none but these, and the first ones are among them. -/
def grpOk (G : Gs) (S : List Ow) : Bool := match Nat.ble G.fix.length S.length with | true => sbnd S.length S | false => false
section
variable (P : Program) (w0 : World) (G : Gs) (N : Nd)
def seqK (d : Nat) (pol : Bool) : List Oper → Fr → List Ow → (Fr → List Ow → Prop) → Prop
  | [], f, S, K => K f S
  | o :: l, f, S, K => match f.get d with
    | .p (.c (.v (.bool y))) => (match y == pol with | true => opK P w0 G N o f S fun f' S' => seqK d pol l f' S' K | false => False)
    | _ => False
def opsK (ops : Array Oper) : Nat → List Oper → Fr → List Ow → (Fr → List Ow → Prop) → Prop
  | _, [], f, S, K => K f S
  | 0, _ :: _, _, _, _ => False
  | n + 1, o :: rest, f, S, K => match o.guard with
    | none => opK P w0 G N o f S fun f' S' => opsK ops n rest f' S' K
    | some (j, pol) => (match slotOf ops j with
      | none => False
      | some d => (match f.get d with
        | .p (.c (.v (.bool x))) => (match spanG j pol (o :: rest) with
          | (grp, p :: rem) => (match pickOf p d pol with
            | some b => (match allDst N.n grp, dstOk N.n p.dst, memN d (dstsOf grp) with
              | true, true, false => ∃ y : Bool, (x = pol → seqK P w0 G N d pol grp ((d, one (.bool pol)) :: f) S fun f' S' => onTop (dstsOf grp) ((d, one (.bool pol)) :: f) (putN grp) f' ∧ S'.take S.length = S ∧ f'.get b = one (.bool y) ∧ f.bnd S.length = true ∧ grpOk G S = true) ∧
                  putsAnyK grp f fun f' => f'.putK p.dst (one (.bool (cmb pol x y))) fun f' => opsK ops n rem f' S K
              | _, _, _ => False)
            | none => (x = pol → opK P w0 G N o ((d, one (.bool pol)) :: f) S fun f' S' => opsK ops n rest f' S' K) ∧
                (x = (!pol) → match dstOk N.n o.dst with | true => (Fr.putK ((d, one (.bool (!pol))) :: f) o.dst (.p (.c .any)) fun f' => opsK ops n rest f' S K) | false => False))
          | _ => (x = pol → opK P w0 G N o ((d, one (.bool pol)) :: f) S fun f' S' => opsK ops n rest f' S' K) ∧
                (x = (!pol) → match dstOk N.n o.dst with | true => (Fr.putK ((d, one (.bool (!pol))) :: f) o.dst (.p (.c .any)) fun f' => opsK ops n rest f' S K) | false => False))
        | _ => False))
end
section
variable {P : Program} {w0 : World} {G : Gs} {N : Nd} {ops : Array Oper}
theorem yielded_of {r : Env} {f : Fr} {a : Act} (hf : FDen r f a) {j d : Nat} (hs : slotOf ops j = some d) {x : Bool} (hx : f.get d = one (.bool x)) : yielded ops a.tmps j = some x := by
  have h := hf d
  rw [hx] at h
  have h := den_v h
  unfold yielded
  unfold slotOf at hs
  rw [hs]
  have : a.tmps[d]? = some (.bool x) := by
    rw [Array.getD_eq_getD_getElem?] at h
    cases hd : a.tmps[d]? with
    | none => rw [hd] at h; simp [undef] at h
    | some v => rw [hd] at h; simp at h; rw [h]
  simp [this]
theorem wanted_none {o : Oper} (h : o.guard = none) (y : Nat → Option Bool) : Region.wanted o y = true := by simp [Region.wanted, h]
theorem wanted_some {o : Oper} {j : Nat} {pol : Bool} (h : o.guard = some (j, pol)) (y : Nat → Option Bool) : Region.wanted o y = (y j == some pol) := by simp [Region.wanted, h]
theorem step_do {o : Oper} {rest : List Oper} {Q : Act → World → Prop} {a : Act} {w : World} (hw : Region.wanted o (yielded ops a.tmps) = true) (h : Oper.se P o a w (seL P ops Q rest)) : seL P ops Q (o :: rest) a w := by
  unfold seL; rw [if_pos hw]; exact h
theorem step_not {o : Oper} {rest : List Oper} {Q : Act → World → Prop} {a : Act} {w : World} (hw : Region.wanted o (yielded ops a.tmps) = false) (h : seL P ops Q rest (a.put o.dst undef) w) : seL P ops Q (o :: rest) a w := by
  unfold seL; rw [if_neg (by rw [hw]; simp)]; exact h
theorem get_cons_self (d : Nat) (x : AV) (f : Fr) : Fr.get ((d, x) :: f) d = x := by simp [Fr.get]
theorem Good.known {f : Fr} {S : List Ow} {a : Act} {w : World} (h : Good w0 G N f S a w) {d : Nat} {x : AV} (hx : f.get d = x) : Good w0 G N ((d, x) :: f) S a w := by
  obtain ⟨r, hR, hf, hN, hd⟩ := h
  refine ⟨r, hR, fun k => ?_, hN, hd⟩
  simp only [Fr.get]
  split
  · rename_i hk; have := Nat.eq_of_beq_eq_true hk; subst this; rw [← hx]; exact hf d
  · exact hf k
theorem seqK_sound {d : Nat} {pol : Bool} {j : Nat} (hs : slotOf ops j = some d) {Q : Act → World → Prop} {rest : List Oper} : ∀ (l : List Oper) (f : Fr) (S : List Ow) (K : Fr → List Ow → Prop), (∀ o ∈ l, o.guard = some (j, pol)) → seqK P w0 G N d pol l f S K →
    (∀ f' S' a' w', K f' S' → Good w0 G N f' S' a' w' → seL P ops Q rest a' w') → ∀ a w, Good w0 G N f S a w → seL P ops Q (l ++ rest) a w
  | [], f, S, K, _, h, hK, a, w, hg => hK _ _ _ _ h hg
  | o :: l, f, S, K, hgd, h, hK, a, w, hg => by
    unfold seqK at h
    split at h
    · rename_i y hy
      split at h
      · rename_i hyp
        have hyp : y = pol := by simpa using hyp
        subst hyp
        obtain ⟨r, hR, hf, hN, hd⟩ := hg
        refine step_do ?_ ((opK_sound h).out r a w hR hf hN hd _ (fun _ _ _ => True) fun f' S' a' w' hk hg' => seqK_sound hs l f' S' K (fun o ho => hgd o (List.mem_cons_of_mem _ ho)) hk hK a' w' hg')
        rw [wanted_some (hgd o (List.mem_cons_self ..)), yielded_of hf hs hy]; simp
      · exact h.elim
    · exact h.elim
theorem memN_not {d : Nat} : ∀ {l : List Nat}, memN d l = false → d ∉ l
  | [], _ => by simp
  | x :: l, h => by
    unfold memN at h
    split at h
    · cases h
    · rename_i hx
      intro hm
      rcases List.mem_cons.1 hm with rfl | hm
      · simp at hx
      · exact memN_not h hm
theorem memN_mem {d : Nat} : ∀ {l : List Nat}, memN d l = true → d ∈ l
  | [], h => by cases h
  | x :: l, h => by
    unfold memN at h
    split at h
    · rename_i hx; rw [Nat.eq_of_beq_eq_true hx]; exact List.mem_cons_self ..
    · exact List.mem_cons_of_mem _ (memN_mem h)
theorem onTop_get {ds : List Nat} {f : Fr} : ∀ (n : Nat) (f' : Fr), onTop ds f n f' → ∀ k, k ∉ ds → f'.get k = f.get k
  | 0, f', h, k, _ => by rw [show f' = f from h]
  | n + 1, [], h, k, _ => h.elim
  | n + 1, (d, x) :: f', h, k, hk => by
    simp only [onTop] at h
    split at h
    · rename_i hm
      simp only [Fr.get]
      split
      · rename_i hdk
        have := Nat.eq_of_beq_eq_true hdk; subst this
        exact absurd (memN_mem hm) hk
      · exact onTop_get n f' h k hk
    · exact h.elim
theorem putsAny_get : ∀ (l : List Oper) (f : Fr) (k : Nat), (putsAny l f).get k = .p (.c .any) ∨ ((putsAny l f).get k = f.get k ∧ k ∉ dstsOf l)
  | [], f, k => .inr ⟨rfl, by simp [dstsOf]⟩
  | o :: l, f, k => by
    simp only [putsAny, dstsOf]
    rcases putsAny_get l (f.put o.dst (.p (.c .any))) k with h | ⟨h1, h2⟩
    · exact .inl h
    · cases ho : o.dst with
      | none => rw [ho] at h1; simp only [Fr.put] at h1; right; exact ⟨by simpa only [ho, Fr.put] using h1, h2⟩
      | some d =>
        rw [ho] at h1
        simp only [Fr.put, Fr.get] at h1
        split at h1
        · left; simpa only [ho, Fr.put] using h1
        · rename_i hdk
          right
          refine ⟨by simpa only [ho, Fr.put] using h1, fun hm => ?_⟩
          rcases List.mem_cons.1 hm with rfl | hm
          · simp at hdk
          · exact h2 hm
theorem putsAny_far : ∀ (l : List Oper) (f : Fr) (k : Nat), k ∉ dstsOf l → (putsAny l f).get k = f.get k
  | [], f, k, _ => rfl
  | o :: l, f, k, h => by
    simp only [putsAny, dstsOf] at h ⊢
    cases ho : o.dst with
    | none => rw [ho] at h; rw [putsAny_far l _ k h]; rfl
    | some d =>
      rw [ho] at h
      rw [putsAny_far l _ k (fun hm => h (List.mem_cons_of_mem _ hm))]
      simp only [Fr.put, Fr.get]
      split
      · rename_i hd; exact absurd (Nat.eq_of_beq_eq_true hd).symm (fun e => h (by rw [e]; exact List.mem_cons_self ..))
      · rfl
/-- The environment cut off behind n entries. -/
def Env.upto (n : Nat) (r : Env) : Env := ⟨fun i => if i < n then r.blk i else none, fun i => if i < n then r.val i else none⟩
theorem Env.upto_blk (n : Nat) (r : Env) : ∀ k b, (r.upto n).blk k = some b → r.blk k = some b := fun k b h => by
  simp only [Env.upto] at h
  split at h
  · exact h
  · cases h
theorem Env.upto_agree (n : Nat) (r : Env) : r.agree n (r.upto n) := fun i hi => by simp [Env.upto, hi]
theorem Ow.holds_agree {n i : Nat} {r r' : Env} {w : World} {o : Ow} (h : o.holds r w i) (ha : r.agree n r') (hb : o.bnd n = true) (hi : i < n) (hs : ∀ k b, r'.blk k = some b → r.blk k = some b) : o.holds r' w i := by
  cases o with
  | cells t l => obtain ⟨b, us, h1, h2, h3⟩ := h; exact ⟨b, us, by rw [← (ha i hi).1]; exact h1, h2, denL_agree ha _ _ hb h3⟩
  | row e size m xs => obtain ⟨v, h1, h2, h3⟩ := h; exact ⟨v, by rw [← (ha i hi).2]; exact h1, by rw [← (ha i hi).1]; exact h2, h3⟩
  | ext φ => obtain ⟨b, h1, h2⟩ := h; exact ⟨b, by rw [← (ha i hi).1]; exact h1, h2⟩
  | view φ n xs =>
    obtain ⟨A, c, h1, h2, h3, h4, h5⟩ := h
    refine ⟨A, c, by rw [← (ha i hi).2]; exact h1, h2, h3, by rw [← (ha i hi).1]; exact h4, fun j u hj => ?_⟩
    obtain ⟨b, off, h6, h7, h8, h9⟩ := h5 j u hj
    exact ⟨b, off, h6, h7, fun k hk => h8 k (hs k b hk), h9⟩
  | gone => trivial
theorem Rel.upto {S S' : List Ow} {r : Env} {w : World} (h : Rel w0 G S r w) {n : Nat} (hn : S'.length = n) (_hnS : n ≤ S.length) (hG : G.fix.length ≤ n) (hS : ∀ (i : Nat) (o : Ow), S'[i]? = some o → o.holds (r.upto n) w i) : Rel w0 G S' (r.upto n) w := by
  refine ⟨h.os, h.tape, h.output, h.size, h.old, hS, fun i j b hi hj => ?_, fun i b hi => ?_, fun i hi => ?_, fun i hi => ?_, fun i g hg => ?_⟩
  · simp only [Env.upto] at hi hj
    split at hi <;> split at hj <;> first | cases hi | cases hj | exact h.inj i j b hi hj
  · simp only [Env.upto] at hi
    split at hi
    · exact h.new i b hi
    · cases hi
  · simp only [Env.upto]; rw [if_neg (by omega)]
  · simp only [Env.upto]; rw [if_neg (by omega)]
  · simp only [Env.upto]
    have : i < G.fix.length := by
      rcases Nat.lt_or_ge i G.fix.length with h1 | h1
      · exact h1
      · rw [List.getElem?_eq_none h1] at hg; cases hg
    rw [if_pos (by omega)]; exact h.first i g hg
theorem allDst_put : ∀ (l : List Oper), allDst N.n l = true → ∀ {f : Fr} {S : List Ow} {a : Act} {w : World} {j : Nat} {pol x : Bool} {Q : Act → World → Prop} {rest : List Oper} {d : Nat}, slotOf ops j = some d → (∀ o ∈ l, o.guard = some (j, pol)) → x ≠ pol → f.get d = one (.bool x) → d ∉ dstsOf l →
    Good w0 G N f S a w → (∀ a', Good w0 G N (putsAny l f) S a' w → seL P ops Q rest a' w) → seL P ops Q (l ++ rest) a w
  | [], _, f, S, a, w, j, pol, x, Q, rest, d, _, _, _, _, _, hg, h => h a hg
  | o :: l, hD, f, S, a, w, j, pol, x, Q, rest, d, hs, hgd, hx, hfx, hnd, hg, h => by
    simp only [allDst] at hD
    split at hD
    · rename_i ho
      obtain ⟨r, hR, hf, hN, hd⟩ := hg
      refine step_not ?_ ?_
      · rw [wanted_some (hgd o (List.mem_cons_self ..)), yielded_of hf hs hfx]; simpa using hx
      · have hnd' : d ∉ dstsOf l ∧ ∀ e, o.dst = some e → d ≠ e := by
          simp only [dstsOf] at hnd
          cases hod : o.dst with
          | none => rw [hod] at hnd; exact ⟨hnd, nofun⟩
          | some e => rw [hod] at hnd; exact ⟨fun h => hnd (List.mem_cons_of_mem _ h), fun e' he => by injection he with he; subst he; rintro rfl; exact hnd (List.mem_cons_self ..)⟩
        refine allDst_put l hD hs (fun o ho => hgd o (List.mem_cons_of_mem _ ho)) hx (f := f.put o.dst (.p (.c .any))) ?_ hnd'.1 ⟨r, hR, hf.putAny undef (by rw [hN]; exact ho), (put_size a _ _).trans hN, (put_defers a _ _).trans hd⟩ h
        cases hod : o.dst with
        | none => simpa [Fr.put, hod] using hfx
        | some e =>
          have := hnd'.2 e hod
          simp only [Fr.put, Fr.get]
          split
          · rename_i he; exact absurd (Nat.eq_of_beq_eq_true he).symm this
          · exact hfx
    · cases hD
theorem pick_run {p : Oper} {d b : Nat} {pol x y : Bool} (hp : pickOf p d pol = some b) {a : Act} (hd : a.eval (.tmp d) = .bool x) (hb : x = pol → a.eval (.tmp b) = .bool y) (w : World) : p.guard = none ∧ (execOp a.eval p).run P w = .ok (.value (.bool (cmb pol x y))) w := by
  unfold pickOf at hp
  split at hp
  · cases hp
  · rename_i hg
    refine ⟨hg, ?_⟩
    split at hp
    · rename_i c b' hop
      split at hp
      · rename_i hc
        have := Nat.eq_of_beq_eq_true hc; subst this
        split at hp
        · injection hp with hp; subst hp
          cases x
          · have e1 : a.eval (.const (.bool false)) = .bool false := rfl
            simp [execOp, hop, hd, asBool, cmb, e1]
          · simp [execOp, hop, hd, asBool, cmb, hb rfl]
        · cases hp
      · cases hp
    · rename_i c b' hop
      split at hp
      · rename_i hc
        have := Nat.eq_of_beq_eq_true hc; subst this
        split at hp
        · injection hp with hp; subst hp
          cases x
          · simp [execOp, hop, hd, asBool, cmb, hb rfl]
          · have e1 : a.eval (.const (.bool true)) = .bool true := rfl
            simp [execOp, hop, hd, asBool, cmb, e1]
        · cases hp
      · cases hp
    · cases hp
end
end Go.Proofs.Ytmjfgnnefcimiaa
namespace Go.Proofs.Ytmjfgnnefcimiaa

theorem ops_length (l : List BOp) : (l.flatMap opC).length = l.length * 5 := by
  induction l with
  | nil => rfl
  | cons o l ih => simp [List.flatMap_cons, ih, opC]; omega
theorem ops_cut : ∀ {l : List BOp} {k : Nat} {o : BOp}, l[k]? = some o → ((l.flatMap opC).drop (k * 5)).take 5 = opC o
  | [], k, o, h => by simp at h
  | x :: l, 0, o, h => by simp at h; subst h; simp [List.flatMap_cons, opC]
  | x :: l, k + 1, o, h => by
    rw [List.flatMap_cons, show (k + 1) * 5 = (opC x).length + k * 5 by simp [opC]; omega, ← List.drop_drop, List.drop_left]
    exact ops_cut (by simpa using h)
theorem set_right {α : Type} (p q : List α) (k : Nat) (u : α) : (p ++ q).set (p.length + k) u = p ++ q.set k u := by
  rw [List.set_append_right _ _ (by omega)]; congr 2; omega
theorem setAll_right {α : Type} : ∀ (us p q : List α) (k : Nat), setAll (p ++ q) (p.length + k) us = p ++ setAll q k us
  | [], p, q, k => rfl
  | u :: us, p, q, k => by
    simp only [setAll]
    rw [set_right]
    exact setAll_right us p (q.set k u) (k + 1)
theorem ops_set : ∀ {l : List BOp} {k : Nat} (o : BOp), k < l.length → setAll (l.flatMap opC) (k * 5) (opC o) = (l.set k o).flatMap opC
  | [], k, o, h => by simp at h
  | x :: l, 0, o, h => by simp [List.flatMap_cons, opC, setAll]
  | x :: l, k + 1, o, h => by
    rw [List.flatMap_cons, show (k + 1) * 5 = (opC x).length + k * 5 by simp [opC]; omega, setAll_right, ops_set o (by simpa using h)]
    simp [List.flatMap_cons]

theorem next_formed {s s2 : Ck} {o : BOp} {x y : Bool} (h : ckNext s o x y = some s2) : formedB o = true := by
  unfold ckNext at h
  by_cases hf : (formedB o && placedB s o x y) = true
  · simp only [Bool.and_eq_true] at hf; exact hf.1
  · rw [if_neg hf] at h; cases h
theorem run_formed : ∀ {l : List BOp} {s s' : Ck}, ckRun s l = some s' → ∀ o ∈ l, formedB o = true
  | [], _, _, _, o, ho => by cases ho
  | p :: l, s, s', h, o, ho => by
    unfold ckRun at h
    split at h
    · rename_i s2 h2
      rcases List.mem_cons.1 ho with rfl | ho
      · exact next_formed h2
      · exact run_formed h o ho
    · cases h
theorem valid_formed {b : Blk} (h : validB b = true) : ∀ o ∈ b.ops, formedB o = true := by
  unfold validB at h
  simp only [Bool.and_eq_true] at h
  have h2 := h.2
  split at h2
  · rename_i s hs; exact run_formed hs
  · cases h2
theorem beforeM_lt {o : BOp} {m : Nat} (hm : m < 4294967296) (hf : formedB o = true) : beforeM o m < 4294967296 := by
  unfold beforeM
  have h1 : (if 0 ≤ writes o then clrM m (writes o).toNat else m) < 4294967296 := by split; exact clrM_lt hm; exact hm
  have h2 := readsM_lt h1 (reads_var hf)
  split
  · exact Nat.or_lt_two_pow (n := 32) h2 (by decide)
  · exact h2

/-- Nothing that follows wants it. -/
def deadB (o : BOp) (m : Nat) : Bool := pureB o && !(m.testBit o.d.toNat)
/-- Passed over from the last: what is live, and what is left, the last first. -/
structure DeadS where
  live : Nat
  out : List BOp
def deadStep (s : DeadS) (o : BOp) : DeadS := if deadB o s.live then s else ⟨beforeM o s.live, s.out ++ [o]⟩
def deadRun (l : List BOp) : DeadS := l.foldl deadStep ⟨0, []⟩
def deadAll (b : Blk) : List BOp := if validB b then (deadRun b.ops.reverse).out.reverse else b.ops
theorem deadRun_snoc (l : List BOp) (o : BOp) : deadRun (l ++ [o]) = deadStep (deadRun l) o := by unfold deadRun; rw [List.foldl_append]; rfl
theorem deadStep_lt {s : DeadS} {o : BOp} (hs : s.live < 4294967296) (hf : formedB o = true) : (deadStep s o).live < 4294967296 := by
  unfold deadStep; split
  · exact hs
  · exact beforeM_lt hs hf
theorem deadFold_lt : ∀ {l : List BOp} {s : DeadS}, s.live < 4294967296 → (∀ o ∈ l, formedB o = true) → (l.foldl deadStep s).live < 4294967296
  | [], s, h, _ => h
  | o :: l, s, h, hf => deadFold_lt (l := l) (deadStep_lt h (hf o (by simp))) fun p hp => hf p (by simp [hp])
theorem deadRun_lt {l : List BOp} (hf : ∀ o ∈ l, formedB o = true) : (deadRun l).live < 4294967296 := deadFold_lt (by decide) hf
theorem deadFold_length : ∀ (l : List BOp) (s : DeadS), (l.foldl deadStep s).out.length ≤ s.out.length + l.length
  | [], s => Nat.le_refl _
  | o :: l, s => by
    have h1 := deadFold_length l (deadStep s o)
    have h2 : (deadStep s o).out.length ≤ s.out.length + 1 := by unfold deadStep; split <;> simp
    simp only [List.foldl_cons, List.length_cons]; omega
theorem deadRun_length (l : List BOp) : (deadRun l).out.length ≤ l.length := by have := deadFold_length l ⟨0, []⟩; simpa [deadRun] using this
/-- All places, the last first: the list turned about. -/
theorem ops_of_places {l : List BOp} : ∀ {xs : List BOp} {ps : List Nat}, xs.length = ps.length → (∀ (i j : Nat) (o : BOp), ps[i]? = some j → xs[i]? = some o → l[j]? = some o) → ps = (List.range l.length).reverse → xs = l.reverse := by
  intro xs ps hlen h hps
  subst hps
  simp only [List.length_reverse, List.length_range] at hlen
  refine List.ext_getElem? fun i => ?_
  rcases Nat.lt_or_ge i l.length with hi | hi
  · obtain ⟨o, ho⟩ : ∃ o, xs[i]? = some o := ⟨_, List.getElem?_eq_getElem (by omega)⟩
    have h1 := h i (l.length - 1 - i) o (by rw [List.getElem?_reverse (by simpa using hi), List.length_range, List.getElem?_range (by omega)]) ho
    rw [ho, List.getElem?_reverse hi, h1]
  · rw [List.getElem?_eq_none (by omega), List.getElem?_eq_none (by simpa using hi)]
end Go.Proofs.Ytmjfgnnefcimiaa
