/- Walks: the law's memory of the program, made like one of the reference. -/
import Derived.Test.YtnhdcclpjildjaaGreatMMemoryF
namespace Go.Proofs.YtnhdcclpjildjaaGreat
open Go.RowKit

section
variable {w : World} {g n p : Nat} {gs : List Nat} {M : MemP}
set_option maxRecDepth 100000 in
set_option maxHeartbeats 2000000 in
theorem memory_walk (hU : ObjsAt w (g :: gs) (memS 0 n p M)) (hM : M.ok n p) (hp : 2 ≤ p ∧ p ≤ 1000) :
  Calls Tryz.prog 39 #[ptrV g] w fun e w' => ∃ m sb l, e = .returned (ptrV m) ∧ MadeTo w w' m sb p M p p l := by
 have hnp := hM.np
 refine calls_satq [ptrV g] Tryz.func39 Tryz.ntmps39 rfl (by simp) ?_
 refine satq_seqN ?_
 conv => whnf
 refine satq_in (satq_jump 2 rfl rfl rfl ?_)
 conv => whnf
 refine call_memP rfl (by kernel_rfl) hU (fun w1 h1 => mem_pages M n p w1 g gs h1) ?_
 conv => whnf
 refine jmp_con (fun u w1 => ∃ m sb l, u = ptrV m ∧ MadeTo w w1 m sb p M 0 0 l) rfl (by kernel_rfl) (fun r w1 hR => ?_) (fun u w1 hj => ?_)
 ·have hB := hR.toBelow
  refine (newM_walk p w1 ⟨hp.1, by omega⟩).mono fun e w2 ⟨m, sb, z, he, h1, h2⟩ => ⟨_, he, m, sb, newSlots p z, rfl, ?_⟩
  have hlen : (newSlots p z).length = p := by unfold newSlots; simp
  have himg : imgTo M 0 = fun _ => zpage := by funext k; unfold imgTo; rw [if_neg (by omega)]
  refine ⟨⟨h1.hm, h1.hs, Nat.le_trans hB.size h1.Bm, Nat.le_trans hB.size h1.Bs, fun s hs => ?_, fun k s hk => ?_, h1.sep⟩, hlen, fun k s hk => ?_, hB.trans (h2.mono hB.size)⟩
  ·obtain ⟨a, b⟩ := h1.dp s hs; exact ⟨a, Nat.le_trans hB.size b⟩
  ·obtain ⟨a, b⟩ := h1.cp k s hk; rw [himg]; exact ⟨a, Nat.le_trans hB.size b⟩
  ·have := List.eq_of_mem_replicate (List.mem_of_getElem? hk)
   subst this
   exact ⟨fun h => by omega, fun _ => rfl, Int.le_refl 0, show (0 : Int) < 8 by decide⟩
 obtain ⟨m, sb, l0, rfl, h0⟩ := hj
 conv => whnf
 refine atq_on ?_
 refine satq_seqN ?_
 conv => whnf
 refine q_nil_v _ rfl rfl rfl rfl ?_
 conv => whnf
 (repeat ((first | apply k1 | apply k2 | apply k3 | apply k4 | refine k5 (by decide) ?_ | refine k6 (by decide) ?_); conv => whnf))
 conv => whnf
 refine satq_in (satq_seqN ?_)
 conv => whnf
 refine satq_block ?_
 refine satq_loopX (fun j : { j : Nat // j ≤ p } => [(0, one (ptrV g)), (3, one (ptrV m)), (4, one (intV (j.1 : Int)))]) (fun j w' => ∃ l, MadeTo w w' m sb p M j.1 j.1 l) (fun j => p - j.1) ⟨0, by omega⟩ (aI rfl (aI rfl (aI rfl trivial))) (fun r w' hR => ⟨l0, h0.later hR.toBelow⟩) (fun j w' hJ => ?_)
 obtain ⟨j, hj⟩ := j
 obtain ⟨l, hl⟩ := hJ
 dsimp only at hl ⊢
 have hU1 := objs_later (memS_ob n p M) hU hl.below
 refine satq_seqN ?_
 conv => whnf
 refine call_memP rfl (by kernel_rfl) hU1 (fun w1 h1 => mem_pages M n p w1 g gs h1) ?_
 conv => whnf
 refine ⟨fun hc => ?_, fun hc => ?_⟩
 ·have hlt : j < p := by simp at hc; omega
  have h2l : 2 ≤ l.length := by rw [hl.len]; exact hp.1
  conv => whnf
  refine satq_in (satq_block ?_)
  refine satq_in (satq_jump 7 rfl rfl rfl ?_)
  conv => whnf
  refine ⟨((256 * j : Nat) : Int), by rw [show (256 : Int) * (j : Int) = ((256 * j : Nat) : Int) by omega]; exact wr64 (by omega), ?_⟩
  conv => whnf
  refine ⟨((256 * j : Nat) : Int), by rw [wr32]; omega, ?_⟩
  conv => whnf
  refine call_memP rfl (by kernel_rfl) hU1 (fun w1 h1 => mem_page M n p j w1 g gs h1 hM hlt) ?_
  conv => whnf
  refine jmp_con (fun u w2 => u = .tuple #[] ∧ ∃ l', MadeTo w w2 m sb p M j j l') rfl (by kernel_rfl) (fun r w1 hR => ?_) (fun u w2 hq => ?_)
  ·have h1 := hl.later hR.toBelow
   refine (pokeM_walk h1.mem h2l (by unfold word; omega) (M.page j) (page_byte hM j) (by rw [page_length hM hlt]; omega)).mono fun e w2 ⟨he, l', k1, k2, k3, _⟩ => ⟨_, he, rfl, l', k1, k2.1.trans h1.len, fun k s hs => ?_, h1.below.trans k3⟩
   obtain ⟨y, hy, e1, e2⟩ := keep_slots k2 hs
   rw [e1, e2]; exact h1.slots k y hy
  obtain ⟨rfl, l2, hl2⟩ := hq
  have hU2 := objs_later (memS_ob n p M) hU hl2.below
  obtain ⟨g2, hg2, hgi⟩ := mem_image_at hU2
  have h2l2 : 2 ≤ l2.length := by rw [hl2.len]; exact hp.1
  conv => whnf
  refine atq_on ?_
  refine satq_in (satq_jump 13 rfl rfl rfl ?_)
  conv => whnf
  refine ⟨_, hg2, ?_⟩
  conv => whnf
  refine ⟨((256 * j : Nat) : Int), by rw [show (256 : Int) * (j : Int) = ((256 * j : Nat) : Int) by omega]; exact wr64 (by omega), ?_⟩
  conv => whnf
  refine ⟨((256 * j : Nat) : Int), by rw [show (256 : Int) * (j : Int) = ((256 * j : Nat) : Int) by omega]; exact wr64 (by omega), ?_⟩
  conv => whnf
  refine ⟨((256 * j + 256 : Nat) : Int), by rw [show ((256 * j : Nat) : Int) + 256 = ((256 * j + 256 : Nat) : Int) by omega]; exact wr64 (by omega), ?_⟩
  conv => whnf
  refine op_slice_v (256 * j) (256 * j + 256) 1 rfl rfl rfl rfl rfl (.inr ⟨_, _, rfl, rfl⟩) (.inr ⟨_, _, rfl, rfl⟩) (by omega) (by omega) rfl ?_
  rw [if_neg (by omega), Option.map_some, addr_add]
  have hli := img_length hM hlt
  have hsub : CellsAt w2 Gs.nil g2 (0 + 256 * j * 1) ((M.img j).map byteV) := by
   refine ⟨hgi.1, hgi.2.1, fun i u hi => ?_⟩
   rw [List.getElem?_map] at hi
   unfold MemP.img at hi
   rw [List.getElem?_take] at hi
   split at hi
   ·rw [List.getElem?_drop] at hi
    have := hgi.2.2 (256 * j + i) u (by rw [List.getElem?_map]; exact hi)
    rw [show 0 + 256 * j * 1 + i = 0 + (256 * j + i) by omega]; exact this
   ·cases hi
  conv => whnf
  refine q_conv_plain g2 (0 + 256 * j * 1) (256 * j + 256 - 256 * j) (n + M.ti.length - 256 * j) (M.img j) rfl rfl rfl rfl rfl hsub (by rw [hli]; omega) ?_
  conv => whnf
  refine jmp_con (fun u w3 => u = .tuple #[] ∧ ∃ l', MadeTo w w3 m sb p M (j + 1) j l') rfl (by kernel_rfl) (fun r w1 hR => ?_) (fun u w3 hq => ?_)
  ·have h1 := hl2.later hR.toBelow
   obtain ⟨s, hs⟩ : ∃ s, l2[j]? = some s := ⟨_, List.getElem?_eq_getElem (by rw [hl2.len]; exact hlt)⟩
   refine (setCodeM_walk h1.mem j hs ((h1.slots j s hs).2.1 (Nat.le_refl _)) h2l2 (M.img j) (img_byte hM j) hli).mono fun e w3 ⟨he, c', k1, k3⟩ => ⟨_, he, rfl, setC l2 j c', ?_, (setC_length _ _ _).trans h1.len, fun k s' hs' => ?_, h1.below.trans k3⟩
   ·rw [← imgTo_succ]; exact k1
   ·rw [setC_get] at hs'
    split at hs'
    ·rename_i e'
     subst e'
     rw [hs] at hs'
     simp at hs'; subst hs'
     have := h1.slots j s hs
     exact ⟨fun h => by omega, fun h => by omega, this.2.2⟩
    ·have := h1.slots k s' hs'
     exact ⟨this.1, fun h => this.2.1 (by omega), this.2.2⟩
  obtain ⟨rfl, l3, hl3⟩ := hq
  have hU3 := objs_later (memS_ob n p M) hU hl3.below
  have h2l3 : 2 ≤ l3.length := by rw [hl3.len]; exact hp.1
  conv => whnf
  refine atq_on ?_
  refine satq_jump 5 rfl rfl rfl ?_
  conv => whnf
  refine call_memP rfl (by kernel_rfl) hU3 (fun w1 h1 => mem_rightsOf M n p j w1 g gs h1 hM hlt) ?_
  conv => whnf
  refine jmp_con (fun u w4 => u = .tuple #[] ∧ ∃ l', MadeTo w w4 m sb p M (j + 1) (j + 1) l') rfl (by kernel_rfl) (fun r w1 hR => ?_) (fun u w4 hq => ?_)
  ·have h1 := hl3.later hR.toBelow
   have hr := rightsAt_range hM j
   refine (protectM_walk h1.mem j (by rw [hl3.len]; exact hlt) h2l3 (M.rightsAt j) hr).mono fun e w4 ⟨he, k1, k3⟩ => ⟨_, he, rfl, setR l3 j (M.rightsAt j), k1, by unfold setR; rw [List.length_modify]; exact h1.len, fun k s' hs' => ?_, h1.below.trans k3⟩
   rw [setR_get] at hs'
   split at hs'
   ·rename_i e'
    subst e'
    cases hy : l3[j]? with
    | none => rw [hy] at hs'; cases hs'
    | some y =>
     rw [hy] at hs'
     simp at hs'; subst hs'
     have := h1.slots j y hy
     exact ⟨fun _ => rfl, fun h => by omega, hr⟩
   ·have := h1.slots k s' hs'
    exact ⟨fun h => this.1 (by omega), this.2.1, this.2.2⟩
  obtain ⟨rfl, l4, hl4⟩ := hq
  conv => whnf
  refine atq_then ?_
  refine satq_vcN ?_
  conv => whnf
  refine ⟨((j + 1 : Nat) : Int), by rw [show (j : Int) + 1 = ((j + 1 : Nat) : Int) by omega]; exact wr64 (by omega), ?_⟩
  conv => whnf
  exact atq_nextW ⟨j + 1, by omega⟩ (aI rfl (aI rfl (aI rfl trivial))) (fun r w5 hR => ⟨l4, hl4.later hR.toBelow⟩) (by show p - (j + 1) < p - j; omega)
 ·have hje : j = p := by simp at hc; omega
  subst hje
  conv => whnf
  refine atq_outW (atq_exit (atq_on ?_))
  refine satq_vcN ?_
  conv => whnf
  refine atq_ret ?_
  conv => whnf
  exact fin_val rfl fun w2 hB => ⟨m, sb, l, rfl, hl.later hB⟩
end
end Go.Proofs.YtnhdcclpjildjaaGreat
namespace Go.Proofs.YtnhdcclpjildjaaGreat
open Go.RowKit

def jmpGK (P : Program) (w0 : World) (G : Gs) (o : Oper) (f : Fr) (S : List Ow) (K : AV → World → Gs → Fr → List Ow → Prop) : Prop :=
 match o.op with
 | .call ⟨.value fn, args, _⟩ => (match f.ev fn with
  | .p (.c (.clo (.func fid) [])) => evL f args.toList fun vs => JmpG P w0 G fid vs f S K
  | _ => False)
 | _ => False
section
variable {P : Program} {w0 : World} {G : Gs} {N : Nd} {c d : Code} {f : Fr} {S : List Ow} {Q : Exit → Act → World → Prop}
theorem jmpGK_sound {o : Oper} {K : AV → World → Gs → Fr → List Ow → Prop} (h : jmpGK P w0 G o f S K) {r : Env} {w : World} (hR : Rel w0 G S r w) {a : Act} (hf : FDen r f a) {next : Act → World → Prop} (hK : ∀ u x w2 G2 f2 S2 r2 w', Rel w2 G2 S2 r2 w' → FDen r2 f2 a → x.den r2 u → K x w2 G2 f2 S2 → next (a.put o.dst u) w') : Oper.se P o a w next := by
 unfold jmpGK at h
 split at h
 ·rename_i fn args tys hop
  have hfn := hf.ev fn
  split at h
  ·rename_i fid he
   rw [he] at hfn
   obtain ⟨us, hu, hcap⟩ := den_clo hfn
   simp only [denL] at hcap
   subst hcap
   rw [evL_iff] at h
   obtain ⟨hok, hc⟩ := h
   have hrun : (execOp a.eval o).run P w = .ok (.enter fid (args.map a.eval)) w := by
    simp [execOp, hop, resolve, Deferred.ofValue, hu, invoke, run_callFunc hok]
   refine wp_of_enter hrun ?_
   have := hc r w (args.toList.map a.eval) hR (avdenL_ev hf _)
   rw [show (args.toList.map a.eval).toArray = args.map a.eval by apply Array.ext'; simp] at this
   exact Calls.mono this fun e w' ⟨u, x, w2, G2, f2, S2, r2, he, h1, h2, h3, hk⟩ => ⟨u, he, hK u x w2 G2 f2 S2 r2 w' h1 (h2 a hf) h3 hk⟩
  ·exact h.elim
 ·exact h.elim
theorem satq_jumpG {id : Nat} {ops : Array Oper} (k : Nat) {o : Oper} (hk : ops.toList.drop k = o :: ops.toList.drop (k + 1)) (hg : o.guard = none) (hdst : dstOk N.n o.dst = true)
  (h : guardedN P w0 G N ops (ops.toList.take k) f S fun f1 S1 => jmpGK P w0 G o f1 S1 fun x w2 G2 f2 S2 => guardedN P w2 G2 N ops (ops.toList.drop (k + 1)) (f2.put o.dst x) S2 fun f3 S3 => AtQ w2 G2 N .normal f3 S3 Q) : SatQ P w0 G N (.region id ops false) f S Q :=
 ⟨fun a w hgd => wpIn_region_list (wpListIn_split none 10 k (guardedN_sound (Q := fun a w => ∃ f1 S1, (jmpGK P w0 G o f1 S1 fun x w2 G2 f2 S2 => guardedN P w2 G2 N ops (ops.toList.drop (k + 1)) (f2.put o.dst x) S2 fun f3 S3 => AtQ w2 G2 N .normal f3 S3 Q) ∧ Good w0 G N f1 S1 a w) _ f S _ h (fun f' S' a' w' hk' hg' => ⟨f', S', hk', hg'⟩) a w hgd) (by
  rintro a w ⟨f1, S1, hj, r, hR, hf, hN, hd⟩
  rw [hk]
  unfold wpListIn
  rw [if_pos (wanted_none hg _)]
  refine se_wpIn none 10 (next := fun a w => wpListIn (fenceR none) 10 P ops Q (ops.toList.drop (k + 1)) a w) (jmpGK_sound hj hR hf fun u x w2 G2 f2 S2 r2 w' h1 h2 h3 hq => ?_) (fun a w h => h)
  exact seL_wpIn none 10 (guardedN_sound _ _ _ _ hq (fun f' S' a' w' hk' hg' => hk'.out a' w' hg') _ _ ⟨r2, h1, h2.put h3 (by rw [hN]; exact hdst), (put_size a _ _).trans hN, (put_defers a _ _).trans hd⟩)))⟩
end
theorem rel_far {w0 w : World} {fs : List Nat} {S : List Ow} {r : Env} (hR : Rel w0 ⟨fs, []⟩ S r w) {i b : Nat} (hi : fs.length ≤ i) (hb : r.blk i = some b) : w0.heap.size ≤ b := by
 rcases Nat.lt_or_ge b w0.heap.size with h1 | h1
 ·rcases (hR.new i b hb).2 h1 with h2 | h2
  ·obtain ⟨j, hj, hjb⟩ := List.mem_iff_getElem.1 h2
   have h3 := hR.first j b (by rw [← hjb]; exact List.getElem?_eq_getElem hj)
   have := hR.inj i j b hb h3
   have hj : j < fs.length := hj
   omega
  ·cases h2
 ·exact h1
theorem row_far {w0 w : World} {fs : List Nat} {S : List Ow} {r : Env} (hR : Rel w0 ⟨fs, []⟩ S r w) {i n size : Nat} {e : TypeId} {xs : List Value} {u : Value} (hi : fs.length ≤ i) (hS : S[i]? = some (.row e size n xs)) (hu : r.val i = some u) : w.ownsRow w0.heap.size e size u n xs ∧ u.ownBlock = r.blk i := by
 obtain ⟨v, f1, f2, f3⟩ := hR.own i _ hS
 rw [hu] at f1; injection f1 with f1; subst f1
 refine ⟨⟨f3.1, ?_⟩, f2⟩
 rcases f3.2 with h1 | ⟨b', cap, cur, h1, _, h2⟩
 ·exact .inl h1
 ·exact .inr ⟨b', cap, cur, h1, rel_far hR hi (by rw [← f2, h1]; rfl), h2⟩
theorem rows3_far {w0 w : World} {fs : List Nat} {S : List Ow} {r : Env} (hR : Rel w0 ⟨fs, []⟩ S r w) (i1 i2 i3 : Nat) (b : Blk) (h12 : i1 ≠ i2) (h13 : i1 ≠ i3) (h23 : i2 ≠ i3) (hf : fs.length ≤ i1 ∧ fs.length ≤ i2 ∧ fs.length ≤ i3)
  (h1 : S[i1]? = some (.row 35 1 b.at_.length (b.at_.map (.int .u32)))) (h2 : S[i2]? = some (.row 3 1 b.pages.length (b.pages.map (.int .i64)))) (h3 : S[i3]? = some (.row 45 5 b.ops.length (b.ops.flatMap opC)))
  {us : List Value} (hd : denL r [.row i1, .row i2, .row i3] us) : ∃ v1 v2 v3, us = [v1, v2, v3] ∧ Rows3 w0.heap.size w v1 v2 v3 b := by
 simp only [denL, CV.den] at hd
 obtain ⟨u1, l1, rfl, d1, u2, l2, rfl, d2, u3, l3, rfl, d3, rfl⟩ := hd
 obtain ⟨o1, b1⟩ := row_far hR hf.1 h1 d1
 obtain ⟨o2, b2⟩ := row_far hR hf.2.1 h2 d2
 obtain ⟨o3, b3⟩ := row_far hR hf.2.2 h3 d3
 refine ⟨u1, u2, u3, rfl, o1, o2, o3, fun x hx hy => ?_, fun x hx hy => ?_, fun x hx hy => ?_⟩
 ·rw [b1] at hx; rw [b2] at hy; exact h12 (hR.inj _ _ _ hx hy)
 ·rw [b1] at hx; rw [b3] at hy; exact h13 (hR.inj _ _ _ hx hy)
 ·rw [b2] at hx; rw [b3] at hy; exact h23 (hR.inj _ _ _ hx hy)
theorem fin_rows3T {w0 : World} {fs : List Nat} {S : List Ow} {y : Value} {R : Ending → World → Prop} (i1 i2 i3 : Nat) (b : Blk) (h12 : i1 ≠ i2) (h13 : i1 ≠ i3) (h23 : i2 ≠ i3) (hf : fs.length ≤ i1 ∧ fs.length ≤ i2 ∧ fs.length ≤ i3)
  (h1 : S[i1]? = some (.row 35 1 b.at_.length (b.at_.map (.int .u32)))) (h2 : S[i2]? = some (.row 3 1 b.pages.length (b.pages.map (.int .i64)))) (h3 : S[i3]? = some (.row 45 5 b.ops.length (b.ops.flatMap opC)))
  (h : ∀ r w v1 v2 v3, Rel w0 ⟨fs, []⟩ S r w → Rows3 w0.heap.size w v1 v2 v3 b → R (.returned (.tuple #[.agg #[v1, v2, v3], y])) w) : Fin w0 ⟨fs, []⟩ S (.tup [.agg [.row i1, .row i2, .row i3], .c (.v y)]) R := by
 refine ⟨fun r w u hR hd => ?_⟩
 obtain ⟨us, rfl, l1⟩ := hd
 obtain ⟨u1, l2, rfl, d1, l2'⟩ := l1
 obtain ⟨u2, l3, rfl, d2, l3'⟩ := l2'
 obtain rfl : l3 = [] := l3'
 obtain ⟨us, rfl, d1⟩ := d1
 obtain ⟨v1, v2, v3, rfl, k⟩ := rows3_far hR i1 i2 i3 b h12 h13 h23 hf h1 h2 h3 d1
 have d2 : u2 = y := by simpa only [Pc.den, CV.den] using d2
 subst d2
 exact h r w v1 v2 v3 hR k
theorem op_iface {P : Program} {w0 : World} {G : Gs} {N : Nd} {S : List Ow} {f : Fr} {o : Oper} {K : Fr → List Ow → Prop} {t : TypeId} {x : Operand} {v : Value} (hop : o.op = .makeInterface t x) (hx : f.ev x = one v) (hc : P.concrete t = true) (hdst : dstOk N.n o.dst = true) (hk : K (f.put o.dst (one (.iface t v))) S) : OpS P w0 G N o f S K := by
 refine opS_val _ hdst (fun r act w hR hf => ⟨_, den_one _ _, ?_⟩) hk
 have h1 := hf.ev x
 rw [hx] at h1
 simp [execOp, hop, den_v h1, run_makeInterface w t v hc]
theorem call_blkT {P : Program} {w0 : World} {G : Gs} {fid : FuncId} {args : List AV} {S : List Ow} {K : AV → List Ow → Prop} (b : Blk) (y : Value) (hok : fnOk P fid = true)
  (h : ∀ r w us, Rel w0 G S r w → avdenL r args us → Calls P fid us.toArray w fun en w' => ∃ v1 v2 v3, en = .returned (.tuple #[.agg #[v1, v2, v3], y]) ∧ Rows3 w.heap.size w' v1 v2 v3 b ∧ Below w.heap.size w w')
  (hK : K (.tup [.agg [.row S.length, .row (S.length + 1), .row (S.length + 2)], .c (.v y)]) (S ++ blkRows b)) : CallS P w0 G fid args S K := by
 refine ⟨hok, fun r w us hR hd => ?_⟩
 refine (h r w us hR hd).mono fun en w' ⟨v1, v2, v3, he, h3, hB⟩ => ?_
 obtain ⟨k1, k2, k3, k4, k5⟩ := hR.rows3 hB h3
 refine ⟨.tup [.agg [.row S.length, .row (S.length + 1), .row (S.length + 2)], .c (.v y)], _, _, _, he, ⟨[.agg #[v1, v2, v3], y], rfl, .agg #[v1, v2, v3], _, rfl, ⟨[v1, v2, v3], rfl, ?_⟩, y, [], rfl, by simp only [Pc.den, CV.den], rfl⟩, k1, k2, hK⟩
 simp only [denL, CV.den]
 exact ⟨_, _, rfl, k3, _, _, rfl, k4, _, _, rfl, k5, rfl⟩
end Go.Proofs.YtnhdcclpjildjaaGreat
namespace Go.Proofs.YtnhdcclpjildjaaGreat
open Go.RowKit

theorem fetch_is {w w' : World} {m sb n p : Nat} {M : MemP} {l : List Slt} (hM : M.ok n p) (h : MadeTo w w' m sb p M p p l) {a : Int} (ha : 0 ≤ a) : fetchL l (imgTo M p) a = M.fet a := by
 have hnp := hM.np
 obtain ⟨k, hk⟩ : ∃ k : Nat, a = k := ⟨a.toNat, by omega⟩
 subst hk
 have e1 : ((k : Int) / 256).toNat = k / 256 := by omega
 have e2 : ((k : Int) % 256).toNat = k % 256 := by omega
 unfold fetchL MemP.fet MemP.right
 rw [e1, e2, hM.ld]
 cases hs : l[k / 256]? with
 | none =>
  have : p ≤ k / 256 := by
   rw [← h.len]
   rcases Nat.lt_or_ge (k / 256) l.length with h1 | h1
   ·rw [List.getElem?_eq_getElem h1] at hs; cases hs
   ·exact h1
  rw [if_neg]
  have h1 : ¬ (k : Int) < (n : Int) := by omega
  simp [h1]
 | some s =>
  have hlt : k / 256 < p := by
   rw [← h.len]
   rcases Nat.lt_or_ge (k / 256) l.length with h1 | h1
   ·exact h1
   ·rw [List.getElem?_eq_none h1] at hs; cases hs
  have hr := (h.slots _ s hs).1 hlt
  dsimp only
  have h1 : (k : Int) < (n : Int) := by omega
  unfold MemP.rightsAt at hr
  rw [hr]
  have himg : ((imgTo M p (k / 256))[k % 256]?).getD 0 = M.code k := by
   unfold imgTo MemP.img MemP.code
   rw [if_pos hlt, List.getElem?_take, if_pos (by omega), List.getElem?_drop]
   rw [show 256 * (k / 256) + k % 256 = k by omega]
   simp
  rw [himg]
  by_cases h2 : ((M.rights[k / 256]?).getD 0) / 4 % 2 = 1
  ·rw [if_pos h2, if_pos (by simp [h1, h2])]
  ·rw [if_neg h2, if_neg (by simp [h2])]
section
variable {w : World} {g n p : Nat} {gs : List Nat} {M : MemP}
theorem call_validR {w0 : World} {G : Gs} {S : List Ow} {K : AV → List Ow → Prop} (i1 i2 i3 : Nat) (b : Blk) (hb : b.ok) (hv : validB b = true) (h1 : S[i1]? = some (.row 35 1 b.at_.length (b.at_.map (.int .u32)))) (h2 : S[i2]? = some (.row 3 1 b.pages.length (b.pages.map (.int .i64)))) (h3 : S[i3]? = some (.row 45 5 b.ops.length (b.ops.flatMap opC))) (hK : K (one (.bool true)) S) : CallS Tryz.prog w0 G 41 [.p (.agg [.row i1, .row i2, .row i3])] S K := by
 refine callS_val (.bool true) (by kernel_rfl) (fun r w us hR hd => ?_) hK
 obtain ⟨u, l, rfl, d1, d2⟩ := hd
 obtain rfl : l = [] := d2
 obtain ⟨us, rfl, hl⟩ := den_agg d1
 simp only [denL, CV.den] at hl
 obtain ⟨u1, l1, rfl, k1, u2, l2, rfl, k2, u3, l3, rfl, k3, rfl⟩ := hl
 clear d1
 obtain ⟨A1, c1, rfl, s1, _⟩ := hR.rowAt h1 k1
 obtain ⟨A2, c2, rfl, s2, _⟩ := hR.rowAt h2 k2
 obtain ⟨A3, c3, rfl, s3, _⟩ := hR.rowAt h3 k3
 have := valid_ref A1 A2 A3 c1 c2 c3 b w hb s2 s3
 rw [valid_same b, hv] at this
 exact this
set_option maxRecDepth 100000 in
set_option maxHeartbeats 2000000 in
theorem lifted_walk (hU : ObjsAt w (g :: gs) (memS 0 n p M)) (hM : M.ok n p) (hp : 2 ≤ p ∧ p ≤ 1000) (pc most : Int) (hpc : word pc) :
  Calls Tryz.prog 15 #[.int .u32 pc, ptrV g, intV most] w fun e w' => ∃ v1 v2 v3, e = .returned (.tuple #[.agg #[v1, v2, v3], .bool true]) ∧ Rows3 w.heap.size w' v1 v2 v3 (liftM M pc most) ∧ Below w.heap.size w w' := by
 obtain ⟨hbok, hbv, _⟩ := liftM_ok hM pc most
 refine calls_satq [.int .u32 pc, ptrV g, intV most] Tryz.func15 Tryz.ntmps15 rfl (by simp) ?_
 refine satq_seqN ?_
 conv => whnf
 refine satq_in (satq_jumpG 1 rfl rfl rfl ?_)
 conv => whnf
 refine ⟨by kernel_rfl, fun r w1 us hR hd => ?_⟩
 obtain rfl := avals_den (xs := [ptrV g]) rfl hd
 have hB := hR.toBelow
 obtain ⟨q, vs, e1, e2, e3⟩ := hR.own 0 _ rfl
 obtain rfl := denL_vals_inv (us := [nilB, nilB, nilB]) e3
 have hqn : w.heap.size ≤ q := fresh_of hR e1
 refine (memory_walk (objs_later (memS_ob n p M) hU hB) hM hp).mono fun e w2 ⟨m, sb, l, he, hl⟩ => ?_
 have hq2 : w2.heap[q]? = some (.cells #[nilB, nilB, nilB] blT (0, 0)) := (hl.below.block q (heap_lt e2)).trans e2
 refine ⟨_, one (ptrV m), w2, ⟨[q], []⟩, [(0, one (.int .u32 pc)), (2, one (intV most)), (6, .p (.c (.ref 0 0)))], [.cells blT zerosC], envOne q, he, rel_own1 w2 hq2, fun a hf => frDen ⟨slot_same hf 0 rfl, slot_same hf 2 rfl, slot_moved hf 6 rfl (fun b hb => by rw [e1] at hb; injection hb with hb; subst hb; rfl), trivial⟩, den_one _ _, ?_⟩
 conv => whnf
 refine atq_on ?_
 refine satq_seqN ?_
 conv => whnf
 refine q_nil_v _ rfl rfl rfl rfl ?_
 conv => whnf
 (repeat ((first | apply k1 | apply k2 | apply k3 | apply k4 | refine k5 (by decide) ?_ | refine k6 (by decide) ?_); conv => whnf))
 conv => whnf
 have hfw : ∀ w', MemAt2 w' w1.heap.size m sb l (imgTo M p) → ∀ x, word x → Calls Tryz.prog 163 #[ptrV m, .int .u32 x] w' fun e w2 => e = .returned (fetV (M.fet x)) ∧ Below w'.heap.size w' w2 := fun w' hm' x hx => by
  have := fetchM_walk hm' x hx (fun s hs => by
   obtain ⟨k, hk, rfl⟩ := List.mem_iff_getElem.1 hs
   obtain ⟨_, _, h1, h2⟩ := hl.slots k _ (List.getElem?_eq_getElem hk)
   exact ⟨h1, h2⟩)
  rw [fetch_is hM hl hx.1] at this
  exact this
 refine satq_seqN ?_
 conv => whnf
 refine op_iface rfl rfl (by kernel_rfl) rfl ?_
 conv => whnf
 refine call_blk (fun b => b = liftM M pc most) (by kernel_rfl) (fun r w3 us hR hd => ?_) fun b hb => ?_
 ·obtain rfl := avals_den (xs := [.int .u32 pc, .iface 95 (ptrV m), intV most]) rfl hd
  have hm3 : MemAt2 w3 w1.heap.size m sb l (imgTo M p) := hl.mem.keep fun k hk hlt => hR.old k hlt fun hm => by
   rcases hm with hm | hm
   ·have : k = q := by simpa using hm
    have := heap_lt e2
    omega
   ·cases hm
  exact (lift_walk w3 M.fet (fun a b h => fet_byte hM a b h) m 95 (fun w => by kernel_rfl) (fun w' x hB' hx => hfw w' (hm3.later hB') x hx) pc most hpc).mono fun e w4 ⟨v1, v2, v3, he, h3, hB4⟩ => ⟨_, v1, v2, v3, rfl, he, h3, hB4⟩
 subst hb
 conv => whnf
 refine satq_mid (α := Unit) (fun _ => [(6, .p (.c (.ref 0 0))), (7, one (.bool true))]) (fun _ => [.cells blT [.row 1, .row 2, .row 3], .row 35 1 (liftM M pc most).at_.length ((liftM M pc most).at_.map (.int .u32)), .row 3 1 (liftM M pc most).pages.length ((liftM M pc most).pages.map (.int .i64)), .row 45 5 (liftM M pc most).ops.length ((liftM M pc most).ops.flatMap opC)]) ?_ fun _ => ?_
 ·refine satq_vcN ?_
  conv => whnf
  refine sat_anyG (.alt 0 (.alt 1 (.alt 2 (.alt 3 (.alt 4 .done .no) .no) .no) .no) (.alt 1 (.alt 0 (.alt 2 (.alt 3 (.alt 4 .done .no) .no) .no) (.alt 2 (.alt 0 (.alt 3 (.alt 4 .done .no) .no) .no) .no)) .no)) mixed (by kernel_rfl) (by kernel_rfl) ?_
  conv => whnf
  refine ⟨?_, ?_, trivial⟩
  ·conv => whnf
   refine ⟨?_, trivial⟩
   conv => whnf
   refine ⟨?_, trivial⟩
   conv => whnf
   refine call_validR 1 2 3 (liftM M pc most) hbok hbv rfl rfl rfl ?_
   conv => whnf
   refine ⟨?_, trivial⟩
   conv => whnf
   refine ⟨?_, trivial⟩
   conv => whnf
   exact atq_mid () (ent_drop (aI rfl (aI rfl trivial)) (aI sM (aI ((aI rfl (aI rfl (aI rfl rfl)))) (aI ((aI rfl (aI rfl (aI rfl rfl)))) (aI ((aI rfl (aI rfl (aI rfl rfl)))) trivial)))) rfl rfl)
  ·conv => whnf
   refine ⟨?_, ?_, trivial⟩
   ·conv => whnf
    refine ⟨?_, trivial⟩
    conv => whnf
    refine call_validR 1 2 3 (liftM M pc most) hbok hbv rfl rfl rfl ?_
    conv => whnf
    refine ⟨?_, trivial⟩
    conv => whnf
    refine ⟨?_, trivial⟩
    conv => whnf
    exact atq_mid () (ent_drop (aI rfl (aI rfl trivial)) (aI sM (aI ((aI rfl (aI rfl (aI rfl rfl)))) (aI ((aI rfl (aI rfl (aI rfl rfl)))) (aI ((aI rfl (aI rfl (aI rfl rfl)))) trivial)))) rfl rfl)
   ·conv => whnf
    refine call_validR 1 2 3 (liftM M pc most) hbok hbv rfl rfl rfl ?_
    conv => whnf
    refine ⟨?_, trivial⟩
    conv => whnf
    refine ⟨?_, trivial⟩
    conv => whnf
    refine ⟨?_, trivial⟩
    conv => whnf
    exact atq_mid () (ent_drop (aI rfl (aI rfl trivial)) (aI sM (aI ((aI rfl (aI rfl (aI rfl rfl)))) (aI ((aI rfl (aI rfl (aI rfl rfl)))) (aI ((aI rfl (aI rfl (aI rfl rfl)))) trivial)))) rfl rfl)
 refine satq_vcN ?_
 conv => whnf
 refine atq_ret ?_
 conv => whnf
 refine fin_rows3T (fs := [q]) 1 2 3 (liftM M pc most) (by decide) (by decide) (by decide) ⟨by simp, by simp, by simp⟩ rfl rfl rfl fun r w3 v1 v2 v3 hR h3 => ⟨v1, v2, v3, rfl, ?_, ?_⟩
 ·exact h3.base (Nat.le_trans hB.size hl.below.size)
 ·have hB2 := below_next hB hl.below
  exact ⟨hR.os.trans hB2.os, hR.tape.trans hB2.tape, hR.output.trans hB2.output, Nat.le_trans hB2.size hR.size, fun k hk => (hR.old k (Nat.lt_of_lt_of_le hk hB2.size) fun hm => by
   rcases hm with hm | hm
   ·have : k = q := by simpa using hm
    omega
   ·cases hm).trans (hB2.block k hk)⟩
end
end Go.Proofs.YtnhdcclpjildjaaGreat
namespace Go.Proofs.YtnhdcclpjildjaaGreat
open Go.RowKit

theorem cpuU_sh (k : Nat) (us : List Value) (n p : Nat) (M : MemP) : ShAll k (cpuU 0 us n p M) (cpuU k us n p M) := by
 refine ⟨⟨rfl, ?_⟩, ⟨rfl, ?_⟩, ⟨rfl, (sh_vals k _).symm⟩, ⟨rfl, (sh_vals k _).symm⟩, ⟨rfl, (sh_vals k _).symm⟩, ⟨rfl, (sh_vals k _).symm⟩, ⟨rfl, (sh_vals k _).symm⟩, trivial⟩
 ·rw [List.map_append, sh_vals]; rfl
 ·simp [CV.sh, Nat.add_assoc]
def stZ : List Value := [u32V 0, u32V 0, u32V 0, u32V 0, u32V 0, u32V 0, u32V 0, u32V 0, u32V 0, u32V 0, u32V 0, u32V 0, u32V 0, u32V 0, u32V 0, u32V 0, u32V 0, u32V 0, u32V 0, u32V 0, u32V 0, u32V 0, intV 0, intV 0]
set_option maxRecDepth 100000 in
theorem cpu_new (p : Nat) (w : World) (hp : 1 ≤ p ∧ p ≤ 64) :
  Calls Tryz.prog 34 #[intV (p : Int)] w fun e w' => ∃ g gs, e = .returned (ptrV g) ∧ NewObjs w w' (g :: gs) (cpuU 0 stZ (256 * p) p (MemP.zero p)) := by
 obtain ⟨n, hn⟩ : ∃ n, n = 256 * p := ⟨_, rfl⟩
 obtain ⟨M, hM⟩ : ∃ M, M = MemP.zero p := ⟨_, rfl⟩
 rw [← hn, ← hM]
 refine calls_satq [intV (p : Int)] Tryz.func34 Tryz.ntmps34 rfl (by simp) ?_
 refine satq_seqN ?_
 conv => whnf
 refine satq_seqN ?_
 conv => whnf
 refine call_newObjs (memS 0 n p M) (memS 0 n p M) rfl (by kernel_rfl) (memS_sh 0 n p M) (memS_ob n p M) (fun r w hR => by rw [hn, hM]; exact new_mem p w hp) ?_
 conv => whnf
 refine satq_as (f' := [(2, .p (.c (.ref 0 0)))]) (S' := cpuU 0 stZ n p M) (ent_ren [6, 0, 1, 2, 3, 4, 5] (aI rfl trivial) (aI ((Exists.intro _ (aI rfl sM))) (aI ((Exists.intro _ (aI rfl sM))) (aI ((Exists.intro _ (aI rfl (aI rfl (Or.inl (renL_vals _ _).symm))))) (aI ((Exists.intro _ (aI rfl (aI rfl (Or.inl (renL_vals _ _).symm))))) (aI ((Exists.intro _ (aI rfl (aI rfl (Or.inl (renL_vals _ _).symm))))) (aI ((Exists.intro _ (aI rfl (aI rfl (Or.inl (renL_vals _ _).symm))))) (aI ((Exists.intro _ (aI rfl (aI rfl (Or.inl (renL_vals _ _).symm))))) trivial))))))) rfl (by show sbnd 7 (cpuU 0 stZ n p M) = true; simp only [sbnd, Ow.bnd, bndL_vals, bndL, CV.bnd]; rfl) rfl rfl rfl) ?_
 refine satq_vcN ?_
 conv => whnf
 refine atq_ret ?_
 conv => whnf
 exact fin_newObjs 0 (cpuU 0 stZ n p M) (cpuU 0 stZ n p M) (by simp) (fun i _ => by rw [Nat.zero_add]) (cpuU_sh 0 stZ n p M) (cpuU_ob stZ n p M) fun w' g gs h => ⟨g, gs, rfl, h⟩
end Go.Proofs.YtnhdcclpjildjaaGreat
namespace Go.Proofs.YtnhdcclpjildjaaGreat
open Go.RowKit
theorem call_objsX {P : Program} {w0 : World} {G : Gs} {fid : FuncId} {S : List Ow} {K : AV → List Ow → Prop} {pre suf : List AV} {α : Type} (k : Nat) (U V : List Ow) (U' V' : α → List Ow) (X : α → Value) (post : α → Prop) (hpos : 0 < U.length) (hsh : ShAll k U V) (hob : ObAll U.length U) (hS : ∀ i, i < U.length → S[k + i]? = V[i]?)
  (hok : fnOk P fid = true) (hsh' : ∀ x, post x → ShAll k (U' x) (V' x)) (hob' : ∀ x, post x → ObAll U.length (U' x)) (hlen' : ∀ x, post x → (U' x).length = U.length)
  (h : ∀ r w g gs xs ys, Rel w0 G S r w → avdenL r pre xs → avdenL r suf ys → (∀ b, b ∈ g :: gs → ∃ i, i < U.length ∧ r.blk (k + i) = some b) → ObjsAt w (g :: gs) U → Calls P fid (xs ++ .pointer (some ⟨g, 0, none⟩) :: ys).toArray w fun e w' => ∃ x, post x ∧ e = .returned (X x) ∧ ObjsAt w' (g :: gs) (U' x) ∧ GrownBys w w' (g :: gs))
  (hK : ∀ x, post x → K (AV.of (X x)) (putS S k (V' x))) : CallS P w0 G fid (pre ++ .p (.c (.ref k 0)) :: suf) S K := by
 refine ⟨hok, fun r w vs hR hd => ?_⟩
 have hSlen : k + U.length ≤ S.length := by
  have h1 := hS (U.length - 1) (by omega)
  obtain ⟨o', h2, _⟩ := hsh.get (U.length - 1) (List.getElem?_eq_getElem (by omega) : U[U.length - 1]? = some U[U.length - 1])
  rw [h2] at h1
  rcases Nat.lt_or_ge (k + (U.length - 1)) S.length with h3 | h3
  ·omega
  ·rw [List.getElem?_eq_none h3] at h1; cases h1
 have hblk : ∀ i, i < U.length → ∃ b, r.blk (k + i) = some b := fun i hi => by
  obtain ⟨o', h2, h3⟩ := hsh.get i (List.getElem?_eq_getElem hi)
  have h4 := hR.own (k + i) o' (by rw [hS i hi, h2])
  have h5 := hob _ (List.getElem_mem hi)
  cases hu : U[i] with
  | cells t l =>
   rw [hu] at h3
   cases o' with
   | cells t' l' => obtain ⟨b, us, e1, _⟩ := h4; exact ⟨b, e1⟩
   | row => exact h3.elim
   | ext => exact h3.elim
   | view => exact h3.elim
   | gone => exact h3.elim
  | row => rw [hu] at h5; exact h5.elim
  | ext => rw [hu] at h5; exact h5.elim
  | view => rw [hu] at h5; exact h5.elim
  | gone => rw [hu] at h5; exact h5.elim
 obtain ⟨gs, hgl, hgs⟩ : ∃ gs : List Nat, gs.length = U.length ∧ ∀ i, i < U.length → gs[i]? = r.blk (k + i) := by
  refine ⟨(List.range U.length).map fun i => (r.blk (k + i)).getD 0, by simp, fun i hi => ?_⟩
  obtain ⟨b, hb⟩ := hblk i hi
  rw [List.getElem?_map, List.getElem?_range hi, hb]
  simp [hb]
 have hto : ∀ i b, i < U.length → r.blk (k + i) = some b → (envOf gs).blk i = some b := fun i b hi hb => by
  show gs[i]? = some b
  rw [hgs i hi]; exact hb
 have hfrom : ∀ i b, i < U.length → (envOf gs).blk i = some b → r.blk (k + i) = some b := fun i b hi hb => by
  have hb : gs[i]? = some b := hb
  rw [hgs i hi] at hb; exact hb
 have hin : ∀ (i b : Nat), gs[i]? = some b → i < U.length ∧ r.blk (k + i) = some b := fun i b hb => by
  have hi : i < U.length := by
   rcases Nat.lt_or_ge i U.length with h1 | h1
   ·exact h1
   ·rw [List.getElem?_eq_none (by omega)] at hb; cases hb
  exact ⟨hi, by rw [← hgs i hi]; exact hb⟩
 have hmem : ∀ b, b ∈ gs → ∃ i, i < U.length ∧ r.blk (k + i) = some b := fun b hb => by
  obtain ⟨i, hi⟩ := List.getElem?_of_mem hb
  exact ⟨i, hin i b hi⟩
 have hU : ObjsAt w gs U := by
  refine ⟨hgl.symm, fun i j b hi hj => ?_, fun g hg => ?_, fun i o ho => ?_⟩
  ·have := hR.inj _ _ b (hin i b hi).2 (hin j b hj).2
   omega
  ·obtain ⟨i, _, hi⟩ := hmem g hg
   exact (hR.new _ g hi).1
  ·have hi : i < U.length := by
    rcases Nat.lt_or_ge i U.length with h1 | h1
    ·exact h1
    ·rw [List.getElem?_eq_none h1] at ho; cases ho
   obtain ⟨o', h2, h3⟩ := hsh.get i ho
   have h4 := hR.own (k + i) o' (by rw [hS i hi, h2])
   have h5 := hob o (List.mem_of_getElem? ho)
   cases o with
   | cells t l =>
    cases o' with
    | cells t' l' =>
     obtain ⟨rfl, rfl⟩ := h3
     obtain ⟨b, us, e1, e2, e3⟩ := h4
     exact ⟨b, us, hto i b hi e1, e2, denL_sh (n := U.length) hto h5 e3⟩
    | row => exact h3.elim
    | ext => exact h3.elim
    | view => exact h3.elim
    | gone => exact h3.elim
   | row => exact h5.elim
   | ext => exact h5.elim
   | view => exact h5.elim
   | gone => exact h5.elim
 have hkeep : OldKeeps w0 G w gs := fun b hb hG => by
  refine ⟨Nat.lt_of_lt_of_le hb hR.size, fun hm => ?_, hR.old b hb hG⟩
  obtain ⟨i, _, hi⟩ := hmem b hm
  exact hG ((hR.new _ b hi).2 hb)
 cases gs with
 | nil => simp at hgl; omega
 | cons g gs =>
  obtain ⟨vs1, vs2, rfl, d1, d2⟩ := avden_append hd
  obtain ⟨u, vs3, rfl, d3, d4⟩ := d2
  obtain ⟨b, hb, rfl⟩ := den_ref d3
  have hbg : b = g := by
   have := hto 0 b hpos (by simpa using hb)
   have : g = b := by injection this
   exact this.symm
  subst hbg
  refine (h r w b gs _ _ hR d1 d4 hmem hU).mono fun e w' ⟨x, hp, he, hU', hg⟩ => ?_
  refine ⟨AV.of (X x), X x, _, r, he, AV.of_den r _, ?_, Env.le.refl r, hK x hp⟩
  have hVl : (V' x).length = U.length := by rw [← hlen' x hp, (hsh' x hp).length]
  have hnot : ∀ j b', r.blk j = some b' → ¬ (k ≤ j ∧ j < k + U.length) → b' ∉ (b :: gs) := fun j b' hj hno hm => by
   obtain ⟨i, hi, hbi⟩ := hmem b' hm
   have := hR.inj _ _ b' hj hbi
   omega
  refine ⟨hg.os.trans hR.os, hg.tape.trans hR.tape, hg.output.trans hR.output, Nat.le_trans hR.size hg.size, fun j hj hjG => ?_, fun j o hj => ?_, hR.inj, fun j b' hb' => ⟨Nat.lt_of_lt_of_le (hR.new j b' hb').1 hg.size, (hR.new j b' hb').2⟩,
   fun j hj => hR.outB j (by rwa [putS_length] at hj), fun j hj => hR.outV j (by rwa [putS_length] at hj), hR.first⟩
  ·obtain ⟨k1, k2, k3⟩ := hkeep j hj hjG
   rw [hg.block j k1 k2]; exact k3
  ·rw [putS_get _ _ _ _ (by rw [hVl]; exact hSlen), hVl] at hj
   by_cases hr : k ≤ j ∧ j < k + U.length
   ·rw [if_pos hr] at hj
    obtain ⟨o', h2, h3⟩ := (hsh' x hp).get' (j - k) hj
    have h4 := hU'.own (j - k) o' h2
    have h5 := hob' x hp o' (List.mem_of_getElem? h2)
    cases o' with
    | cells t l =>
     cases o with
     | cells t' l' =>
      obtain ⟨rfl, rfl⟩ := h3
      obtain ⟨c, us, e1, e2, e3⟩ := h4
      refine ⟨c, us, ?_, e2, sh_denL (n := U.length) hfrom h5 e3⟩
      have := hfrom (j - k) c (by omega) e1
      rwa [show k + (j - k) = j by omega] at this
     | row => exact h3.elim
     | ext => exact h3.elim
     | view => exact h3.elim
     | gone => exact h3.elim
    | row => exact h5.elim
    | ext => exact h5.elim
    | view => exact h5.elim
    | gone => exact h5.elim
   ·rw [if_neg hr] at hj
    refine Ow.holds_block (hR.own j o hj) (fun b' hb' => hg.block b' (hR.new j b' hb').1 (hnot j b' hb' hr)) hg.size fun b' hb' hno => hg.block b' hb' fun hm => ?_
    obtain ⟨i, _, hi⟩ := hmem b' hm
    exact hno _ hi
end Go.Proofs.YtnhdcclpjildjaaGreat
namespace Go.Proofs.YtnhdcclpjildjaaGreat
open Go.RowKit

section
variable {w0 : World} {G : Gs} {S : List Ow} {K : AV → List Ow → Prop}
theorem row_old {w : World} {r : Env} {g : Nat} {gs : List Nat} {k m : Nat} (hR : Rel w0 G S r w) (hgs : ∀ b, b ∈ g :: gs → ∃ i, i < m ∧ r.blk (k + i) = some b) {i n size : Nat} {e : TypeId} {xs : List Value} {u : Value} (hi : S[i]? = some (.row e size n xs)) (hn : i < k ∨ k + m ≤ i) (hu : r.val i = some u) : ∃ A c, u = .slice A n c ∧ SlOld w ⟨g :: gs, []⟩ A xs := by
 obtain ⟨v, f1, f2, f3⟩ := hR.own i _ hi
 rw [hu] at f1; injection f1 with f1; subst f1
 rcases f3.2 with ⟨rfl, h0⟩ | ⟨b, cap, cur, rfl, _, hh, hnc, hcap, hsz, htake⟩
 ·refine ⟨none, 0, by rw [h0], fun j u hj => ?_⟩
  have := f3.1
  rw [h0] at this
  have : xs = [] := List.eq_nil_of_length_eq_zero (by simpa using this)
  subst this
  simp at hj
 ·refine ⟨_, _, rfl, fun j u hj => ⟨b, 0, rfl, heap_lt hh, ?_, ?_⟩⟩
  ·rintro (hm | hm)
   ·obtain ⟨t, ht, hb⟩ := hgs b hm
    have hbi : r.blk i = some b := by rw [← f2]; rfl
    have := hR.inj _ _ b hb hbi
    omega
   ·cases hm
  ·simp only [World.cell?, hh, Nat.zero_add]
   rw [← htake, List.getElem?_take] at hj
   split at hj
   ·simpa using hj
   ·cases hj
theorem call_eval (k n p i1 i2 i3 : Nat) (b : Blk) (vs : List Int) (M : MemP) {x : AV} (hx : x.val = some (varsV vs)) (hS : ∀ i, i < 6 → S[k + i]? = (memS k n p M)[i]?) (hM : M.ok n p) (hb : b.ok) (hv : validB b = true) (hvs : VarsOk vs)
  (h1 : S[i1]? = some (.row 35 1 b.at_.length (b.at_.map (.int .u32)))) (h2 : S[i2]? = some (.row 3 1 b.pages.length (b.pages.map (.int .i64)))) (h3 : S[i3]? = some (.row 45 5 b.ops.length (b.ops.flatMap opC))) (hn : (i1 < k ∨ k + 6 ≤ i1) ∧ (i2 < k ∨ k + 6 ≤ i2) ∧ (i3 < k ∨ k + 6 ≤ i3))
  (hK : K (AV.of (outV (evalBlk b vs M).out)) (putS S k (memS k n p (evalBlk b vs M).mem))) : CallS Tryz.prog w0 G 29 [.p (.agg [.row i1, .row i2, .row i3]), x, .p (.c (.ref k 0))] S K := by
 refine call_objsX (α := Unit) (pre := [.p (.agg [.row i1, .row i2, .row i3]), x]) (suf := []) k (memS 0 n p M) (memS k n p M) (fun _ => memS 0 n p (evalBlk b vs M).mem) (fun _ => memS k n p (evalBlk b vs M).mem) (fun _ => outV (evalBlk b vs M).out) (fun _ => True) (by simp) (memS_sh k n p M) (memS_ob n p M) hS (by kernel_rfl) (fun _ _ => memS_sh k n p _) (fun _ _ => memS_ob n p _) (fun _ _ => rfl)
  (fun r w g gs xs ys hR hd hd2 hgs hU => ?_) (fun _ _ => hK)
 obtain ⟨u, l, rfl, d1, d2⟩ := hd
 obtain ⟨u2, l2, rfl, d3, d4⟩ := d2
 obtain rfl : l2 = [] := d4
 obtain rfl : ys = [] := hd2
 obtain rfl := AV.val_den hx d3
 obtain ⟨us, rfl, hl⟩ := den_agg d1
 simp only [denL, CV.den] at hl
 obtain ⟨u1, l1, rfl, k1, u2, l2, rfl, k2, u3, l3, rfl, k3, rfl⟩ := hl
 obtain ⟨A1, c1, e1, s1⟩ := row_old hR hgs h1 hn.1 k1
 obtain ⟨A2, c2, e2, s2⟩ := row_old hR hgs h2 hn.2.1 k2
 obtain ⟨A3, c3, e3, s3⟩ := row_old hR hgs h3 hn.2.2 k3
 subst e1; subst e2; subst e3
 exact (eval_walk b vs n p M A1 A2 A3 c1 c2 c3 w g gs hU hM hb hv hvs s1 s2 s3).mono fun e w' h => ⟨(), trivial, h⟩
theorem call_lifted (k n p : Nat) (M : MemP) (pc most : Int) (hS : ∀ i, i < 6 → S[k + i]? = (memS k n p M)[i]?) (hM : M.ok n p) (hp : 2 ≤ p ∧ p ≤ 1000) (hpc : word pc)
  (hK : K (.tup [.agg [.row S.length, .row (S.length + 1), .row (S.length + 2)], .c (.v (.bool true))]) (S ++ blkRows (liftM M pc most))) : CallS Tryz.prog w0 G 15 [one (.int .u32 pc), .p (.c (.ref k 0)), one (intV most)] S K := by
 refine call_blkT (liftM M pc most) (.bool true) (by kernel_rfl) (fun r w us hR hd => ?_) hK
 obtain ⟨u1, l1, rfl, d1, d2⟩ := hd
 obtain ⟨u2, l2, rfl, d3, d4⟩ := d2
 obtain ⟨u3, l3, rfl, d5, d6⟩ := d4
 obtain rfl : l3 = [] := d6
 obtain rfl := den_v d1
 obtain rfl := den_v d5
 obtain ⟨g, gs, hg, hU⟩ := hR.objsAt k (memS 0 n p M) (memS k n p M) (by simp) hS (memS_sh k n p M) (memS_ob n p M)
 obtain ⟨b, hb, rfl⟩ := den_ref d3
 rw [hg] at hb; injection hb with hb; subst hb
 exact lifted_walk hU hM hp pc most hpc
end
end Go.Proofs.YtnhdcclpjildjaaGreat
namespace Go.Proofs.YtnhdcclpjildjaaGreat
open Go.RowKit

abbrev sanI : List QI := [⟨16, 1, 0, 0, 5⟩, ⟨32, 1, 2, 0, 3⟩, ⟨50, 0, 0, 0, 0⟩]
abbrev sanW : List Int := [1077936133, 2152202243, 3355443200]
def sanS (j : Nat) : List Int := (sanW.take j).flatMap putL
def sanM : MemP := ((MemP.zero 2).codeTo 1 (sanS 3) 12).protect 1 4
abbrev sanB1 : Blk := ⟨[256, 260], [1], [⟨20, 0, 0, 0, 0⟩, ⟨1, 20, 0, 0, 5⟩, ⟨3, 1, 0, 20, 0⟩, ⟨20, 0, 0, 0, 1⟩, ⟨13, 20, 1, 2, 0⟩, ⟨23, 0, 20, 0, 272⟩, ⟨24, 0, 0, 0, 264⟩]⟩
abbrev sanB2 : Blk := ⟨[256], [1], [⟨20, 0, 0, 0, 0⟩, ⟨1, 20, 0, 0, 5⟩, ⟨3, 1, 0, 20, 0⟩, ⟨24, 0, 0, 0, 260⟩]⟩
abbrev sanB3 : Blk := ⟨[264], [1], [⟨20, 0, 0, 0, 0⟩, ⟨22, 0, 0, 0, 0⟩]⟩
theorem san_lift1 : liftM sanM 256 64 = sanB1 := by kernel_rfl
theorem san_lift2 : liftM sanM 256 1 = sanB2 := by kernel_rfl
theorem san_lift3 : liftM sanM 264 9 = sanB3 := by kernel_rfl
abbrev zeros28 : List Int := [0, 0, 0, 0, 0, 0, 0, 0, 0, 0, 0, 0, 0, 0, 0, 0, 0, 0, 0, 0, 0, 0, 0, 0, 0, 0, 0, 0]
abbrev sanV : List Int := [0, 5, 0, 0, 0, 0, 0, 0, 0, 0, 0, 0, 0, 0, 0, 0, 0, 0, 0, 0, 0, 0, 0, 0, 0, 0, 0, 0]
theorem san_eval1 : (evalBlk sanB1 zeros28 sanM).out = ⟨false, 0, 2, 264, sanV⟩ := by kernel_rfl
theorem san_eval2 : (evalBlk sanB2 zeros28 sanM).out = ⟨false, 0, 1, 260, sanV⟩ := by kernel_rfl
theorem san_eval3 : (evalBlk sanB3 zeros28 sanM).out = ⟨true, 0, 0, 264, zeros28⟩ := by kernel_rfl
theorem san_mem1 : (evalBlk sanB1 zeros28 sanM).mem = sanM := by kernel_rfl
theorem san_mem2 : (evalBlk sanB2 zeros28 sanM).mem = sanM := by kernel_rfl
theorem san_mem3 : (evalBlk sanB3 zeros28 sanM).mem = sanM := by kernel_rfl
theorem zeros_ok : VarsOk zeros28 := ⟨rfl, fun x hx => by
 have : ∀ y ∈ zeros28, y = 0 := by decide
 rw [this x hx]; unfold word; omega⟩
theorem san_ok : (MemP.zero 2).ok 512 2 := mem_zero_ok (by decide)
end Go.Proofs.YtnhdcclpjildjaaGreat
namespace Go.Proofs.YtnhdcclpjildjaaGreat
open Go.RowKit

theorem cpu_grp (us : List Value) (n p : Nat) (M : MemP) : grpOk Gs.nil (cpuU 0 us n p M) = true := by
 show sbnd 7 (cpuU 0 us n p M) = true
 have h : bndL 7 (us.map .v ++ [.ref 1 0]) = true := by
  induction us with
  | nil => rfl
  | cons u us ih => simpa only [List.map_cons, List.cons_append, bndL, CV.bnd] using ih
 simp only [sbnd, Ow.bnd, bndL_vals, bndL, CV.bnd, h]
 rfl
theorem cpu_mem (us : List Value) (n p : Nat) (M : MemP) (T : List Ow) : ∀ i, i < 6 → (cpuU 0 us n p M ++ T)[1 + i]? = (memS 1 n p M)[i]? := fun i hi => by
 rcases (by omega : i = 0 ∨ i = 1 ∨ i = 2 ∨ i = 3 ∨ i = 4 ∨ i = 5) with rfl | rfl | rfl | rfl | rfl | rfl <;> rfl
set_option maxRecDepth 100000 in
set_option maxHeartbeats 8000000 in
theorem sanity14 (w : World) : Calls Tryz.prog 13 #[] w fun e w' => e = .returned (.bool true) ∧ Below w.heap.size w w' := by
 refine calls_satq [] Tryz.func13 Tryz.ntmps13 rfl (by simp) ?_
 refine satq_seqN ?_
 conv => whnf
 refine satq_seqN ?_
 conv => whnf
 refine call_newObjs (xs := [intV ((2 : Nat) : Int)]) (cpuU 0 stZ 512 2 (MemP.zero 2)) (cpuU 0 stZ 512 2 (MemP.zero 2)) rfl (by kernel_rfl) (cpuU_sh 0 stZ 512 2 _) (cpuU_ob stZ 512 2 _) (fun r w hR => cpu_new 2 w (by omega)) ?_
 conv => whnf
 refine satq_seqN ?_
 conv => whnf
 refine satq_seqN ?_
 conv => whnf
 have hz : (MemP.zero 2).ok 512 2 := san_ok
 obtain ⟨M0, hM0⟩ : ∃ M0, M0 = MemP.zero 2 := ⟨_, rfl⟩
 rw [← hM0] at hz ⊢
 refine satq_mid (α := Unit) (fun _ => [(0, one (.bool false)), (1, .p (.c (.ref 0 0))), (3, one (strV (sanS 3)))]) (fun _ => cpuU 0 stZ 512 2 M0) ?_ fun _ => ?_
 ·refine satq_seqN ?_
  conv => whnf
  refine satq_block ?_
  refine satq_loop (α := { j : Nat // j ≤ 3 }) (fun x => [(0, one (.bool false)), (1, .p (.c (.ref 0 0))), (2, .p (.c (.sl 7 0 3 3))), (3, one (strV (sanS x.1))), (4, one (intV (x.1 : Int)))]) (fun _ => cpuU 0 stZ 512 2 M0 ++ [Ow.cells qiT ((sanI.flatMap qiL).map .v)]) (fun x => 3 - x.1)
   ⟨0, by omega⟩ (ent_same rfl (aI rfl (aI rfl (aI rfl (aI rfl (aI rfl trivial))))) (aI sM (aI sM (aI sM (aI sM (aI sM (aI sM (aI sM (aI sM trivial))))))))) fun x => ?_
  obtain ⟨j, hj⟩ := x
  dsimp only
  rcases (by omega : j = 0 ∨ j = 1 ∨ j = 2 ∨ j = 3) with rfl | rfl | rfl | rfl
  ·refine satq_seqN ?_
   conv => whnf
   (repeat ((first | apply k1 | apply k2 | apply k3 | apply k4 | refine k5 (by decide) ?_ | refine k6 (by decide) ?_); conv => whnf))
   refine satq_in (satq_block ?_)
   refine satq_seqN ?_
   conv => whnf
   refine ⟨⟨by omega, by omega⟩, ?_⟩
   conv => whnf
   refine call_con (x := encV (some 1077936133)) rfl (by kernel_rfl) (fun r w' hR => encode_ref ⟨16, 1, 0, 0, 5⟩ w' ⟨by decide, by decide⟩ (by unfold word; decide)) ?_
   conv => whnf
   refine satq_vcN ?_
   conv => whnf
   refine call_con (x := strV (putL 1077936133)) rfl (by kernel_rfl) (fun r w' hR => put_walk 1077936133 w' (by unfold word; decide)) ?_
   conv => whnf
   refine q_cat_str (sanS 0) (putL 1077936133) rfl rfl rfl (by decide) ?_
   conv => whnf
   refine atq_block (atq_on ?_)
   refine satq_vcN ?_
   conv => whnf
   refine ⟨1, by rw [wr64] <;> decide, ?_⟩
   conv => whnf
   exact atq_next ⟨1, by omega⟩ (ent_same rfl (aI rfl (aI rfl (aI rfl (aI rfl (aI rfl trivial))))) (aI sM (aI sM (aI sM (aI sM (aI sM (aI sM (aI sM (aI sM trivial))))))))) (by dsimp only; decide)
  ·refine satq_seqN ?_
   conv => whnf
   (repeat ((first | apply k1 | apply k2 | apply k3 | apply k4 | refine k5 (by decide) ?_ | refine k6 (by decide) ?_); conv => whnf))
   refine satq_in (satq_block ?_)
   refine satq_seqN ?_
   conv => whnf
   refine ⟨⟨by omega, by omega⟩, ?_⟩
   conv => whnf
   refine call_con (x := encV (some 2152202243)) rfl (by kernel_rfl) (fun r w' hR => encode_ref ⟨32, 1, 2, 0, 3⟩ w' ⟨by decide, by decide⟩ (by unfold word; decide)) ?_
   conv => whnf
   refine satq_vcN ?_
   conv => whnf
   refine call_con (x := strV (putL 2152202243)) rfl (by kernel_rfl) (fun r w' hR => put_walk 2152202243 w' (by unfold word; decide)) ?_
   conv => whnf
   refine q_cat_str (sanS 1) (putL 2152202243) rfl rfl rfl (by decide) ?_
   conv => whnf
   refine atq_block (atq_on ?_)
   refine satq_vcN ?_
   conv => whnf
   refine ⟨2, by rw [wr64] <;> decide, ?_⟩
   conv => whnf
   exact atq_next ⟨2, by omega⟩ (ent_same rfl (aI rfl (aI rfl (aI rfl (aI rfl (aI rfl trivial))))) (aI sM (aI sM (aI sM (aI sM (aI sM (aI sM (aI sM (aI sM trivial))))))))) (by dsimp only; decide)
  ·refine satq_seqN ?_
   conv => whnf
   (repeat ((first | apply k1 | apply k2 | apply k3 | apply k4 | refine k5 (by decide) ?_ | refine k6 (by decide) ?_); conv => whnf))
   refine satq_in (satq_block ?_)
   refine satq_seqN ?_
   conv => whnf
   refine ⟨⟨by omega, by omega⟩, ?_⟩
   conv => whnf
   refine call_con (x := encV (some 3355443200)) rfl (by kernel_rfl) (fun r w' hR => encode_ref ⟨50, 0, 0, 0, 0⟩ w' ⟨by decide, by decide⟩ (by unfold word; decide)) ?_
   conv => whnf
   refine satq_vcN ?_
   conv => whnf
   refine call_con (x := strV (putL 3355443200)) rfl (by kernel_rfl) (fun r w' hR => put_walk 3355443200 w' (by unfold word; decide)) ?_
   conv => whnf
   refine q_cat_str (sanS 2) (putL 3355443200) rfl rfl rfl (by decide) ?_
   conv => whnf
   refine atq_block (atq_on ?_)
   refine satq_vcN ?_
   conv => whnf
   refine ⟨3, by rw [wr64] <;> decide, ?_⟩
   conv => whnf
   exact atq_next ⟨3, by omega⟩ (ent_same rfl (aI rfl (aI rfl (aI rfl (aI rfl (aI rfl trivial))))) (aI sM (aI sM (aI sM (aI sM (aI sM (aI sM (aI sM (aI sM trivial))))))))) (by dsimp only; decide)
  ·refine satq_seqN ?_
   conv => whnf
   (repeat ((first | apply k1 | apply k2 | apply k3 | apply k4 | refine k5 (by decide) ?_ | refine k6 (by decide) ?_); conv => whnf))
   exact atq_out (atq_exit (atq_mid () (ent_drop (aI rfl (aI rfl (aI rfl trivial))) (aI sM (aI sM (aI sM (aI sM (aI sM (aI sM (aI sM trivial))))))) rfl (cpu_grp stZ 512 2 M0))))
 obtain ⟨M1, hM1⟩ : ∃ M1, M1 = M0.codeTo 1 (sanS 3) (min (sanS 3).length 256) := ⟨_, rfl⟩
 obtain ⟨M2, hM2⟩ : ∃ M2, M2 = M1.protect 1 4 := ⟨_, rfl⟩
 have hsb : ∀ x ∈ sanS 3, 0 ≤ x ∧ x < 256 := by decide
 have hk1 : M1.ok 512 2 := by rw [hM1]; exact codeTo_ok hz 1 hsb _
 have hk2 : M2.ok 512 2 := by rw [hM2]; exact protect_ok hk1 1 (by decide)
 have hsan : M2 = sanM := by rw [hM2, hM1, hM0]; kernel_rfl
 have hl1 : liftM M2 256 64 = sanB1 := by rw [hsan]; exact san_lift1
 have hl2 : liftM M2 256 1 = sanB2 := by rw [hsan]; exact san_lift2
 have hl3 : liftM M2 264 9 = sanB3 := by rw [hsan]; exact san_lift3
 refine satq_mid (α := Unit) (fun _ => [(0, one (.bool false)), (1, .p (.c (.ref 0 0)))]) (fun _ => cpuU 0 stZ 512 2 M1) ?_ fun _ => ?_
 ·refine satq_vcN ?_
  conv => whnf
  refine call_memW (pre := []) (suf := [one (intV 1), one (strV (sanS 3))]) 1 512 2 M0 M1 (.tuple #[]) (fun i hi => by have := cpu_mem stZ 512 2 M0 [] i hi; rwa [List.append_nil] at this) rfl rfl (by kernel_rfl) (fun w g gs hk hU => by rw [hM1]; exact mem_setCode M0 512 2 1 (sanS 3) w g gs hU hz (by decide) hsb (by decide)) ?_
  conv => whnf
  exact atq_mid () (ent_same rfl (aI rfl (aI rfl trivial)) (aI sM (aI sM (aI sM (aI sM (aI sM (aI sM (aI sM trivial))))))))
 refine satq_mid (α := Unit) (fun _ => [(0, one (.bool false)), (1, .p (.c (.ref 0 0)))]) (fun _ => cpuU 0 stZ 512 2 M2) ?_ fun _ => ?_
 ·refine satq_vcN ?_
  conv => whnf
  refine call_memW (pre := []) (suf := [one (intV 1), one (intV 4)]) 1 512 2 M1 M2 (.tuple #[]) (fun i hi => by have := cpu_mem stZ 512 2 M1 [] i hi; rwa [List.append_nil] at this) rfl rfl (by kernel_rfl) (fun w g gs hk hU => by rw [hM2]; exact mem_protect M1 512 2 1 4 w g gs hU hk1 (by decide) (by decide) (by decide)) ?_
  conv => whnf
  exact atq_mid () (ent_same rfl (aI rfl (aI rfl trivial)) (aI sM (aI sM (aI sM (aI sM (aI sM (aI sM (aI sM trivial))))))))
 refine satq_mid (α := Unit) (fun _ => [(0, one (.bool false)), (1, .p (.c (.ref 0 0)))]) (fun _ => cpuU 0 (u32V 256 :: stZ.tail) 512 2 M2) ?_ fun _ => ?_
 ·refine satq_vcN ?_
  conv => whnf
  exact atq_mid () (ent_same rfl (aI rfl (aI rfl trivial)) (aI sM (aI sM (aI sM (aI sM (aI sM (aI sM (aI sM trivial))))))))
 refine satq_seqN ?_
 conv => whnf
 refine call_lifted 1 512 2 M2 256 64 (fun i hi => by have := cpu_mem (u32V 256 :: stZ.tail) 512 2 M2 [] i hi; rwa [List.append_nil] at this) hk2 (by decide) (by unfold word; decide) ?_
 rw [hl1]
 conv => whnf
 refine satq_seqN ?_
 conv => whnf
 refine call_lifted 1 512 2 M2 256 1 (cpu_mem (u32V 256 :: stZ.tail) 512 2 M2 _) hk2 (by decide) (by unfold word; decide) ?_
 rw [hl2]
 conv => whnf
 refine satq_seqN ?_
 conv => whnf
 refine call_lifted 1 512 2 M2 264 9 (cpu_mem (u32V 256 :: stZ.tail) 512 2 M2 _) hk2 (by decide) (by unfold word; decide) ?_
 rw [hl3]
 conv => whnf
 refine satq_seqN ?_
 conv => whnf
 (repeat ((first | apply k1 | apply k2 | apply k3 | apply k4 | refine k5 (by decide) ?_ | refine k6 (by decide) ?_); conv => whnf))
 have hb1 : sanB1.ok := hl1 ▸ (liftM_ok hk2 256 64).1
 have he1 : (evalBlk sanB1 zeros28 M2).out = ⟨false, 0, 2, 264, sanV⟩ := by rw [hsan]; exact san_eval1
 have hm1 : (evalBlk sanB1 zeros28 M2).mem = M2 := by rw [hsan]; exact san_mem1
 have hb2 : sanB2.ok := hl2 ▸ (liftM_ok hk2 256 1).1
 have he2 : (evalBlk sanB2 zeros28 M2).out = ⟨false, 0, 1, 260, sanV⟩ := by rw [hsan]; exact san_eval2
 have hm2 : (evalBlk sanB2 zeros28 M2).mem = M2 := by rw [hsan]; exact san_mem2
 have hb3 : sanB3.ok := hl3 ▸ (liftM_ok hk2 264 9).1
 have he3 : (evalBlk sanB3 zeros28 M2).out = ⟨true, 0, 0, 264, zeros28⟩ := by rw [hsan]; exact san_eval3
 have hm3 : (evalBlk sanB3 zeros28 M2).mem = M2 := by rw [hsan]; exact san_mem3
 clear hl1 hl2 hl3 hsan hM2 hM1 hM0 hsb hk1 hz
 refine satq_mid (α := Unit) (fun _ => [(0, one (.bool false)), (1, .p (.c (.ref 0 0))), (7, .p (.c (.ref 10 0))), (9, .p (.c (.ref 14 0))), (11, .p (.c (.ref 18 0))), (13, .p (.c (.ref 19 0)))]) (fun _ => cpuU 0 (u32V 256 :: stZ.tail) 512 2 M2 ++ blkRows sanB1 ++ [Ow.cells blT [.row 7, .row 8, .row 9]] ++ blkRows sanB2 ++ [Ow.cells blT [.row 11, .row 12, .row 13]] ++ blkRows sanB3 ++ [Ow.cells blT [.row 15, .row 16, .row 17]] ++ [Ow.cells 55 ((outL ⟨false, 0, 2, 264, sanV⟩).map .v)]) ?_ fun _ => ?_
 ·refine satq_vcN ?_
  conv => whnf
  refine sat_anyG (.q 1 (.q 2 (.q 3 (.q 4 (.alt 0 (.alt 5 (.alt 6 (.alt 7 (.alt 8 .done .no) .no) (.alt 7 (.alt 6 (.alt 8 .done .no) .no) .no)) (.alt 7 (.alt 5 (.alt 6 (.alt 8 .done .no) .no) .no) .no)) (.alt 5 (.alt 0 (.alt 6 (.alt 7 (.alt 8 .done .no) .no) (.alt 7 (.alt 6 (.alt 8 .done .no) .no) .no)) (.alt 7 (.alt 0 (.alt 6 (.alt 8 .done .no) .no) .no) .no)) (.alt 7 (.alt 0 (.alt 5 (.alt 6 (.alt 8 .done .no) .no) .no) (.alt 5 (.alt 0 (.alt 6 (.alt 8 .done .no) .no) .no) .no)) .no))))))) mixed (by kernel_rfl) (by kernel_rfl) ?_
  conv => whnf
  repeat' (first
   | exact atq_mid () (ent_same rfl (aI rfl (aI rfl (aI rfl (aI rfl (aI rfl (aI rfl trivial)))))) (aI sM (aI sM (aI sM (aI sM (aI sM (aI sM (aI sM (aI ((aI rfl (aI rfl (aI rfl rfl)))) (aI ((aI rfl (aI rfl (aI rfl rfl)))) (aI ((aI rfl (aI rfl (aI rfl rfl)))) (aI sM (aI ((aI rfl (aI rfl (aI rfl rfl)))) (aI ((aI rfl (aI rfl (aI rfl rfl)))) (aI ((aI rfl (aI rfl (aI rfl rfl)))) (aI sM (aI ((aI rfl (aI rfl (aI rfl rfl)))) (aI ((aI rfl (aI rfl (aI rfl rfl)))) (aI ((aI rfl (aI rfl (aI rfl rfl)))) (aI sM (aI sM trivial)))))))))))))))))))))
   | (refine call_eval 1 512 2 7 8 9 sanB1 zeros28 M2 rfl (fun i hi => by rcases (by omega : i = 0 ∨ i = 1 ∨ i = 2 ∨ i = 3 ∨ i = 4 ∨ i = 5) with rfl | rfl | rfl | rfl | rfl | rfl <;> rfl) hk2 hb1 rfl zeros_ok rfl rfl rfl ⟨by decide, by decide, by decide⟩ ?_; rw [he1, hm1]; conv => whnf)
   | (refine ⟨?_, trivial⟩; conv => whnf)
   | (refine ⟨?_, ?_, trivial⟩ <;> conv => whnf)
   | (refine ⟨?_, ?_, ?_, trivial⟩ <;> conv => whnf))
 refine satq_mid (α := Unit) (fun _ => [(0, one (.bool false)), (1, .p (.c (.ref 0 0))), (7, .p (.c (.ref 10 0))), (9, .p (.c (.ref 14 0))), (11, .p (.c (.ref 18 0))), (13, .p (.c (.ref 19 0))), (14, .p (.c (.ref 20 0)))]) (fun _ => cpuU 0 (u32V 256 :: stZ.tail) 512 2 M2 ++ blkRows sanB1 ++ [Ow.cells blT [.row 7, .row 8, .row 9]] ++ blkRows sanB2 ++ [Ow.cells blT [.row 11, .row 12, .row 13]] ++ blkRows sanB3 ++ [Ow.cells blT [.row 15, .row 16, .row 17]] ++ [Ow.cells 55 ((outL ⟨false, 0, 2, 264, sanV⟩).map .v)] ++ [Ow.cells 55 ((outL ⟨false, 0, 1, 260, sanV⟩).map .v)]) ?_ fun _ => ?_
 ·refine satq_vcN ?_
  conv => whnf
  refine sat_anyG (.q 1 (.q 2 (.q 3 (.q 4 (.alt 0 (.alt 5 (.alt 6 (.alt 7 (.alt 8 .done .no) .no) (.alt 7 (.alt 6 (.alt 8 .done .no) .no) .no)) (.alt 7 (.alt 5 (.alt 6 (.alt 8 .done .no) .no) .no) .no)) (.alt 5 (.alt 0 (.alt 6 (.alt 7 (.alt 8 .done .no) .no) (.alt 7 (.alt 6 (.alt 8 .done .no) .no) .no)) (.alt 7 (.alt 0 (.alt 6 (.alt 8 .done .no) .no) .no) .no)) (.alt 7 (.alt 0 (.alt 5 (.alt 6 (.alt 8 .done .no) .no) .no) (.alt 5 (.alt 0 (.alt 6 (.alt 8 .done .no) .no) .no) .no)) .no))))))) mixed (by kernel_rfl) (by kernel_rfl) ?_
  conv => whnf
  repeat' (first
   | exact atq_mid () (ent_same rfl (aI rfl (aI rfl (aI rfl (aI rfl (aI rfl (aI rfl (aI rfl trivial))))))) (aI sM (aI sM (aI sM (aI sM (aI sM (aI sM (aI sM (aI ((aI rfl (aI rfl (aI rfl rfl)))) (aI ((aI rfl (aI rfl (aI rfl rfl)))) (aI ((aI rfl (aI rfl (aI rfl rfl)))) (aI sM (aI ((aI rfl (aI rfl (aI rfl rfl)))) (aI ((aI rfl (aI rfl (aI rfl rfl)))) (aI ((aI rfl (aI rfl (aI rfl rfl)))) (aI sM (aI ((aI rfl (aI rfl (aI rfl rfl)))) (aI ((aI rfl (aI rfl (aI rfl rfl)))) (aI ((aI rfl (aI rfl (aI rfl rfl)))) (aI sM (aI sM (aI sM trivial))))))))))))))))))))))
   | (refine call_eval 1 512 2 11 12 13 sanB2 zeros28 M2 rfl (fun i hi => by rcases (by omega : i = 0 ∨ i = 1 ∨ i = 2 ∨ i = 3 ∨ i = 4 ∨ i = 5) with rfl | rfl | rfl | rfl | rfl | rfl <;> rfl) hk2 hb2 rfl zeros_ok rfl rfl rfl ⟨by decide, by decide, by decide⟩ ?_; rw [he2, hm2]; conv => whnf)
   | (refine ⟨?_, trivial⟩; conv => whnf)
   | (refine ⟨?_, ?_, trivial⟩ <;> conv => whnf)
   | (refine ⟨?_, ?_, ?_, trivial⟩ <;> conv => whnf))
 refine satq_mid (α := Unit) (fun _ => [(0, one (.bool false)), (1, .p (.c (.ref 0 0))), (7, .p (.c (.ref 10 0))), (9, .p (.c (.ref 14 0))), (11, .p (.c (.ref 18 0))), (13, .p (.c (.ref 19 0))), (14, .p (.c (.ref 20 0))), (15, .p (.c (.ref 21 0)))]) (fun _ => cpuU 0 (u32V 256 :: stZ.tail) 512 2 M2 ++ blkRows sanB1 ++ [Ow.cells blT [.row 7, .row 8, .row 9]] ++ blkRows sanB2 ++ [Ow.cells blT [.row 11, .row 12, .row 13]] ++ blkRows sanB3 ++ [Ow.cells blT [.row 15, .row 16, .row 17]] ++ [Ow.cells 55 ((outL ⟨false, 0, 2, 264, sanV⟩).map .v)] ++ [Ow.cells 55 ((outL ⟨false, 0, 1, 260, sanV⟩).map .v)] ++ [Ow.cells 55 ((outL ⟨true, 0, 0, 264, zeros28⟩).map .v)]) ?_ fun _ => ?_
 ·refine satq_vcN ?_
  conv => whnf
  refine sat_anyG (.q 1 (.q 2 (.q 3 (.q 4 (.alt 0 (.alt 5 (.alt 6 (.alt 7 (.alt 8 .done .no) .no) (.alt 7 (.alt 6 (.alt 8 .done .no) .no) .no)) (.alt 7 (.alt 5 (.alt 6 (.alt 8 .done .no) .no) .no) .no)) (.alt 5 (.alt 0 (.alt 6 (.alt 7 (.alt 8 .done .no) .no) (.alt 7 (.alt 6 (.alt 8 .done .no) .no) .no)) (.alt 7 (.alt 0 (.alt 6 (.alt 8 .done .no) .no) .no) .no)) (.alt 7 (.alt 0 (.alt 5 (.alt 6 (.alt 8 .done .no) .no) .no) (.alt 5 (.alt 0 (.alt 6 (.alt 8 .done .no) .no) .no) .no)) .no))))))) mixed (by kernel_rfl) (by kernel_rfl) ?_
  conv => whnf
  repeat' (first
   | exact atq_mid () (ent_same rfl (aI rfl (aI rfl (aI rfl (aI rfl (aI rfl (aI rfl (aI rfl (aI rfl trivial)))))))) (aI sM (aI sM (aI sM (aI sM (aI sM (aI sM (aI sM (aI ((aI rfl (aI rfl (aI rfl rfl)))) (aI ((aI rfl (aI rfl (aI rfl rfl)))) (aI ((aI rfl (aI rfl (aI rfl rfl)))) (aI sM (aI ((aI rfl (aI rfl (aI rfl rfl)))) (aI ((aI rfl (aI rfl (aI rfl rfl)))) (aI ((aI rfl (aI rfl (aI rfl rfl)))) (aI sM (aI ((aI rfl (aI rfl (aI rfl rfl)))) (aI ((aI rfl (aI rfl (aI rfl rfl)))) (aI ((aI rfl (aI rfl (aI rfl rfl)))) (aI sM (aI sM (aI sM (aI sM trivial)))))))))))))))))))))))
   | (refine call_eval 1 512 2 15 16 17 sanB3 zeros28 M2 rfl (fun i hi => by rcases (by omega : i = 0 ∨ i = 1 ∨ i = 2 ∨ i = 3 ∨ i = 4 ∨ i = 5) with rfl | rfl | rfl | rfl | rfl | rfl <;> rfl) hk2 hb3 rfl zeros_ok rfl rfl rfl ⟨by decide, by decide, by decide⟩ ?_; rw [he3, hm3]; conv => whnf)
   | (refine ⟨?_, trivial⟩; conv => whnf)
   | (refine ⟨?_, ?_, trivial⟩ <;> conv => whnf)
   | (refine ⟨?_, ?_, ?_, trivial⟩ <;> conv => whnf))
 refine satq_vcN ?_
 conv => whnf
 (repeat ((first | apply k1 | apply k2 | apply k3 | apply k4 | refine k5 (by decide) ?_ | refine k6 (by decide) ?_); conv => whnf))
 refine ⟨by decide, ?_⟩
 conv => whnf
 (repeat ((first | apply k1 | apply k2 | apply k3 | apply k4 | refine k5 (by decide) ?_ | refine k6 (by decide) ?_); conv => whnf))
 refine atq_ret ?_
 conv => whnf
 exact fin_val rfl fun w2 hB => ⟨rfl, hB⟩
end Go.Proofs.YtnhdcclpjildjaaGreat
namespace Go.Proofs.YtnhdcclpjildjaaGreat
open Go.RowKit

theorem ex_gen {p : Int → Prop} {a : Int} (h : ∀ m, a = m → p m) : ∃ m, a = m ∧ p m := ⟨a, rfl, h a rfl⟩
end Go.Proofs.YtnhdcclpjildjaaGreat
namespace Go.Proofs.YtnhdcclpjildjaaGreat
open Go.RowKit

def ProgAt (w : World) (A : Option Addr) (n : Nat) : Prop := ∀ j, j < n → ∃ b off n0 n1 n2 n3 n4, A = some ⟨b, off, none⟩ ∧ CellsAt w Gs.nil b (off + j * 5) [intV n0, intV n1, intV n2, intV n3, intV n4]
theorem ProgAt.later {w w' : World} {A : Option Addr} {n : Nat} (h : ProgAt w A n) (hB : Below w.heap.size w w') : ProgAt w' A n := fun j hj => by
 obtain ⟨b, off, n0, n1, n2, n3, n4, e, h1, h2, h3⟩ := h j hj
 exact ⟨b, off, n0, n1, n2, n3, n4, e, Nat.lt_of_lt_of_le h1 hB.size, by simp, fun i u hi => by have := h3 i u hi; simp only [World.cell?] at this ⊢; rw [hB.block b h1]; exact this⟩
end Go.Proofs.YtnhdcclpjildjaaGreat
