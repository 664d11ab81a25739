/- Pointers held against nil; arrays behind plain pointers; a block taken as one's own; calls that hand. -/
import Derived.Test.YtnhdcclpjildjaaGreatC11
namespace Go.Proofs.YtnhdcclpjildjaaGreat
open Go.RowKit

theorem calls_satq_rel {P : Program} {N : Nat} {c : Code} {fn : Func} {R : Ending → World → Prop} {fid : FuncId} {w : World} {G : Gs} {S0 : List Ow} {r0 : Env} (avs : List AV) (args : List Value) (hf : P.funcs[fid]? = some fn) (hN : fn.ntmps = N) (hb : fn.body = some c) (hle : args.length ≤ N) (hR : Rel w G S0 r0 w) (hargs : avdenL r0 avs args)
  (h : SatQ P w G ⟨N, []⟩ c (argFr avs 0) S0 (bodyPostM Fence.wide 10 P fn R)) : Calls P fid args.toArray w R := by
 refine callsIn_wide.1 (callsIn_of_wp_marks (n := 10) hf hb trivial (h.out _ w ⟨r0, hR, fun i => ?_, by simp; omega, rfl⟩))
 refine argFr_get (r := r0) avs args 0 hargs (fun j u hj => ?_) i
 rw [Nat.zero_add, Array.getD_eq_getD_getElem?, Array.getElem?_append_left (by simp; rcases Nat.lt_or_ge j args.length with h1 | h1; exact h1; rw [List.getElem?_eq_none h1] at hj; cases hj)]
 have : args.toArray[j]? = some u := by simpa using hj
 rw [this]; rfl
theorem satq_loopX {P : Program} {w0 : World} {G : Gs} {N : Nd} {c : Code} {f : Fr} {S : List Ow} {Q : Exit → Act → World → Prop} {α : Type} (T : α → Fr) (J : α → World → Prop) (m : α → Nat) (x0 : α) (hf : FLe (plF f) (T x0)) (hJ : ∀ r w, Rel w0 G S r w → J x0 w) (hround : ∀ x w, J x w → SatQ P w Gs.nil N c (T x) [] (RoundW N T J m (m x) Q)) : SatQ P w0 G N (.loop c) f S Q :=
 satq_loopW T J m x0 (fun r w hR => ⟨fun _a hf' => hf.den (plF_den hf'), hJ r w hR⟩) hround
section
variable {P : Program} {w0 : World} {G : Gs} {N : Nd} {S : List Ow} {f : Fr} {o : Oper}
theorem equal_nils_at {t e : TypeId} (ht : P.underlying t = some (.pointer e)) (d : Nat) (w : World) : (Op.equalIn (d + 1) t (.pointer none) (.pointer none)).run P w = .ok true w := by
 simp [Op.equalIn, run_underlying ht]
theorem equal_nils {t e : TypeId} (ht : P.underlying t = some (.pointer e)) (_ : Unit) (w : World) : (Op.equal t (.pointer none) (.pointer none)).run P w = .ok true w := equal_nils_at ht 9999 w
theorem q_nil_v {K : AV → Prop} {t t' e : TypeId} {x y : Operand} (p : Option Addr) (hop : o.op = .binOp .eql t x y t') (ht : P.underlying t = some (.pointer e)) (hx : f.ev x = one (.pointer p)) (hy : f.ev y = one (.pointer none)) (hk : K (one (.bool p.isNone))) : QRun P w0 G S f o K := by
 refine ⟨_, hk, fun r a hf => ?_⟩
 have h1 := hf.ev x
 have h2 := hf.ev y
 rw [hx] at h1; rw [hy] at h2
 refine ⟨_, den_one _ _, fun w hR => ?_⟩
 cases p with
 | none =>
  have he := equal_nils (P := P) ht () w
  simp [execOp, hop, den_v h1, den_v h2, eqGuard, binOp, he]
 | some p =>
  have he := equal_nil (P := P) ht p () w
  simp [execOp, hop, den_v h1, den_v h2, eqGuard, binOp, he]
theorem q_index_ptr {K : AV → Prop} {t e : TypeId} {x ix : Operand} {q : IntKind} {i : TypeInfo} (b off n size : Nat) (k : Int) (hop : o.op = .indexAddr t x ix) (ht : P.underlying t = some (.array n e)) (hi : P.info? e = some i) (hsz : i.size = size) (hx : f.ev x = one (.pointer (some ⟨b, off, none⟩))) (hix : f.ev ix = one (.int q k)) (h0 : 0 ≤ k) (h1 : k < (n : Int)) (hk : K (one (.pointer (some ⟨b, off + k.toNat * size, none⟩)))) : QRun P w0 G S f o K := by
 refine ⟨_, hk, fun r a hf => ?_⟩
 have h2 := hf.ev x
 have h3 := hf.ev ix
 rw [hx] at h2; rw [hix] at h3
 refine ⟨_, den_one _ _, fun w hR => ?_⟩
 have := run_indexAt_array ht hi (b := b) (off := off) (q := q) h0 h1 w
 simp [execOp, hop, den_v h2, den_v h3, this, hsz]
theorem satq_jump_own {Q : Exit → Act → World → Prop} {id : Nat} {ops : Array Oper} (k : Nat) {o : Oper} (hk : ops.toList.drop k = o :: ops.toList.drop (k + 1)) (hg : o.guard = none) (hdst : dstOk N.n o.dst = true)
  (h : guardedN P w0 G N ops (ops.toList.take k) f S fun f1 S1 => jmpK P w0 G o f1 S1 fun u w' => ∃ (g : Nat) (t : TypeId) (us : List Value), u = .pointer (some ⟨g, 0, none⟩) ∧ w'.heap[g]? = some (.cells us.toArray t (0, 0)) ∧ guardedN P w' ⟨[g], []⟩ N ops (ops.toList.drop (k + 1)) ((plF f1).put o.dst (.p (.c (.ref 0 0)))) [.cells t (us.map .v)] fun f2 S2 => AtQ w' ⟨[g], []⟩ N .normal f2 S2 Q) : SatQ P w0 G N (.region id ops false) f S Q :=
 ⟨fun a w hgd => wpIn_region_list (wpListIn_split none 10 k (guardedN_sound (Q := fun a w => ∃ f1 S1, (jmpK P w0 G o f1 S1 fun u w' => ∃ (g : Nat) (t : TypeId) (us : List Value), u = .pointer (some ⟨g, 0, none⟩) ∧ w'.heap[g]? = some (.cells us.toArray t (0, 0)) ∧ guardedN P w' ⟨[g], []⟩ N ops (ops.toList.drop (k + 1)) ((plF f1).put o.dst (.p (.c (.ref 0 0)))) [.cells t (us.map .v)] fun f2 S2 => AtQ w' ⟨[g], []⟩ N .normal f2 S2 Q) ∧ Good w0 G N f1 S1 a w) _ f S _ h (fun f' S' a' w' hk' hg' => ⟨f', S', hk', hg'⟩) a w hgd) (by
  rintro a w ⟨f1, S1, hj, r, hR, hf, hN, hd⟩
  rw [hk]
  unfold wpListIn
  rw [if_pos (wanted_none hg _)]
  refine se_wpIn none 10 (next := fun a w => wpListIn (fenceR none) 10 P ops Q (ops.toList.drop (k + 1)) a w) (jmpK_sound hj hR hf fun u w' hq => ?_) (fun a w h => h)
  obtain ⟨g, t, us, hu, hh, hq⟩ := hq
  exact seL_wpIn none 10 (guardedN_sound _ _ _ _ hq (fun f' S' a' w' hk' hg' => hk'.out a' w' hg') _ _ ⟨envOne g, rel_own1 w' hh, (plF_den hf).put (by rw [hu]; exact den_mk_ref rfl) (by rw [hN]; exact hdst), (put_size a _ _).trans hN, (put_defers a _ _).trans hd⟩)))⟩
end
end Go.Proofs.YtnhdcclpjildjaaGreat
namespace Go.Proofs.YtnhdcclpjildjaaGreat
open Go.RowKit

section
variable {P : Program} {w0 : World} {G : Gs} {N : Nd} {S : List Ow} {f : Fr} {o : Oper}
theorem q_makeFunc2 {K : AV → Prop} {fid : FuncId} {x y : Operand} {vx vy : Value} (hop : o.op = .makeFunc (.func fid) #[] #[x, y]) (hx : f.ev x = one vx) (hy : f.ev y = one vy) (hk : K (one (.func (.func fid) #[] #[vx, vy]))) : QRun P w0 G S f o K := by
 refine ⟨_, hk, fun r a hf => ?_⟩
 have h1 := hf.ev x
 have h2 := hf.ev y
 rw [hx] at h1; rw [hy] at h2
 refine ⟨_, den_one _ _, fun w hR => ?_⟩
 simp [execOp, hop, den_v h1, den_v h2, Instr.makeFunc]
theorem extract_bytes (l : List Int) : ((bytesA l).extract 0 l.length).data.toList = l.map fun n => UInt8.ofNat n.toNat := by
 have h : (bytesA l).extract 0 l.length = bytesA l := by
  have := bytesA_size l
  rw [← this]
  exact ByteArray.extract_zero_size
 rw [h, bytesA_list]
theorem run_firstBytes (P : Program) (w : World) (l : List Int) (hl : ∀ x ∈ l, 0 ≤ x ∧ x < 256) : (Builtin.firstCells 1 l.length (strV l)).run P w = .ok (l.map (Value.int .u8)).toArray w := by
 have h : ((bytesA l).extract 0 l.length).data.map (fun b => Value.int .u8 b.toNat) = (l.map (Value.int .u8)).toArray := by
  apply Array.ext'
  rw [Array.toList_map, extract_bytes, List.map_map]
  refine List.map_congr_left fun x hx => ?_
  have := hl x hx
  have h2 : (UInt8.ofNat x.toNat).toNat = x.toNat := by simp; omega
  show Value.int .u8 (((UInt8.ofNat x.toNat).toNat : Nat) : Int) = Value.int .u8 x
  rw [h2]
  congr 1
  omega
 show (pure (((bytesA l).extract 0 l.length).data.map fun b => Value.int .u8 b.toNat) : Sem (Array Value)).run P w = _
 rw [h]
 exact Sem.run_pure _ _ _
theorem op_copy_str {K : Fr → List Ow → Prop} {t t2 e ti : TypeId} {inf : TypeInfo} {d s : Operand} {li : List CV} (l : List Int) (i n c : Nat) (hop : o.op = .call ⟨.builtin .copy, #[d, s], #[t, t2]⟩) (ht : P.underlying t = some (.slice e)) (hif : P.info? e = some inf) (hsz : inf.size = 1)
  (hd : f.ev d = .p (.c (.sl i 0 n c))) (hs : f.ev s = one (strV l)) (hi : S[i]? = some (.cells ti li)) (hl : ∀ x ∈ l, 0 ≤ x ∧ x < 256) (hmn : l.length ≤ n) (hle : l.length ≤ li.length) (hdst : dstOk N.n o.dst = true)
  (hk : K (f.put o.dst (one (.int .i64 (l.length : Int)))) (S.set i (.cells ti (setAll li 0 ((l.map (Value.int .u8)).map .v))))) : OpS P w0 G N o f S K := by
 refine ⟨fun r a w hR hf hN hd' next Q hK => ?_⟩
 have h1 := hf.ev d
 have h2 := hf.ev s
 rw [hd] at h1; rw [hs] at h2
 obtain ⟨b, hb, hu⟩ := den_sl h1
 obtain ⟨b', vs, e1, e2, e3⟩ := hR.own i _ hi
 rw [hb] at e1; injection e1 with e1; subst e1
 have hfirst := run_firstBytes P w l hl
 have hll := denL_length e3
 obtain ⟨w', hr, hg, hbl⟩ := run_storeCells (P := P) (l.map (Value.int .u8)) (i := 0) (off := 0) e2 (fun u hu => by obtain ⟨x, _, rfl⟩ := List.mem_map.1 hu; exact ⟨fun x h => (by cases h), fun x h => (by cases h)⟩) (by rw [List.length_map]; omega)
 have hmin : Nat.min l.length n = l.length := Nat.min_eq_left hmn
 have hmin' : min l.length n = l.length := Nat.min_eq_left hmn
 have hlen : (Builtin.lenOf (strV l)).run P w = .ok l.length w := by
  show (pure (bytesA l).size : Sem Nat).run P w = _
  rw [bytesA_size]; exact Sem.run_pure _ _ _
 have hex : (execOp a.eval o).run P w = .ok (.value (.int .i64 (l.length : Int))) w' := by
  simp [execOp, hop, resolve, invoke, builtin, hu, den_v h2, Builtin.copy_, run_underlying ht, hlen, run_sizeOf P e w hif, hsz, hmin, hfirst, hr, goInt]
 refine wp_of_value hex (hK _ _ _ _ hk ?_)
 refine good_value hR hf hN hd' hdst (den_one _ _) (hR.setBlock hb hg ⟨b, _, hb, hbl, ?_⟩ (hR.lt_of_blk hb)) (Env.le.refl r)
 exact denL_setAll _ (denL_vals _) e3
end
end Go.Proofs.YtnhdcclpjildjaaGreat
namespace Go.Proofs.YtnhdcclpjildjaaGreat
open Go.RowKit

structure KillS (P : Program) (w0 : World) (G : Gs) (fid : FuncId) (args : List AV) (f : Fr) (S : List Ow) (K : AV → Fr → List Ow → Prop) : Prop where
 ok : fnOk P fid = true
 out : ∀ r w us, Rel w0 G S r w → avdenL r args us → Calls P fid us.toArray w fun e w' => ∃ u x f2 S2 r2, e = .returned u ∧ Rel w0 G S2 r2 w' ∧ (∀ a, FDen r f a → FDen r2 f2 a) ∧ x.den r2 u ∧ K x f2 S2
def killK (P : Program) (w0 : World) (G : Gs) (o : Oper) (f : Fr) (S : List Ow) (K : AV → Fr → List Ow → Prop) : Prop :=
 match o.op with
 | .call ⟨.value fn, args, _⟩ => (match f.ev fn with
  | .p (.c (.clo (.func fid) [])) => evL f args.toList fun vs => KillS P w0 G fid vs f S K
  | _ => False)
 | _ => False
section
variable {P : Program} {w0 : World} {G : Gs} {N : Nd} {c d : Code} {f : Fr} {S : List Ow} {Q : Exit → Act → World → Prop}
theorem killK_sound {o : Oper} {K : AV → Fr → List Ow → Prop} (h : killK P w0 G o f S K) {r : Env} {w : World} (hR : Rel w0 G S r w) {a : Act} (hf : FDen r f a) {next : Act → World → Prop} (hK : ∀ u x f2 S2 r2 w', Rel w0 G S2 r2 w' → FDen r2 f2 a → x.den r2 u → K x f2 S2 → next (a.put o.dst u) w') : Oper.se P o a w next := by
 unfold killK at h
 split at h
 ·rename_i fn args tys hop
  have hfn := hf.ev fn
  split at h
  ·rename_i fid he
   rw [he] at hfn
   obtain ⟨us, hu, hcap⟩ := den_clo hfn
   simp only [denL] at hcap
   subst hcap
   rw [evL_iff] at h
   obtain ⟨hok, hc⟩ := h
   have hrun : (execOp a.eval o).run P w = .ok (.enter fid (args.map a.eval)) w := by
    simp [execOp, hop, resolve, Deferred.ofValue, hu, invoke, run_callFunc hok]
   refine wp_of_enter hrun ?_
   have := hc r w (args.toList.map a.eval) hR (avdenL_ev hf _)
   rw [show (args.toList.map a.eval).toArray = args.map a.eval by apply Array.ext'; simp] at this
   exact Calls.mono this fun e w' ⟨u, x, f2, S2, r2, he, h1, h2, h3, hk⟩ => ⟨u, he, hK u x f2 S2 r2 w' h1 (h2 a hf) h3 hk⟩
  ·exact h.elim
 ·exact h.elim
theorem satq_kill {id : Nat} {ops : Array Oper} (k : Nat) {o : Oper} (hk : ops.toList.drop k = o :: ops.toList.drop (k + 1)) (hg : o.guard = none) (hdst : dstOk N.n o.dst = true)
  (h : guardedN P w0 G N ops (ops.toList.take k) f S fun f1 S1 => killK P w0 G o f1 S1 fun x f2 S2 => guardedN P w0 G N ops (ops.toList.drop (k + 1)) (f2.put o.dst x) S2 fun f3 S3 => AtQ w0 G N .normal f3 S3 Q) : SatQ P w0 G N (.region id ops false) f S Q :=
 ⟨fun a w hgd => wpIn_region_list (wpListIn_split none 10 k (guardedN_sound (Q := fun a w => ∃ f1 S1, (killK P w0 G o f1 S1 fun x f2 S2 => guardedN P w0 G N ops (ops.toList.drop (k + 1)) (f2.put o.dst x) S2 fun f3 S3 => AtQ w0 G N .normal f3 S3 Q) ∧ Good w0 G N f1 S1 a w) _ f S _ h (fun f' S' a' w' hk' hg' => ⟨f', S', hk', hg'⟩) a w hgd) (by
  rintro a w ⟨f1, S1, hj, r, hR, hf, hN, hd⟩
  rw [hk]
  unfold wpListIn
  rw [if_pos (wanted_none hg _)]
  refine se_wpIn none 10 (next := fun a w => wpListIn (fenceR none) 10 P ops Q (ops.toList.drop (k + 1)) a w) (killK_sound hj hR hf fun u x f2 S2 r2 w' h1 h2 h3 hq => ?_) (fun a w h => h)
  exact seL_wpIn none 10 (guardedN_sound _ _ _ _ hq (fun f' S' a' w' hk' hg' => hk'.out a' w' hg') _ _ ⟨r2, h1, h2.put h3 (by rw [hN]; exact hdst), (put_size a _ _).trans hN, (put_defers a _ _).trans hd⟩)))⟩
end
theorem kill_row {P : Program} {w0 : World} {G : Gs} {f : Fr} {S : List Ow} {K : AV → Fr → List Ow → Prop} {fid : FuncId} {e : TypeId} {size n n' : Nat} {xs xs' : List Value} (i : Nat) (hi : S[i]? = some (.row e size n xs)) (hG : G.fix.length ≤ i) (hok : fnOk P fid = true)
  (h : ∀ w v, w.ownsRow 0 e size v n xs → Calls P fid #[v] w fun en w' => ∃ v', en = .returned v' ∧ w'.ownsRow 0 e size v' n' xs' ∧ w.grownBy w' v.ownBlock ∧ v'.ownBlock = v.ownBlock)
  (hK : forceL ((killS i S).set i (.row e size n' xs')) fun S2 => fillF i f fun f2 => K (.p (.c (.row i))) f2 S2) : KillS P w0 G fid [.p (.c (.row i))] f S K := by
 rw [forceL_iff, fillF_iff] at hK
 refine ⟨hok, fun r w us hR hd => ?_⟩
 obtain ⟨u1, l1, rfl, d1, d2⟩ := hd
 obtain rfl : l1 = [] := d2
 obtain ⟨v, e1, e2, e3⟩ := hR.own i _ hi
 have d1 := den_row d1
 rw [e1] at d1; injection d1 with d1; subst d1
 refine (h w v e3).mono fun en w' ⟨v', he, ho, hg, hb⟩ => ?_
 obtain ⟨k1, k2⟩ := hR.append hi hG e1 ho hg (.inl hb)
 exact ⟨v', _, _, _, _, he, k1, fun a hf => hf.kill k2, by simp [AV.den, Pc.den, CV.den, Env.set], hK⟩
theorem ent_field {w0 : World} {G : Gs} {N : Nd} {f : Fr} {S : List Ow} (i k : Nat) {t : TypeId} {l : List CV} (e : TypeId) (size : Nat) (hi : S[i]? = some (.cells t l)) (hk : l[k]? = some (.v (.slice none 0 0))) : Ent w0 G N f S f (S.set i (.cells t (l.set k (.row S.length))) ++ [.row e size 0 []]) := ⟨fun a w ⟨r, hR, hf, hN, hd⟩ => by
 have hle := hR.le_new none (some (.slice none 0 0))
 have hil : i < S.length := by
  rcases Nat.lt_or_ge i S.length with h1 | h1
  ·exact h1
  ·rw [List.getElem?_eq_none h1] at hi; cases hi
 have hR2 := hR.snoc (Below.refl _ _) (b := none) (v := some (.slice none 0 0)) (o := .row e size 0 []) nofun ⟨.slice none 0 0, by simp [Env.set], by simp [Env.set, Value.ownBlock], by simp, .inl ⟨rfl, rfl⟩⟩
 obtain ⟨b, us, e1, e2, e3⟩ := hR2.own i (.cells t l) (by rw [List.getElem?_append_left hil]; exact hi)
 obtain ⟨u, h1, h2⟩ := denL_at e3 hk
 have h2 : u = .slice none 0 0 := by simpa only [CV.den] using h2
 subst h2
 have h3 := denL_set (c := .row S.length) (u := .slice none 0 0) k e3 (by simp [CV.den, Env.set])
 have h4 : us.set k (.slice none 0 0) = us := by
  refine List.ext_getElem? fun j => ?_
  rw [List.getElem?_set]
  split
  ·rename_i hj; subst hj
   split
   ·exact h1.symm
   ·rename_i hlt; rw [List.getElem?_eq_none (by omega)] at h1; cases h1
  ·rfl
 rw [h4] at h3
 have hR3 := rel_setSame hR2 (i := i) (o := .cells t (l.set k (.row S.length))) ⟨b, us, e1, e2, h3⟩
 rw [List.set_append_left _ _ hil] at hR3
 exact ⟨_, hR3, hf.mono hle, hN, hd⟩⟩
end Go.Proofs.YtnhdcclpjildjaaGreat
namespace Go.Proofs.YtnhdcclpjildjaaGreat
open Go.RowKit

structure JmpG (P : Program) (w0 : World) (G : Gs) (fid : FuncId) (args : List AV) (f : Fr) (S : List Ow) (K : AV → World → Gs → Fr → List Ow → Prop) : Prop where
 ok : fnOk P fid = true
 out : ∀ r w us, Rel w0 G S r w → avdenL r args us → Calls P fid us.toArray w fun e w' => ∃ u x w2 G2 f2 S2 r2, e = .returned u ∧ Rel w2 G2 S2 r2 w' ∧ (∀ a, FDen r f a → FDen r2 f2 a) ∧ x.den r2 u ∧ K x w2 G2 f2 S2
def jmpGK (P : Program) (w0 : World) (G : Gs) (o : Oper) (f : Fr) (S : List Ow) (K : AV → World → Gs → Fr → List Ow → Prop) : Prop :=
 match o.op with
 | .call ⟨.value fn, args, _⟩ => (match f.ev fn with
  | .p (.c (.clo (.func fid) [])) => evL f args.toList fun vs => JmpG P w0 G fid vs f S K
  | _ => False)
 | _ => False
section
variable {P : Program} {w0 : World} {G : Gs} {N : Nd} {c d : Code} {f : Fr} {S : List Ow} {Q : Exit → Act → World → Prop}
theorem jmpGK_sound {o : Oper} {K : AV → World → Gs → Fr → List Ow → Prop} (h : jmpGK P w0 G o f S K) {r : Env} {w : World} (hR : Rel w0 G S r w) {a : Act} (hf : FDen r f a) {next : Act → World → Prop} (hK : ∀ u x w2 G2 f2 S2 r2 w', Rel w2 G2 S2 r2 w' → FDen r2 f2 a → x.den r2 u → K x w2 G2 f2 S2 → next (a.put o.dst u) w') : Oper.se P o a w next := by
 unfold jmpGK at h
 split at h
 ·rename_i fn args tys hop
  have hfn := hf.ev fn
  split at h
  ·rename_i fid he
   rw [he] at hfn
   obtain ⟨us, hu, hcap⟩ := den_clo hfn
   simp only [denL] at hcap
   subst hcap
   rw [evL_iff] at h
   obtain ⟨hok, hc⟩ := h
   have hrun : (execOp a.eval o).run P w = .ok (.enter fid (args.map a.eval)) w := by
    simp [execOp, hop, resolve, Deferred.ofValue, hu, invoke, run_callFunc hok]
   refine wp_of_enter hrun ?_
   have := hc r w (args.toList.map a.eval) hR (avdenL_ev hf _)
   rw [show (args.toList.map a.eval).toArray = args.map a.eval by apply Array.ext'; simp] at this
   exact Calls.mono this fun e w' ⟨u, x, w2, G2, f2, S2, r2, he, h1, h2, h3, hk⟩ => ⟨u, he, hK u x w2 G2 f2 S2 r2 w' h1 (h2 a hf) h3 hk⟩
  ·exact h.elim
 ·exact h.elim
theorem satq_jumpG {id : Nat} {ops : Array Oper} (k : Nat) {o : Oper} (hk : ops.toList.drop k = o :: ops.toList.drop (k + 1)) (hg : o.guard = none) (hdst : dstOk N.n o.dst = true)
  (h : guardedN P w0 G N ops (ops.toList.take k) f S fun f1 S1 => jmpGK P w0 G o f1 S1 fun x w2 G2 f2 S2 => guardedN P w2 G2 N ops (ops.toList.drop (k + 1)) (f2.put o.dst x) S2 fun f3 S3 => AtQ w2 G2 N .normal f3 S3 Q) : SatQ P w0 G N (.region id ops false) f S Q :=
 ⟨fun a w hgd => wpIn_region_list (wpListIn_split none 10 k (guardedN_sound (Q := fun a w => ∃ f1 S1, (jmpGK P w0 G o f1 S1 fun x w2 G2 f2 S2 => guardedN P w2 G2 N ops (ops.toList.drop (k + 1)) (f2.put o.dst x) S2 fun f3 S3 => AtQ w2 G2 N .normal f3 S3 Q) ∧ Good w0 G N f1 S1 a w) _ f S _ h (fun f' S' a' w' hk' hg' => ⟨f', S', hk', hg'⟩) a w hgd) (by
  rintro a w ⟨f1, S1, hj, r, hR, hf, hN, hd⟩
  rw [hk]
  unfold wpListIn
  rw [if_pos (wanted_none hg _)]
  refine se_wpIn none 10 (next := fun a w => wpListIn (fenceR none) 10 P ops Q (ops.toList.drop (k + 1)) a w) (jmpGK_sound hj hR hf fun u x w2 G2 f2 S2 r2 w' h1 h2 h3 hq => ?_) (fun a w h => h)
  exact seL_wpIn none 10 (guardedN_sound _ _ _ _ hq (fun f' S' a' w' hk' hg' => hk'.out a' w' hg') _ _ ⟨r2, h1, h2.put h3 (by rw [hN]; exact hdst), (put_size a _ _).trans hN, (put_defers a _ _).trans hd⟩)))⟩
end
theorem rel_far {w0 w : World} {fs : List Nat} {S : List Ow} {r : Env} (hR : Rel w0 ⟨fs, []⟩ S r w) {i b : Nat} (hi : fs.length ≤ i) (hb : r.blk i = some b) : w0.heap.size ≤ b := by
 rcases Nat.lt_or_ge b w0.heap.size with h1 | h1
 ·rcases (hR.new i b hb).2 h1 with h2 | h2
  ·obtain ⟨j, hj, hjb⟩ := List.mem_iff_getElem.1 h2
   have h3 := hR.first j b (by rw [← hjb]; exact List.getElem?_eq_getElem hj)
   have := hR.inj i j b hb h3
   have hj : j < fs.length := hj
   omega
  ·cases h2
 ·exact h1
theorem row_far {w0 w : World} {fs : List Nat} {S : List Ow} {r : Env} (hR : Rel w0 ⟨fs, []⟩ S r w) {i n size : Nat} {e : TypeId} {xs : List Value} {u : Value} (hi : fs.length ≤ i) (hS : S[i]? = some (.row e size n xs)) (hu : r.val i = some u) : w.ownsRow w0.heap.size e size u n xs ∧ u.ownBlock = r.blk i := by
 obtain ⟨v, f1, f2, f3⟩ := hR.own i _ hS
 rw [hu] at f1; injection f1 with f1; subst f1
 refine ⟨⟨f3.1, ?_⟩, f2⟩
 rcases f3.2 with h1 | ⟨b', cap, cur, h1, _, h2⟩
 ·exact .inl h1
 ·exact .inr ⟨b', cap, cur, h1, rel_far hR hi (by rw [← f2, h1]; rfl), h2⟩
theorem rows3_far {w0 w : World} {fs : List Nat} {S : List Ow} {r : Env} (hR : Rel w0 ⟨fs, []⟩ S r w) (i1 i2 i3 : Nat) (b : Blk) (h12 : i1 ≠ i2) (h13 : i1 ≠ i3) (h23 : i2 ≠ i3) (hf : fs.length ≤ i1 ∧ fs.length ≤ i2 ∧ fs.length ≤ i3)
  (h1 : S[i1]? = some (.row 35 1 b.at_.length (b.at_.map (.int .u32)))) (h2 : S[i2]? = some (.row 3 1 b.pages.length (b.pages.map (.int .i64)))) (h3 : S[i3]? = some (.row 45 5 b.ops.length (b.ops.flatMap opC)))
  {us : List Value} (hd : denL r [.row i1, .row i2, .row i3] us) : ∃ v1 v2 v3, us = [v1, v2, v3] ∧ Rows3 w0.heap.size w v1 v2 v3 b := by
 simp only [denL, CV.den] at hd
 obtain ⟨u1, l1, rfl, d1, u2, l2, rfl, d2, u3, l3, rfl, d3, rfl⟩ := hd
 obtain ⟨o1, b1⟩ := row_far hR hf.1 h1 d1
 obtain ⟨o2, b2⟩ := row_far hR hf.2.1 h2 d2
 obtain ⟨o3, b3⟩ := row_far hR hf.2.2 h3 d3
 refine ⟨u1, u2, u3, rfl, o1, o2, o3, fun x hx hy => ?_, fun x hx hy => ?_, fun x hx hy => ?_⟩
 ·rw [b1] at hx; rw [b2] at hy; exact h12 (hR.inj _ _ _ hx hy)
 ·rw [b1] at hx; rw [b3] at hy; exact h13 (hR.inj _ _ _ hx hy)
 ·rw [b2] at hx; rw [b3] at hy; exact h23 (hR.inj _ _ _ hx hy)
theorem fin_rows3T {w0 : World} {fs : List Nat} {S : List Ow} {y : Value} {R : Ending → World → Prop} (i1 i2 i3 : Nat) (b : Blk) (h12 : i1 ≠ i2) (h13 : i1 ≠ i3) (h23 : i2 ≠ i3) (hf : fs.length ≤ i1 ∧ fs.length ≤ i2 ∧ fs.length ≤ i3)
  (h1 : S[i1]? = some (.row 35 1 b.at_.length (b.at_.map (.int .u32)))) (h2 : S[i2]? = some (.row 3 1 b.pages.length (b.pages.map (.int .i64)))) (h3 : S[i3]? = some (.row 45 5 b.ops.length (b.ops.flatMap opC)))
  (h : ∀ r w v1 v2 v3, Rel w0 ⟨fs, []⟩ S r w → Rows3 w0.heap.size w v1 v2 v3 b → R (.returned (.tuple #[.agg #[v1, v2, v3], y])) w) : Fin w0 ⟨fs, []⟩ S (.tup [.agg [.row i1, .row i2, .row i3], .c (.v y)]) R := by
 refine ⟨fun r w u hR hd => ?_⟩
 obtain ⟨us, rfl, l1⟩ := hd
 obtain ⟨u1, l2, rfl, d1, l2'⟩ := l1
 obtain ⟨u2, l3, rfl, d2, l3'⟩ := l2'
 obtain rfl : l3 = [] := l3'
 obtain ⟨us, rfl, d1⟩ := d1
 obtain ⟨v1, v2, v3, rfl, k⟩ := rows3_far hR i1 i2 i3 b h12 h13 h23 hf h1 h2 h3 d1
 have d2 : u2 = y := by simpa only [Pc.den, CV.den] using d2
 subst d2
 exact h r w v1 v2 v3 hR k
theorem op_iface {P : Program} {w0 : World} {G : Gs} {N : Nd} {S : List Ow} {f : Fr} {o : Oper} {K : Fr → List Ow → Prop} {t : TypeId} {x : Operand} {v : Value} (hop : o.op = .makeInterface t x) (hx : f.ev x = one v) (hc : P.concrete t = true) (hdst : dstOk N.n o.dst = true) (hk : K (f.put o.dst (one (.iface t v))) S) : OpS P w0 G N o f S K := by
 refine opS_val _ hdst (fun r act w hR hf => ⟨_, den_one _ _, ?_⟩) hk
 have h1 := hf.ev x
 rw [hx] at h1
 simp [execOp, hop, den_v h1, run_makeInterface w t v hc]
theorem call_blkT {P : Program} {w0 : World} {G : Gs} {fid : FuncId} {args : List AV} {S : List Ow} {K : AV → List Ow → Prop} (b : Blk) (y : Value) (hok : fnOk P fid = true)
  (h : ∀ r w us, Rel w0 G S r w → avdenL r args us → Calls P fid us.toArray w fun en w' => ∃ v1 v2 v3, en = .returned (.tuple #[.agg #[v1, v2, v3], y]) ∧ Rows3 w.heap.size w' v1 v2 v3 b ∧ Below w.heap.size w w')
  (hK : K (.tup [.agg [.row S.length, .row (S.length + 1), .row (S.length + 2)], .c (.v y)]) (S ++ blkRows b)) : CallS P w0 G fid args S K := by
 refine ⟨hok, fun r w us hR hd => ?_⟩
 refine (h r w us hR hd).mono fun en w' ⟨v1, v2, v3, he, h3, hB⟩ => ?_
 obtain ⟨k1, k2, k3, k4, k5⟩ := hR.rows3 hB h3
 refine ⟨.tup [.agg [.row S.length, .row (S.length + 1), .row (S.length + 2)], .c (.v y)], _, _, _, he, ⟨[.agg #[v1, v2, v3], y], rfl, .agg #[v1, v2, v3], _, rfl, ⟨[v1, v2, v3], rfl, ?_⟩, y, [], rfl, by simp only [Pc.den, CV.den], rfl⟩, k1, k2, hK⟩
 simp only [denL, CV.den]
 exact ⟨_, _, rfl, k3, _, _, rfl, k4, _, _, rfl, k5, rfl⟩
end Go.Proofs.YtnhdcclpjildjaaGreat
namespace Go.Proofs.YtnhdcclpjildjaaGreat
open Go.RowKit

inductive CS where
 | c0 (a b c d e : Bool)
 | c1 (b c d e : Bool)
 | c2 (c d e : Bool)
 | c3 (d e : Bool)
 | c4 (e : Bool)
 | c5
 | x1
 | x2
 | x3
def csL (a0 p0 a1 p1 a2 p2 a3 p3 a4 p4 t u v : Bool) : Array Bool := #[a0, true, true, true, true, p0, a1, true, true, true, true, p1, a2, true, true, true, true, p2, a3, true, true, true, true, p3, a4, true, true, true, true, p4, true, true, true, true, t, u, v]
def CS.listed : CS → Array Bool
 | .c0 a b c d e => csL a false b false c false d false e false false false false
 | .c1 b c d e => csL true true b false c false d false e false false false false
 | .c2 c d e => csL true true true true c false d false e false false false false
 | .c3 d e => csL true true true true true true d false e false false false false
 | .c4 e => csL true true true true true true true true e false false false false
 | .c5 => csL true true true true true true true true true true false false false
 | .x1 => csL true true true true true true true true true true true false false
 | .x2 => csL true true true true true true true true true true true true false
 | .x3 => csL true true true true true true true true true true true true true
def bqN (i : Nat) (y : CS) : Bool → List (Nat × CS)
 | false => [(i, y)]
 | true => []
def apN (i : Nat) (y : CS) : Bool → List (Nat × CS)
 | true => [(i, y)]
 | false => []
def CS.nx : CS → Nx CS
 | .c0 a b c d e => .alts (bqN 0 (.c0 true b c d e) a ++ (apN 5 (.c1 b c d e) a ++ (bqN 6 (.c0 a true c d e) b ++ (bqN 12 (.c0 a b true d e) c ++ (bqN 18 (.c0 a b c true e) d ++ (bqN 24 (.c0 a b c d true) e))))))
 | .c1 b c d e => .alts (bqN 6 (.c1 true c d e) b ++ (apN 11 (.c2 c d e) b ++ (bqN 12 (.c1 b true d e) c ++ (bqN 18 (.c1 b c true e) d ++ (bqN 24 (.c1 b c d true) e)))))
 | .c2 c d e => .alts (bqN 12 (.c2 true d e) c ++ (apN 17 (.c3 d e) c ++ (bqN 18 (.c2 c true e) d ++ (bqN 24 (.c2 c d true) e))))
 | .c3 d e => .alts (bqN 18 (.c3 true e) d ++ (apN 23 (.c4 e) d ++ (bqN 24 (.c3 d true) e)))
 | .c4 e => .alts (bqN 24 (.c4 true) e ++ (apN 29 .c5 e))
 | .c5 => .alts [(34, .x1)]
 | .x1 => .alts [(35, .x2)]
 | .x2 => .alts [(36, .x3)]
 | .x3 => .done
def blN : Bool → Nat
 | true => 0
 | false => 1
def CS.left : CS → Nat
 | .c0 a b c d e => 8 + blN a + blN b + blN c + blN d + blN e
 | .c1 b c d e => 7 + blN b + blN c + blN d + blN e
 | .c2 c d e => 6 + blN c + blN d + blN e
 | .c3 d e => 5 + blN d + blN e
 | .c4 e => 4 + blN e
 | .c5 => 3
 | .x1 => 2
 | .x2 => 1
 | .x3 => 0
def slB (i : Nat) : Bool → Bool → AV
 | true, false => .p (.c (.row i))
 | _, _ => .p (.c .any)
def slA (i : Nat) : Bool → AV
 | true => .p (.c (.row i))
 | false => .p (.c .any)
def enB (t : TypeId) (n : Nat) (xs : List Value) : Bool → Bool → Ow
 | _, true => .row t 1 n xs
 | true, false => .row t 1 0 []
 | false, false => .gone
abbrev cpT (pre : Fr) (a p0 b p1 c p2 d p3 e p4 : Bool) : Fr := (3, slB 0 a p0) :: (9, slB 1 b p1) :: (15, slB 2 c p2) :: (21, slB 3 d p3) :: (27, slB 4 e p4) :: (8, slA 0 p0) :: (14, slA 1 p1) :: (20, slA 2 p2) :: (26, slA 3 p3) :: (32, slA 4 p4) :: pre
abbrev cpU (n p : Nat) (D I OD OI R : List Value) (a p0 b p1 c p2 d p3 e p4 : Bool) : List Ow := [enB 5 n D a p0, enB 5 n I b p1, enB 5 n OD c p2, enB 5 n OI d p3, enB 3 p R e p4]
abbrev cpM : List CV := [.row 0, .row 1, .row 2, .row 3, .row 4, .v (.bool false)]
def CS.T (pre : Fr) : CS → Fr
 | .c0 a b c d e => cpT pre a false b false c false d false e false
 | .c1 b c d e => cpT pre true true b false c false d false e false
 | .c2 c d e => cpT pre true true true true c false d false e false
 | .c3 d e => cpT pre true true true true true true d false e false
 | .c4 e => cpT pre true true true true true true true true e false
 | .c5 => cpT pre true true true true true true true true true true
 | .x1 => (37, .p (.agg cpM)) :: cpT pre true true true true true true true true true true
 | .x2 => (38, .p (.c (.ref 5 0))) :: cpT pre true true true true true true true true true true
 | .x3 => (2, .p (.c (.ref 5 0))) :: cpT pre true true true true true true true true true true
def CS.U (n p : Nat) (D I OD OI R : List Value) : CS → List Ow
 | .c0 a b c d e => cpU n p D I OD OI R a false b false c false d false e false
 | .c1 b c d e => cpU n p D I OD OI R true true b false c false d false e false
 | .c2 c d e => cpU n p D I OD OI R true true true true c false d false e false
 | .c3 d e => cpU n p D I OD OI R true true true true true true d false e false
 | .c4 e => cpU n p D I OD OI R true true true true true true true true e false
 | .c5 => cpU n p D I OD OI R true true true true true true true true true true
 | .x1 => cpU n p D I OD OI R true true true true true true true true true true
 | .x2 => cpU n p D I OD OI R true true true true true true true true true true ++ [.cells 125 cpM]
 | .x3 => cpU n p D I OD OI R true true true true true true true true true true ++ [.cells 125 cpM]
structure MemH (w : World) (g n p : Nat) (M : MemP) (g1 g2 g3 g4 g5 : Nat) : Prop where
 h1 : CellsAt w Gs.nil g 0 [.slice (some ⟨g1, 0, none⟩) n (n + M.td.length)]
 h2 : CellsAt w Gs.nil g 1 [.slice (some ⟨g2, 0, none⟩) n (n + M.ti.length)]
 h3 : CellsAt w Gs.nil g 2 [.slice (some ⟨g3, 0, none⟩) n (n + M.tod.length)]
 h4 : CellsAt w Gs.nil g 3 [.slice (some ⟨g4, 0, none⟩) n (n + M.toi.length)]
 h5 : CellsAt w Gs.nil g 4 [.slice (some ⟨g5, 0, none⟩) p (p + M.tr.length)]
 h6 : CellsAt w Gs.nil g 5 [.bool false]
 s1 : SlOld w Gs.nil (some ⟨g1, 0, none⟩) (M.data.map byteV)
 s2 : SlOld w Gs.nil (some ⟨g2, 0, none⟩) (M.image.map byteV)
 s3 : SlOld w Gs.nil (some ⟨g3, 0, none⟩) (M.oldData.map byteV)
 s4 : SlOld w Gs.nil (some ⟨g4, 0, none⟩) (M.oldImage.map byteV)
 s5 : SlOld w Gs.nil (some ⟨g5, 0, none⟩) (M.rights.map intV)
end Go.Proofs.YtnhdcclpjildjaaGreat
namespace Go.Proofs.YtnhdcclpjildjaaGreat
open Go.RowKit

def Agree (m : Nat) (vs us : List Int) : Prop := ∀ v : Nat, v < 28 → m.testBit v = true → getV vs (v : Int) = getV us (v : Int)
structure StepSame (o : BOp) (m : Nat) (vs us : List Int) (M : MemP) : Prop where
 a : hasA o.code = true → getV us o.a = getV vs o.a
 stays : (applyP o us M).stays = (applyP o vs M).stays
 mem : (applyP o us M).mem = (applyP o vs M).mem
 agree : (applyP o vs M).stays = true → Agree m (applyP o vs M).vs (applyP o us M).vs
 guests : observesB o = true → guestsL us = guestsL vs
end Go.Proofs.YtnhdcclpjildjaaGreat
namespace Go.Proofs.YtnhdcclpjildjaaGreat
open Go.RowKit

structure RegOk (vs : List Int) (R : Int → Int) : Prop where
 vars : VarsOk vs
 regs : ∀ j, 0 ≤ j → j < 16 → getV vs j = R j
 zero : R 0 = 0
section
variable {ats : List Int} {l : List BOp} {k : Int} {vs : List Int} {M : MemP}
end
section
variable {ats : List Int} {k : Int} {vs : List Int} {R : Int → Int} {M : MemP} {i : QI}
end
end Go.Proofs.YtnhdcclpjildjaaGreat
namespace Go.Proofs.YtnhdcclpjildjaaGreat
open Go.RowKit

structure RunR where
 leaves : Bool
 done : Nat
 pc : Int
 R : Int → Int
 M : MemP
def RunR.out (r : RunR) (vs : List Int) : EvR := ⟨⟨r.leaves, if r.leaves = true then (r.done : Int) else 0, r.done, r.pc, guestsL vs⟩, r.M⟩
end Go.Proofs.YtnhdcclpjildjaaGreat
namespace Go.Proofs.YtnhdcclpjildjaaGreat
open Go.RowKit

abbrev outL (x : Outc) : List Value := .bool x.leaves :: intV x.index :: intV x.done :: .int .u32 x.pc :: u32L x.vars
abbrev outV (x : Outc) : Value := .agg (outL x).toArray
set_option maxRecDepth 100000
end Go.Proofs.YtnhdcclpjildjaaGreat
namespace Go.Proofs.YtnhdcclpjildjaaGreat
open Go.RowKit

abbrev encV (x : Option Int) : Value := .tuple #[.int .u32 (x.getD 0), intV (if x.isSome then 0 else 12)]
def QI.zero : QI := ⟨0, 0, 0, 0, 0⟩
abbrev decV (x : Option QI) : Value := .tuple #[qiV (x.getD QI.zero), intV (if x.isSome then 0 else 12)]
theorem validQ_range {i : QI} (h : validQ i = true) : (0 ≤ i.op ∧ i.op < 64) ∧ (0 ≤ i.d ∧ i.d < 16) ∧ (0 ≤ i.a ∧ i.a < 16) ∧ (0 ≤ i.b ∧ i.b < 16) := by
 obtain ⟨h1, h2, h3, h4, _⟩ := validQ_parts h
 have h5 := (qForm_cases i.op).2.2.2.2.1 h1
 have := regB_range h2
 have := regB_range h3
 have := regB_range h4
 omega
theorem q26 {w : Int} (h : word w) : w.tdiv 67108864 = w / 67108864 ∧ (0 ≤ w / 67108864 ∧ w / 67108864 < 64) := by
 obtain ⟨h0, h1⟩ := h
 exact ⟨Int.tdiv_eq_ediv_of_nonneg h0, by omega⟩
def fieldsF (f : QForm) (w : Int) : QI :=
 ⟨w / 67108864, if f.d = true then w / 4194304 % 16 else 0, if f.a = true then w / 262144 % 16 else 0, if f.b = true then w / 16384 % 16 else 0, if f.signed = true then sgnW (w % 2 ^ f.bits) f.bits else w % 2 ^ f.bits⟩
end Go.Proofs.YtnhdcclpjildjaaGreat
namespace Go.Proofs.YtnhdcclpjildjaaGreat
open Go.RowKit

def zero64 : List Value := (List.replicate 64 [Value.bool false, .bool false, .bool false, .bool false, intV 0, intV 0, .int .u32 0]).flatten
def tab1 (k : Nat) : List Value := setOps zero64 ((List.range k).map fun j : Nat => ((j : Nat) : Int) + 1) (sh7 true true true 0 0 0)
def tab2 (k : Nat) : List Value := setOps (tab1 12) ((List.range k).map fun j : Nat => ((j : Nat) : Int) + 16) (sh7 true true false 1 18 0)
theorem zero64_len : zero64.length = 448 := by kernel_rfl
theorem tab1_zero : tab1 0 = zero64 := by simp [tab1, setOps]
theorem tab2_zero : tab2 0 = tab1 12 := by simp [tab2, setOps]
theorem tab1_len (k : Nat) : (tab1 k).length = 448 := by unfold tab1; rw [setOps_length, zero64_len]
theorem tab2_len (k : Nat) : (tab2 k).length = 448 := by unfold tab2; rw [setOps_length, tab1_len]
theorem tab1_succ (k : Nat) : tab1 (k + 1) = setOps (tab1 k) [(k : Int) + 1] (sh7 true true true 0 0 0) := by
 unfold tab1
 rw [List.range_succ, List.map_append, List.map_cons, List.map_nil, setOps_snoc]
 rfl
theorem tab2_succ (k : Nat) : tab2 (k + 1) = setOps (tab2 k) [(k : Int) + 16] (sh7 true true false 1 18 0) := by
 unfold tab2
 rw [List.range_succ, List.map_append, List.map_cons, List.map_nil, setOps_snoc]
 rfl
def shapesL : List Value := (List.range 64).flatMap fun k : Nat => shL (qForm ((k : Nat) : Int))
theorem cells_op1 {w : World} {G : Gs} {q : Nat} {ops : List Int} (h : CellsAt w G q 0 (ops.map intV)) {j : Nat} {o : Int} (hj : ops[j]? = some o) : CellsAt w G q (0 + (j : Int).toNat * 1) [intV o] := by
 refine cells_one h.1 h.2.1 ?_
 have := h.2.2 j (intV o) (by rw [List.getElem?_map, hj]; rfl)
 rw [Nat.mul_one, Int.toNat_natCast]; exact this
theorem call_set {w0 : World} {S : List Ow} {K : AV → List Ow → Prop} {us : List Value} (d a b : Bool) (k bits m : Int) (ops : List Int) (j n : Nat) (hi : S[1]? = some (.cells 195 (us.map .v))) (hj : S[j]? = some (.cells 3 ((ops.map intV).map .v))) (hne : j ≠ 1) (hus : us.length = 448) (hn : ops.length = n) (hr : ∀ o ∈ ops, 0 ≤ o ∧ o < 64) (hn1 : n ≤ 64)
  (hK : ∀ us' : List Value, us' = setOps us ops (sh7 d a b k bits m) → us'.length = 448 → K (.tup []) (S.set 1 (.cells 195 (us'.map .v)))) :
  CallS Tryz.prog w0 Gs.nil 134 [.p (.agg [.v (.bool false), .v (.bool d), .v (.bool a), .v (.bool b), .v (intV k), .v (intV bits), .v (.int .u32 m)]), .p (.c (.sl j 0 n n)), .p (.c (.ref 1 0))] S K :=
 call_arr (pre := [.p (.agg [.v (.bool false), .v (.bool d), .v (.bool a), .v (.bool b), .v (intV k), .v (intV bits), .v (.int .u32 m)])]) (xs := ops.map intV) (us := us) (us' := setOps us ops (sh7 d a b k bits m)) 1 j n hi hj hne (ps := [sh6 d a b k bits m]) rfl (by kernel_rfl)
  (fun w g q hg hq => set_walk d a b k bits m ops us q n w g hg hus hn (fun i o ho => cells_op1 hq ho) hr hn1) (hK _ rfl (by rw [setOps_length, hus]))
theorem grp_two (t1 t2 : TypeId) (us vs : List Value) : grpOk Gs.nil [.cells t1 (us.map .v), .cells t2 (vs.map .v)] = true := by
 show sbnd 2 [.cells t1 (us.map .v), .cells t2 (vs.map .v)] = true
 simp only [sbnd, Ow.bnd, bndL_vals]
def flatV : Value → Bool
 | .int _ _ => true
 | .bool _ => true
 | _ => false
theorem onesL_flat (S : List Ow) : ∀ us : List Value, us.all flatV = true → onesL S (us.map CV.v) = true
 | [], _ => rfl
 | u :: us, h => by
  simp only [List.all_cons, Bool.and_eq_true] at h
  have h1 : oneS S (.v u) = true := by
   cases u <;> first | rfl | (exact absurd h.1 (by simp [flatV]))
  show (match oneS S (.v u) with | true => onesL S (us.map CV.v) | false => false) = true
  rw [h1]
  exact onesL_flat S us h.2
theorem shapes_flat : shapesL.all flatV = true := by kernel_rfl
theorem shapes_is : setOps (setOps (setOps (setOps (setOps (setOps (setOps (setOps (setOps (tab2 12) [17, 18, 19] (sh7 true true false 2 18 0)) [32, 33, 34, 35, 36, 37] (sh7 true true false 1 18 0)) [40] (sh7 true false false 1 22 0)) [41] (sh7 true false false 2 22 0)) [48] (sh7 false false false 2 18 0)) [49, 50, 51] (sh7 false false false 0 0 0)) [52] (sh7 false true false 0 0 0)) [53] (sh7 true false false 2 18 3)) [54] (sh7 false true false 2 18 4) = shapesL := by kernel_rfl
set_option maxRecDepth 100000 in
set_option maxHeartbeats 4000000 in
theorem shapes_walk (w : World) : Calls Tryz.prog 121 #[] w fun e w' => e = .returned (.agg shapesL.toArray) ∧ Below w.heap.size w w' := by
 refine calls_satq [] Tryz.func121 Tryz.ntmps121 rfl (by simp) ?_
 refine satq_seq ?_
 conv => whnf
 refine satq_seq ?_
 conv => whnf
 refine satq_seq ?_
 conv => whnf
 refine satq_cut (α := { u : List Value // u = tab1 12 }) (fun _ => [(0, .p (.c (.ref 0 0))), (1, .p (.c (.ref 1 0))), (2, .p (.c (.clo (.func 134) [.ref 1 0])))]) (fun x => [.cells 195 (zero64.map .v), .cells 195 (x.1.map .v)]) ?_ fun y => ?_
 ·conv => whnf
  refine ⟨{ k : Nat // k ≤ 12 }, fun x => [(0, .p (.c (.ref 0 0))), (1, .p (.c (.ref 1 0))), (2, .p (.c (.clo (.func 134) [.ref 1 0]))), (3, one (intV ((x.1 : Int) + 1)))], fun x => [.cells 195 (zero64.map .v), .cells 195 ((tab1 x.1).map .v)], fun x => 12 - x.1,
   ⟨⟨0, by omega⟩, ent_same rfl (aI rfl (aI rfl (aI rfl (aI rfl trivial)))) (aI ((aI rfl (Or.inl (by kernel_rfl)))) (aI ((aI rfl (Or.inl (by rw [tab1_zero]; kernel_rfl)))) trivial))⟩, fun x => ?_⟩
  obtain ⟨k, hk⟩ := x
  dsimp only
  conv => whnf
  refine ⟨fun hc => ?_, fun hc => ?_⟩
  ·have hlt : k < 12 := by simp at hc; omega
   have hs := tab1_succ k
   have hl := tab1_len k
   generalize tab1 k = us at hs hl ⊢
   conv => whnf
   refine call_set true true true 0 0 0 [(k : Int) + 1] 2 1 rfl rfl (by omega) hl rfl (by simp; omega) (by omega) fun us' hu hl' => ?_
   conv => whnf
   refine ⟨_, wr64 (by omega), ?_⟩
   conv => whnf
   exact ⟨⟨k + 1, by omega⟩, ent_drop (aI rfl (aI rfl (aI rfl (aI rfl trivial)))) (aI sM (aI ((aI rfl (Or.inl (by rw [hu, ← hs])))) trivial)) rfl (grp_two _ _ _ _), by show 12 - (k + 1) < 12 - k; omega⟩
  ·have hke : k = 12 := by simp at hc; omega
   subst hke
   conv => whnf
   refine ⟨_, _, ent_refl, ?_⟩
   conv => whnf
   exact ⟨⟨tab1 12, rfl⟩, ent_same rfl (aI rfl (aI rfl (aI rfl trivial))) (aI sM (aI sM trivial))⟩
 obtain ⟨v0, hv0⟩ := y
 refine satq_cut (α := { u : List Value // u = tab2 12 }) (fun _ => [(0, .p (.c (.ref 0 0))), (1, .p (.c (.ref 1 0))), (2, .p (.c (.clo (.func 134) [.ref 1 0])))]) (fun x => [.cells 195 (zero64.map .v), .cells 195 (x.1.map .v)]) ?_ fun y => ?_
 ·conv => whnf
  refine ⟨{ k : Nat // k ≤ 12 }, fun x => [(0, .p (.c (.ref 0 0))), (1, .p (.c (.ref 1 0))), (2, .p (.c (.clo (.func 134) [.ref 1 0]))), (4, one (intV ((x.1 : Int) + 16)))], fun x => [.cells 195 (zero64.map .v), .cells 195 ((tab2 x.1).map .v)], fun x => 12 - x.1,
   ⟨⟨0, by omega⟩, ent_same rfl (aI rfl (aI rfl (aI rfl (aI rfl trivial)))) (aI sM (aI ((aI rfl (Or.inl (by rw [tab2_zero]; exact congrArg (List.map CV.v) hv0)))) trivial))⟩, fun x => ?_⟩
  obtain ⟨k, hk⟩ := x
  dsimp only
  conv => whnf
  refine ⟨fun hc => ?_, fun hc => ?_⟩
  ·have hlt : k < 12 := by simp at hc; omega
   have hs := tab2_succ k
   have hl := tab2_len k
   generalize tab2 k = us at hs hl ⊢
   conv => whnf
   refine call_set true true false 1 18 0 [(k : Int) + 16] 2 1 rfl rfl (by omega) hl rfl (by simp; omega) (by omega) fun us' hu hl' => ?_
   conv => whnf
   refine ⟨_, wr64 (by omega), ?_⟩
   conv => whnf
   exact ⟨⟨k + 1, by omega⟩, ent_drop (aI rfl (aI rfl (aI rfl (aI rfl trivial)))) (aI sM (aI ((aI rfl (Or.inl (by rw [hu, ← hs])))) trivial)) rfl (grp_two _ _ _ _), by show 12 - (k + 1) < 12 - k; omega⟩
  ·have hke : k = 12 := by simp at hc; omega
   subst hke
   conv => whnf
   refine ⟨_, _, ent_refl, ?_⟩
   conv => whnf
   exact ⟨⟨tab2 12, rfl⟩, ent_same rfl (aI rfl (aI rfl (aI rfl trivial))) (aI sM (aI sM trivial))⟩
 obtain ⟨u0, hu0⟩ := y
 clear hv0 v0
 have hl0 : u0.length = 448 := by rw [hu0, tab2_len]
 dsimp only
 refine satq_seq ?_
 conv => whnf
 refine call_set true true false 2 18 0 [17, 18, 19] 2 3 rfl rfl (by omega) hl0 rfl (by simp) (by omega) fun u1 hu1 hl1 => ?_
 conv => whnf
 refine satq_seq ?_
 conv => whnf
 refine call_set true true false 1 18 0 [32, 33, 34, 35, 36, 37] 3 6 rfl rfl (by omega) hl1 rfl (by simp) (by omega) fun u2 hu2 hl2 => ?_
 conv => whnf
 refine satq_seq ?_
 conv => whnf
 refine call_set true false false 1 22 0 [40] 4 1 rfl rfl (by omega) hl2 rfl (by simp) (by omega) fun u3 hu3 hl3 => ?_
 conv => whnf
 refine satq_seq ?_
 conv => whnf
 refine call_set true false false 2 22 0 [41] 5 1 rfl rfl (by omega) hl3 rfl (by simp) (by omega) fun u4 hu4 hl4 => ?_
 conv => whnf
 refine satq_seq ?_
 conv => whnf
 refine call_set false false false 2 18 0 [48] 6 1 rfl rfl (by omega) hl4 rfl (by simp) (by omega) fun u5 hu5 hl5 => ?_
 conv => whnf
 refine satq_seq ?_
 conv => whnf
 refine call_set false false false 0 0 0 [49, 50, 51] 7 3 rfl rfl (by omega) hl5 rfl (by simp) (by omega) fun u6 hu6 hl6 => ?_
 conv => whnf
 refine satq_seq ?_
 conv => whnf
 refine call_set false true false 0 0 0 [52] 8 1 rfl rfl (by omega) hl6 rfl (by simp) (by omega) fun u7 hu7 hl7 => ?_
 conv => whnf
 refine satq_seq ?_
 conv => whnf
 refine call_set true false false 2 18 3 [53] 9 1 rfl rfl (by omega) hl7 rfl (by simp) (by omega) fun u8 hu8 hl8 => ?_
 conv => whnf
 refine satq_seq ?_
 conv => whnf
 refine call_set false true false 2 18 4 [54] 10 1 rfl rfl (by omega) hl8 rfl (by simp) (by omega) fun u9 hu9 hl9 => ?_
 conv => whnf
 have e : u9 = shapesL := by rw [hu9, hu8, hu7, hu6, hu5, hu4, hu3, hu2, hu1, hu0]; exact shapes_is
 have hfl : u9.all flatV = true := e ▸ shapes_flat
 have hm : (List.map CV.v u9).length = 448 := by rw [List.length_map, hl9]
 have hz : (List.map CV.v zero64).length = 448 := by rw [List.length_map, zero64_len]
 refine satq_vc ?_
 conv => whnf
 rw [show cut (List.map CV.v u9) 0 (Tryz.prog.types[195].size) = some (List.map CV.v u9) from cut_all hm]
 conv => whnf
 rw [show Nat.beq (List.map CV.v u9).length (Tryz.prog.types[195].size) = true from by rw [hm]; rfl, onesL_flat _ u9 hfl]
 conv => whnf
 rw [show Nat.ble (0 + (List.map CV.v u9).length) (List.map CV.v zero64).length = true from Nat.ble_eq_true_of_le (by rw [hm, hz]; omega)]
 conv => whnf
 refine atq_ret ?_
 conv => whnf
 rw [setAll_same (show (List.map CV.v zero64).length = (List.map CV.v u9).length by rw [hm, hz])]
 conv => whnf
 rw [show cut (List.map CV.v u9) 0 (Tryz.prog.types[195].size) = some (List.map CV.v u9) from cut_all hm]
 conv => whnf
 exact fin_val (val_agg _) fun w' hB => ⟨by rw [e], hB⟩
end Go.Proofs.YtnhdcclpjildjaaGreat
namespace Go.Proofs.YtnhdcclpjildjaaGreat
open Go.RowKit

structure Slt where
 d : Nat
 c : Nat
 od : Bool
 oc : Bool
 cd : Nat
 cc : Nat
 r : Int
abbrev ptrV (b : Nat) : Value := .pointer (some ⟨b, 0, none⟩)
abbrev slotL (s : Slt) : List Value := [ptrV s.d, ptrV s.c, .bool s.od, .bool s.oc, ptrV s.cd, ptrV s.cc, intV s.r]
def slotsL (l : List Slt) : List Value := l.flatMap slotL
structure PageAt (w : World) (b : Nat) (us : List Int) : Prop where
 at_ : w.heap[b]? = some (.cells (us.map byteV).toArray 166 (0, 0))
 len : us.length = 256
 byte : ∀ x ∈ us, 0 ≤ x ∧ x < 256
structure MemAt2 (w : World) (B m sb : Nat) (l : List Slt) (img : Nat → List Int) : Prop where
 hm : w.heap[m]? = some (.cells #[.slice (some ⟨sb, 0, none⟩) l.length l.length, .bool false] 163 (0, 0))
 hs : w.heap[sb]? = some (.cells (slotsL l).toArray 168 (0, 0))
 Bm : B ≤ m
 Bs : B ≤ sb
 dp : ∀ s ∈ l, (∃ us, PageAt w s.d us) ∧ B ≤ s.d
 cp : ∀ k s, l[k]? = some s → PageAt w s.c (img k) ∧ B ≤ s.c
 sep : ∀ s ∈ l, ∀ s' ∈ l, s.od = true → s.d ≠ s'.c
theorem PageAt.later {w w' : World} {b : Nat} {us : List Int} (h : PageAt w b us) (hb : w'.heap[b]? = w.heap[b]?) : PageAt w' b us := ⟨hb.trans h.at_, h.len, h.byte⟩
theorem heap_lt {w : World} {b : Nat} {o : Obj} (h : w.heap[b]? = some o) : b < w.heap.size := by
 rcases Nat.lt_or_ge b w.heap.size with h1 | h1
 ·exact h1
 ·rw [Array.getElem?_eq_none h1] at h; cases h
theorem MemAt2.later {w w' : World} {B m sb : Nat} {l : List Slt} {img : Nat → List Int} (h : MemAt2 w B m sb l img) (hB : Below w.heap.size w w') : MemAt2 w' B m sb l img := by
 have key : ∀ {b : Nat} {o : Obj}, w.heap[b]? = some o → w'.heap[b]? = w.heap[b]? := fun hb => hB.block _ (heap_lt hb)
 exact ⟨(key h.hm).trans h.hm, (key h.hs).trans h.hs, h.Bm, h.Bs, fun s hs => by obtain ⟨⟨us, hu⟩, hb⟩ := h.dp s hs; exact ⟨⟨us, hu.later (key hu.at_)⟩, hb⟩,
  fun k s hk => by obtain ⟨hu, hb⟩ := h.cp k s hk; exact ⟨hu.later (key hu.at_), hb⟩, h.sep⟩
theorem slotsL_length (l : List Slt) : (slotsL l).length = 7 * l.length := by
 unfold slotsL
 induction l with
 | nil => rfl
 | cons s l ih =>
  rw [List.flatMap_cons, List.length_append, ih, List.length_cons]
  show 7 + 7 * l.length = 7 * (l.length + 1)
  omega
theorem slotsL_get : ∀ {l : List Slt} {k : Nat} {s : Slt} {j : Nat} {v : Value}, l[k]? = some s → (slotL s)[j]? = some v → (slotsL l)[7 * k + j]? = some v
 | [], k, s, j, v, h, _ => by simp at h
 | x :: l, 0, s, j, v, h, hj => by
  simp at h; subst h
  have hj7 : j < 7 := by
   rcases Nat.lt_or_ge j 7 with h1 | h1
   ·exact h1
   ·rw [List.getElem?_eq_none (by simpa using h1)] at hj; cases hj
  show (slotL x ++ slotsL l)[7 * 0 + j]? = some v
  rw [List.getElem?_append_left (by show 7 * 0 + j < 7; omega), Nat.mul_zero, Nat.zero_add]; exact hj
 | x :: l, k + 1, s, j, v, h, hj => by
  show (slotL x ++ slotsL l)[7 * (k + 1) + j]? = some v
  rw [List.getElem?_append_right (by show 7 ≤ _; omega)]
  rw [show 7 * (k + 1) + j - (slotL x).length = 7 * k + j by show 7 * (k + 1) + j - 7 = _; omega]
  exact slotsL_get (by simpa using h) hj
theorem block_cells {w : World} {b : Nat} {us : List Value} {t : TypeId} (h : w.heap[b]? = some (.cells us.toArray t (0, 0))) {off : Nat} {x : Value} (hx : us[off]? = some x) : CellsAt w Gs.nil b off [x] :=
 cells_one (heap_lt h) (by simp) (by simp [World.cell?, h, hx])
section
variable {w : World} {B m sb : Nat} {l : List Slt} {img : Nat → List Int}
set_option maxRecDepth 100000 in
theorem pages_mem (h : w.heap[m]? = some (.cells #[.slice (some ⟨sb, 0, none⟩) l.length l.length, .bool false] 163 (0, 0))) : Calls Tryz.prog 96 #[ptrV m] w fun e w' => e = .returned (intV (l.length : Int)) ∧ Below w.heap.size w w' := by
 refine calls_valN [ptrV m] Tryz.func96 Tryz.ntmps96 rfl (by simp) ?_
 conv => whnf
 refine q_nil_v _ rfl rfl rfl rfl ?_
 conv => whnf
 (repeat ((first | apply k1 | apply k2 | apply k3 | apply k4 | refine k5 (by decide) ?_ | refine k6 (by decide) ?_); conv => whnf))
 conv => whnf
 refine ⟨_, block_cells (us := [.slice (some ⟨sb, 0, none⟩) l.length l.length, .bool false]) h rfl, ?_⟩
 conv => whnf
 exact fin_val rfl fun w' hB => ⟨rfl, hB⟩
abbrev atV (sb n : Nat) (a : Int) : Value := .pointer (if a / 256 < (n : Int) then some ⟨sb, 0 + (a / 256).toNat * 7, none⟩ else none)
set_option maxRecDepth 100000 in
theorem at_mem (a : Int) (h : w.heap[m]? = some (.cells #[.slice (some ⟨sb, 0, none⟩) l.length l.length, .bool false] 163 (0, 0))) (ha : word a) : Calls Tryz.prog 112 #[ptrV m, .int .u32 a] w fun e w' => e = .returned (atV sb l.length a) ∧ Below w.heap.size w w' := by
 have hw : 0 ≤ a ∧ a < 4294967296 := ha
 refine calls_valN [ptrV m, .int .u32 a] Tryz.func112 Tryz.ntmps112 rfl (by simp) ?_
 conv => whnf
 refine ⟨by decide, a / 256, by rw [Int.tdiv_eq_ediv_of_nonneg hw.1, wr32]; omega, ?_⟩
 conv => whnf
 refine ⟨a / 256, wr64 (by omega), ?_⟩
 conv => whnf
 refine call_con rfl (by kernel_rfl) (fun r w' hR => pages_mem (by rw [hR.toBelow.block _ (heap_lt h)]; exact h)) ?_
 conv => whnf
 refine ⟨fun hc => ?_, fun hc => ?_⟩
 ·have : ¬ a / 256 < (l.length : Int) := by simp at hc; omega
  conv => whnf
  exact fin_val rfl fun w' hB => ⟨by unfold atV; rw [if_neg this], hB⟩
 ·have hlt : a / 256 < (l.length : Int) := by simp at hc; omega
  conv => whnf
  refine ⟨_, block_cells (us := [.slice (some ⟨sb, 0, none⟩) l.length l.length, .bool false]) h rfl, ?_⟩
  conv => whnf
  (refine ⟨⟨by omega, by omega⟩, ?_⟩; (conv=>whnf))
  exact fin_val rfl fun w' hB => ⟨by unfold atV; rw [if_pos hlt]; rfl, hB⟩
end
end Go.Proofs.YtnhdcclpjildjaaGreat
namespace Go.Proofs.YtnhdcclpjildjaaGreat
open Go.RowKit

theorem shapes_len : shapesL.length = 448 := by kernel_rfl
set_option maxRecDepth 100000 in
set_option maxHeartbeats 4000000 in
theorem shapes_at {op : Int} (h : 0 ≤ op ∧ op < 64) : cut (shapesL.map CV.v) (0 + op.toNat * 7) 7 = some ((shL (qForm op)).map CV.v) := by
 rcases ops64 h with rfl | rfl | rfl | rfl | rfl | rfl | rfl | rfl | rfl | rfl | rfl | rfl | rfl | rfl | rfl | rfl | rfl | rfl | rfl | rfl | rfl | rfl | rfl | rfl | rfl | rfl | rfl | rfl | rfl | rfl | rfl | rfl | rfl | rfl | rfl | rfl | rfl | rfl | rfl | rfl | rfl | rfl | rfl | rfl | rfl | rfl | rfl | rfl | rfl | rfl | rfl | rfl | rfl | rfl | rfl | rfl | rfl | rfl | rfl | rfl | rfl | rfl | rfl | rfl
 all_goals kernel_rfl
set_option maxRecDepth 100000 in
set_option maxHeartbeats 2000000 in
theorem of_walk (op : Int) (w : World) (h : 0 ≤ op ∧ op < 64) : Calls Tryz.prog 114 #[intV op] w fun e w' => e = .returned (shV (qForm op)) ∧ Below w.heap.size w w' := by
 obtain ⟨u, hu⟩ : ∃ u, u = shapesL := ⟨_, rfl⟩
 have hl : (List.map CV.v u).length = 448 := by rw [hu, List.length_map, shapes_len]
 have hfl : u.all flatV = true := hu ▸ shapes_flat
 have hat := shapes_at h
 rw [← hu] at hat
 refine calls_satq [intV op] Tryz.func114 Tryz.ntmps114 rfl (by simp) ?_
 refine satq_seqN ?_
 conv => whnf
 refine satq_seqN ?_
 conv => whnf
 refine call_con (xs := []) (x := .agg u.toArray) rfl (by kernel_rfl) (fun r w' _ => by rw [hu]; exact shapes_walk w') ?_
 conv => whnf
 rw [show Nat.beq (List.map CV.v u.toArray.toList).length (Tryz.prog.types[195].size) = true from by rw [show (List.map CV.v u.toArray.toList).length = 448 from hl]; rfl, show ∀ S, onesL S (List.map CV.v u.toArray.toList) = true from fun S => onesL_flat S u hfl]
 conv => whnf
 rw [show (List.map CV.v u.toArray.toList).length = 448 from hl]
 conv => whnf
 rw [setAll_same (show _ = (List.map CV.v u.toArray.toList).length from by rw [show (List.map CV.v u.toArray.toList).length = 448 from hl]; kernel_rfl)]
 refine satq_as (f' := [(0, one (intV op)), (2, .p (.c (.ref 0 0))), (3, .p (.c (.ref 1 0)))]) (S' := [.cells 189 ([Value.bool false, .bool false, .bool false, .bool false, intV 0, intV 0, .int .u32 0].map .v), .cells 195 (u.map .v)]) (ent_same rfl (aI rfl (aI rfl (aI rfl trivial))) (aI sM (aI sM trivial))) ?_
 refine satq_seqN ?_
 conv => whnf
 refine ⟨fun hc => ?_, fun hc => absurd hc (by simp; omega)⟩
 conv => whnf
 (repeat ((first | apply k1 | apply k2 | apply k3 | apply k4 | refine k5 (by decide) ?_ | refine k6 (by decide) ?_); conv => whnf))
 refine ⟨fun hc => absurd hc (by simp; omega), fun _ => ?_⟩
 conv => whnf
 refine satq_seqN ?_
 conv => whnf
 (refine ⟨⟨by omega, by omega⟩, ?_⟩; (conv=>whnf))
 rw [show cut (List.map CV.v u) (0 + op.toNat * tsz Tryz.prog 189) (Tryz.prog.types[189].size) = some ((shL (qForm op)).map CV.v) from hat]
 conv => whnf
 refine satq_vcN ?_
 conv => whnf
 refine atq_ret ?_
 conv => whnf
 exact fin_val rfl fun w' hB => ⟨rfl, hB⟩
end Go.Proofs.YtnhdcclpjildjaaGreat
namespace Go.Proofs.YtnhdcclpjildjaaGreat
open Go.RowKit

structure LiftAt (w : World) (g : Nat) (vA vP vO : Value) (l : List BOp) : Prop where
 blk : w.heap[g]? = some (.cells #[vA, vP, vO] 138 (0, 0))
 row : w.ownsRow 0 45 5 vO l.length (l.flatMap opC)
 far : vO.ownBlock ≠ some g
structure LiftTo (w w' : World) (g : Nat) (vA vP vO : Value) (l' : List BOp) : Prop where
 out : ∃ vO', LiftAt w' g vA vP vO' l' ∧ ∀ b, vO'.ownBlock = some b → vO.ownBlock = some b ∨ w.heap.size ≤ b
 os : w'.os = w.os
 tape : w'.tape = w.tape
 output : w'.output = w.output
 size : w.heap.size ≤ w'.heap.size
 block : ∀ b, b < w.heap.size → b ≠ g → vO.ownBlock ≠ some b → w'.heap[b]? = w.heap[b]?
def liftE (g : Nat) (vO : Value) : Env := ⟨fun i => if i = 0 then some g else if i = 1 then vO.ownBlock else none, fun i => if i = 1 then some vO else none⟩
abbrev liftG (g : Nat) (vO : Value) : Gs := ⟨[g], vO.ownBlock.toList⟩
abbrev liftU (vA vP : Value) (l : List BOp) : List Ow := [.cells 138 [.v vA, .v vP, .row 1], .row 45 5 l.length (l.flatMap opC)]
section
variable {w : World} {g : Nat} {vA vP vO : Value} {l : List BOp}
theorem rel_lift (h : LiftAt w g vA vP vO l) : Rel w (liftG g vO) (liftU vA vP l) (liftE g vO) w := by
 have hn := own_new h.row
 refine ⟨rfl, rfl, rfl, Nat.le_refl _, fun _ _ _ => rfl, fun i o ho => ?_, fun i j b hi hj => ?_, fun i b hb => ?_, fun i hi => ?_, fun i hi => ?_, fun i x hx => ?_⟩
 ·match i with
  | 0 => simp at ho; subst ho; exact ⟨g, _, rfl, h.blk, ⟨_, _, rfl, rfl, _, _, rfl, rfl, _, _, rfl, rfl, rfl⟩⟩
  | 1 => simp at ho; subst ho; exact ⟨vO, rfl, rfl, h.row⟩
  | i + 2 => simp at ho
 ·match i, j with
  | 0, 0 => rfl
  | 1, 1 => rfl
  | 0, 1 => simp [liftE] at hi hj; subst hi; exact absurd hj h.far
  | 1, 0 => simp [liftE] at hi hj; subst hj; exact absurd hi h.far
  | i + 2, _ => simp [liftE] at hi
  | 0, j + 2 => simp [liftE] at hj
  | 1, j + 2 => simp [liftE] at hj
 ·match i with
  | 0 =>
   simp [liftE] at hb; subst hb
   refine ⟨?_, fun _ => .inl (by simp)⟩
   rcases Nat.lt_or_ge g w.heap.size with h1 | h1
   ·exact h1
   ·have := h.blk; rw [Array.getElem?_eq_none h1] at this; cases this
  | 1 =>
   simp [liftE] at hb
   exact ⟨(hn b hb).2, fun _ => .inr (by simp [hb])⟩
  | i + 2 => simp [liftE] at hb
 ·match i with
  | 0 => simp at hi
  | 1 => simp at hi
  | i + 2 => simp [liftE]
 ·match i with
  | 0 => simp at hi
  | 1 => simp at hi
  | i + 2 => simp [liftE]
 ·match i with
  | 0 => simp at hx; subst hx; rfl
  | i + 1 => simp at hx
theorem fin_lift {S : List Ow} {v : AV} {x : Value} {l' : List BOp} {R : Ending → World → Prop} (hv : v.val = some x) (h0 : S[0]? = some (.cells 138 [.v vA, .v vP, .row 1])) (h1 : S[1]? = some (.row 45 5 l'.length (l'.flatMap opC))) (h : ∀ w', LiftTo w w' g vA vP vO l' → R (.returned x) w') : Fin w (liftG g vO) S v R := by
 refine ⟨fun r w' u hR hd => ?_⟩
 rw [AV.val_den hv hd]
 refine h w' ⟨?_, hR.os, hR.tape, hR.output, hR.size, fun b hb hne hno => hR.old b hb ?_⟩
 ·obtain ⟨b, us, e1, e2, e3⟩ := hR.own 0 _ h0
  have f0 := hR.first 0 g rfl
  rw [f0] at e1; injection e1 with e1; subst e1
  obtain ⟨u1, l1, rfl, d1, u2, l2, rfl, d2, u3, l3, rfl, d3, d4⟩ := e3
  obtain rfl : l3 = [] := d4
  obtain rfl : u1 = vA := d1
  obtain rfl : u2 = vP := d2
  obtain ⟨vO', k1, k2, k3⟩ := hR.own 1 _ h1
  have d3 : r.val 1 = some u3 := d3
  rw [d3] at k1; injection k1 with k1; subst k1
  refine ⟨u3, ⟨e2, k3, fun e => ?_⟩, fun b hb => ?_⟩
  ·rw [k2] at e
   have := hR.inj 0 1 g f0 e
   omega
  ·rw [k2] at hb
   rcases Nat.lt_or_ge b w.heap.size with h2 | h2
   ·rcases (hR.new 1 b hb).2 h2 with h3 | h3
    ·simp at h3; subst h3
     have := hR.inj 0 1 b f0 hb
     omega
    ·simp at h3; exact .inl h3
   ·exact .inr h2
 ·rintro (h2 | h2)
  ·simp at h2; exact hne h2
  ·simp at h2; exact hno h2
set_option maxRecDepth 100000 in
theorem add_walk (h : LiftAt w g vA vP vO l) (ops : List BOp) (q n c : Nat) (hq : CellsAt w (liftG g vO) q 0 (ops.flatMap opC)) (hn : ops.length = n) (hlen : l.length + n ≤ 1000000000) :
  Calls Tryz.prog 71 #[.pointer (some ⟨g, 0, none⟩), .slice (some ⟨q, 0, none⟩) n c] w fun e w' => e = .returned (.tuple #[]) ∧ LiftTo w w' g vA vP vO (l ++ ops) := by
 refine calls_satq_rel [.p (.c (.ref 0 0)), one (.slice (some ⟨q, 0, none⟩) n c)] [.pointer (some ⟨g, 0, none⟩), .slice (some ⟨q, 0, none⟩) n c] Tryz.func71 Tryz.ntmps71 rfl (by simp) (rel_lift h) ⟨_, _, rfl, den_mk_ref rfl, avdenL_of [.slice (some ⟨q, 0, none⟩) n c]⟩ ?_
 refine satq_vcN ?_
 conv => whnf
 refine appK_sound rfl ?_ rfl
 conv => whnf
 refine ⟨ops.flatMap opC, fun j u hj => ⟨q, 0, rfl, hq.1, hq.2.1, hq.2.2 j u hj⟩, ?_, ?_, ?_⟩
 ·show _ = n * 5
  rw [← hn]
  clear hq hn hlen
  induction ops with
  | nil => rfl
  | cons o ops ih => rw [List.flatMap_cons, List.length_append, ih, List.length_cons]; show 5 + ops.length * 5 = _; omega
 ·intro u hu
  obtain ⟨o, _, ho⟩ := List.mem_flatMap.1 hu
  simp only [opC, List.mem_cons, List.not_mem_nil, or_false] at ho
  rcases ho with rfl | rfl | rfl | rfl | rfl <;> rfl
 ·conv => whnf
  refine ⟨by omega, ?_⟩
  conv => whnf
  refine atq_end ?_
  conv => whnf
  refine fin_lift rfl rfl ?_ fun w' h' => ⟨rfl, h'⟩
  show some (Ow.row _ _ (l.length + n) (l.flatMap opC ++ ops.flatMap opC)) = _
  rw [List.flatMap_append, List.length_append, hn]
  rfl
end
end Go.Proofs.YtnhdcclpjildjaaGreat
namespace Go.Proofs.YtnhdcclpjildjaaGreat
open Go.RowKit

def WrOk (w w' : World) (sb off d : Nat) (od : Bool) (us : List Value) (pg : List Int) (d' : Nat) : Prop :=
 (od = true ∧ d' = d ∧ Below w.heap.size w w') ∨
 (od = false ∧ w.heap.size ≤ d' ∧ w'.heap[d']? = some (.cells (pg.map byteV).toArray 166 (0, 0)) ∧ w'.heap[sb]? = some (.cells ((us.set off (ptrV d')).set (off + 2) (.bool true)).toArray 168 (0, 0)) ∧ w.grownBy w' (some sb))
theorem byteV_flat (S : List Ow) : ∀ us : List Int, onesL S (List.map CV.v (us.map byteV)) = true
 | [] => rfl
 | u :: us => by
  show (match oneS S (.v (.int .u8 u)) with | true => onesL S (List.map CV.v (us.map byteV)) | false => false) = true
  exact byteV_flat S us
set_option maxRecDepth 100000 in
set_option maxHeartbeats 1000000 in
theorem writable_walk (w : World) (sb off d : Nat) (od : Bool) (us : List Value) (pg : List Int) (hs : w.heap[sb]? = some (.cells us.toArray 168 (0, 0))) (hd : us[off]? = some (ptrV d)) (ho : us[off + 2]? = some (.bool od)) (hp : PageAt w d pg) (h8 : 8 < us.length) :
  Calls Tryz.prog 113 #[.pointer (some ⟨sb, off, none⟩)] w fun e w' => ∃ d', e = .returned (ptrV d') ∧ WrOk w w' sb off d od us pg d' := by
 cases od with
 | true =>
  refine (calls_valN [.pointer (some ⟨sb, off, none⟩)] (R := fun e w' => e = .returned (ptrV d) ∧ Below w.heap.size w w') Tryz.func113 Tryz.ntmps113 rfl (by simp) ?_).mono fun e w' h => ⟨d, h.1, .inl ⟨rfl, rfl, h.2⟩⟩
  conv => whnf
  refine ⟨_, block_cells hs ho, ?_⟩
  conv => whnf
  (repeat ((first | apply k1 | apply k2 | apply k3 | apply k4 | refine k5 (by decide) ?_ | refine k6 (by decide) ?_); conv => whnf))
  conv => whnf
  refine ⟨_, block_cells hs (off := off + 0) hd, ?_⟩
  conv => whnf
  exact fin_val rfl fun w' hB => ⟨rfl, hB⟩
 | false =>
  have hne : d ≠ sb := fun e => by
   have := hp.at_
   rw [e, hs] at this
   injection this with this
   injection this with h1 h2
   cases h2
  have hlen : (List.map CV.v (pg.map byteV)).length = 256 := by rw [List.length_map, List.length_map, hp.len]
  have hlo : off + 2 < us.length := by
   rcases Nat.lt_or_ge (off + 2) us.length with h1 | h1
   ·exact h1
   ·rw [List.getElem?_eq_none h1] at ho; cases ho
  have hpc : CellsAt w ⟨[sb], []⟩ d 0 (pg.map byteV) := by
   refine ⟨heap_lt hp.at_, ?_, fun j u hj => by simp [World.cell?, hp.at_, hj]⟩
   rintro (h1 | h1)
   ·simp at h1; exact hne h1
   ·cases h1
  have g0 : (List.map CV.v us)[off + 0]? = some (.v (ptrV d)) := by rw [Nat.add_zero, List.getElem?_map, hd]; rfl
  have g2 : (List.map CV.v us)[off + 2]? = some (.v (.bool false)) := by rw [List.getElem?_map, ho]; rfl
  refine calls_satq_rel [.p (.c (.ref 0 off))] [.pointer (some ⟨sb, off, none⟩)] Tryz.func113 Tryz.ntmps113 rfl (by simp) (rel_own1 w hs) ⟨_, _, rfl, den_mk_ref rfl, rfl⟩ ?_
  refine satq_seqN ?_
  conv => whnf
  refine satq_cut (α := Unit) (fun _ => [(0, .p (.c (.ref 0 off))), (3, .p (.c (.ref 1 0)))]) (fun _ => [.cells 168 (((us.map CV.v).set off (.ref 1 0)).set (off + 2) (.v (.bool true))), .cells 166 ((pg.map byteV).map .v)]) ?_ fun _ => ?_
  ·conv => whnf
   erw [g2]
   conv => whnf
   (repeat ((first | apply k1 | apply k2 | apply k3 | apply k4 | refine k5 (by decide) ?_ | refine k6 (by decide) ?_); conv => whnf))
   conv => whnf
   erw [g0]
   conv => whnf
   refine ⟨_, hpc, by rw [List.length_map, hp.len]; rfl, ?_⟩
   conv => whnf
   rw [show Nat.beq (List.map CV.v (List.map byteV pg)).length (Tryz.prog.types[166].size) = true from by rw [hlen]; rfl, byteV_flat]
   conv => whnf
   rw [hlen]
   conv => whnf
   have hul : (List.map CV.v us).length = us.length := List.length_map _
   erw [show Nat.ble (off + 0 + 1) (List.map CV.v us).length = true from Nat.ble_eq_true_of_le (by rw [hul]; omega)]
   conv => whnf
   erw [show Nat.ble (List.map CV.v us).length 8 = false from by rw [hul]; exact ble_no h8]
   conv => whnf
   have hul2 : (setAll (List.map CV.v us) (off + 0) [CV.ref 1 0]).length = us.length := by rw [setAll_length, hul]
   erw [show Nat.ble (off + 2 + 1) (setAll (List.map CV.v us) (off + 0) [CV.ref 1 0]).length = true from Nat.ble_eq_true_of_le (by rw [hul2]; omega)]
   conv => whnf
   erw [show Nat.ble (setAll (List.map CV.v us) (off + 0) [CV.ref 1 0]).length 8 = false from by rw [hul2]; exact ble_no h8]
   conv => whnf
   exact ⟨(), ent_same rfl (aI rfl (aI rfl trivial)) (aI sM (aI ((aI rfl (Or.inl (setAll_same (by rw [hlen]; kernel_rfl))))) trivial))⟩
  ·have hL : (((List.map CV.v us).set off (.ref 1 0)).set (off + 2) (.v (.bool true)))[off + 0]? = some (CV.ref 1 0) := by
    rw [List.getElem?_set_ne (by omega), Nat.add_zero, List.getElem?_set_self (by rw [List.length_map]; omega)]
   refine satq_vcN ?_
   conv => whnf
   erw [hL]
   conv => whnf
   refine atq_ret ?_
   conv => whnf
   refine ⟨fun r w' u hR hd => ?_⟩
   obtain ⟨d', hb, rfl⟩ := den_ref hd
   refine ⟨d', rfl, .inr ⟨rfl, ?_, ?_, ?_, hR.grown⟩⟩
   ·have h1 := (hR.new 1 d' hb)
    rcases Nat.lt_or_ge d' w.heap.size with h2 | h2
    ·have h3 := h1.2 h2
     rcases h3 with h3 | h3
     ·simp at h3
      subst h3
      have h4 := hR.first 0 d' rfl
      have := hR.inj 0 1 d' h4 hb
      omega
     ·cases h3
    ·exact h2
   ·obtain ⟨b', vs, e1, e2, e3⟩ := hR.own 1 _ rfl
    rw [hb] at e1; injection e1 with e1; subst e1
    rw [e2, denL_vals_inv e3]
   ·obtain ⟨b', vs, e1, e2, e3⟩ := hR.own 0 _ rfl
    have h4 := hR.first 0 sb rfl
    rw [h4] at e1; injection e1 with e1; subst e1
    have e4 : denL r (((List.map CV.v us).set off (.ref 1 0)).set (off + 2) (.v (.bool true))) ((us.set off (ptrV d')).set (off + 2) (.bool true)) :=
     denL_set (off + 2) (denL_set off (denL_vals us) (by simp only [CV.den]; exact ⟨d', hb, rfl⟩)) (by simp only [CV.den])
    have e5 : vs = (us.set off (ptrV d')).set (off + 2) (.bool true) := by
     refine denL_det (n := 2) (fun c hc => ?_) e3 e4
     rcases List.mem_or_eq_of_mem_set hc with h5 | h5
     ·rcases List.mem_or_eq_of_mem_set h5 with h6 | h6
      ·obtain ⟨v, _, rfl⟩ := List.mem_map.1 h6; rfl
      ·rw [h6]; rfl
     ·rw [h5]; rfl
    rw [e2, e5]
end Go.Proofs.YtnhdcclpjildjaaGreat
