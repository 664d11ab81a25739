/- Regions with guards within guards, by cases; calls that turn the world, and loops over what is known. -/
import Derived.Shelf.Sort.Plain
import Derived.Shelf.Slices.CompactI
import Derived.Shelf.Slices.In.SortNone
import Derived.Sort.OwnSortedInts
import Derived.Lib.OwnBridge
import Derived.Test.YtnhdcclpjildjaaGreatC10
namespace Go.Proofs.YtnhdcclpjildjaaGreat
open Go.RowKit

def guardedN (P : Program) (w0 : World) (G : Gs) (N : Nd) (ops : Array Oper) : List Oper → Fr → List Ow → (Fr → List Ow → Prop) → Prop
 | [], f, S, K => K f S
 | o :: l, f, S, K => match o.guard with
  | none => opK P w0 G N o f S fun f' S' => guardedN P w0 G N ops l f' S' K
  | some (j, pol) => (match slotOf ops j with
   | none => False
   | some d => (match f.get d with
    | .p (.c (.v (.bool x))) => (x = pol → opK P w0 G N o ((d, one (.bool pol)) :: f) S fun f' S' => guardedN P w0 G N ops l f' S' K) ∧
      (x = (!pol) → match dstOk N.n o.dst with | true => (Fr.putK ((d, one (.bool (!pol))) :: f) o.dst (one undef) fun f' => guardedN P w0 G N ops l f' S K) | false => False)
    | .p (.c (.v (.tuple _))) => (match dstOk N.n o.dst with | true => (f.putK o.dst (one undef) fun f' => guardedN P w0 G N ops l f' S K) | false => False)
    | _ => False))
section
variable {P : Program} {w0 : World} {G : Gs} {N : Nd} {c d : Code} {f : Fr} {S : List Ow} {Q : Exit → Act → World → Prop}
theorem guardedN_sound {ops : Array Oper} {Q : Act → World → Prop} : ∀ (l : List Oper) (f : Fr) (S : List Ow) (K : Fr → List Ow → Prop), guardedN P w0 G N ops l f S K → (∀ f' S' a' w', K f' S' → Good w0 G N f' S' a' w' → Q a' w') →
  ∀ a w, Good w0 G N f S a w → seL P ops Q l a w
 | [], f, S, K, h, hK, a, w, hg => hK _ _ _ _ h hg
 | o :: l, f, S, K, h, hK, a, w, hg => by
  unfold guardedN at h
  split at h
  ·rename_i hgd
   obtain ⟨r, hR, hf, hN, hd⟩ := hg
   exact step_do (wanted_none hgd _) ((opK_sound h).out r a w hR hf hN hd _ (fun _ _ _ => True) fun f' S' a' w' hk hg' => guardedN_sound l f' S' K hk hK a' w' hg')
  ·rename_i j pol hgd
   split at h
   ·exact h.elim
   ·rename_i d hs
    split at h
    ·rename_i x hfx
     obtain ⟨h1, h2⟩ := h
     by_cases hx : x = pol
     ·obtain ⟨r, hR, hf, hN, hd⟩ := hg.known (d := d) (x := one (.bool pol)) (by rw [hfx, hx])
      refine step_do ?_ ((opK_sound (h1 hx)).out r a w hR hf hN hd _ (fun _ _ _ => True) fun f' S' a' w' hk hgd => guardedN_sound l f' S' K hk hK a' w' hgd)
      rw [wanted_some hgd, yielded_of hf hs (get_cons_self d _ f)]; simp
     ·have hx' : x = !pol := by cases x <;> cases pol <;> simp_all
      have h2 := h2 hx'
      obtain ⟨r, hR, hf, hN, hd⟩ := hg.known (d := d) (x := one (.bool (!pol))) (by rw [hfx, hx'])
      split at h2
      ·rename_i hdst
       refine step_not ?_ (guardedN_sound l _ S K (putK_iff.1 h2) hK _ _ ⟨r, hR, hf.put (den_one _ _) (by rw [hN]; exact hdst), (put_size a _ _).trans hN, (put_defers a _ _).trans hd⟩)
       rw [wanted_some hgd, yielded_of hf hs (get_cons_self d _ f)]; cases pol <;> simp
      ·exact h2.elim
    ·rename_i vs hfx
     obtain ⟨r, hR, hf, hN, hd⟩ := hg
     have hgu : guardU ops f o = some false := by unfold guardU; rw [hgd]; dsimp only; rw [hs]; dsimp only; rw [hfx]
     have hw := guardU_wanted hf hgu
     split at h
     ·rename_i hdst
      exact step_not hw (guardedN_sound l _ S K (putK_iff.1 h) hK _ _ ⟨r, hR, hf.put (den_one _ _) (by rw [hN]; exact hdst), (put_size a _ _).trans hN, (put_defers a _ _).trans hd⟩)
     ·exact h.elim
    ·exact h.elim
theorem atq_end {fn : Func} {N : Nat} {R : Ending → World → Prop} (h : resK P w0 G S f fn.results.toList fun v => Fin w0 G S v R) : AtQ w0 G ⟨N, []⟩ .normal f S (bodyPostM Fence.wide 10 P fn R) := by
 refine ⟨fun a w ⟨r, hR, hf, hN, hd⟩ => ?_⟩
 obtain ⟨v, u, hK, hdn, hrun⟩ := resK_sound h hR hf
 show LeavesInM _ _ _ _ _ _ a.defers _ _
 rw [show a.defers = [] from hd]
 exact ⟨u, hrun, hK.out r w u hR hdn⟩
end
section
variable (ro : Option Nat) (P : Program) (w0 : World) (G : Gs) (N : Nd)
def vcN : Code → Fr → List Ow → (Exit → Fr → List Ow → Prop) → Prop
 | .skip, f, S, K => K .normal f S
 | .region id ops draw, f, S, K => (match draw with
  | false => guardedN P w0 G N ops ops.toList f S (K .normal)
  | true => Sat ro P w0 G N (.region id ops true) f S K)
 | .seq a b, f, S, K => vcN a f S fun e f' S' => match e with | .normal => vcN b f' S' K | e => K e f' S'
 | .cond c x y, f, S, K => (match f.ev c with
  | .p (.c (.v (.bool t))) => (t = true → vcN x f S K) ∧ (t = false → vcN y f S K)
  | _ => False)
 | .block id body, f, S, K => vcN body f S fun e f' S' => match e with
  | .exit id' => (match Nat.beq id' id with | true => K .normal f' S' | false => K (.exit id') f' S')
  | e => K e f' S'
 | .exit id, f, S, K => K (.exit id) f S
 | .ret, f, S, K => K .ret f S
 | c, f, S, K => Sat ro P w0 G N c f S K
end
section
variable {ro : Option Nat} {P : Program} {w0 : World} {G : Gs} {N : Nd}
theorem vcN_sound : ∀ (c : Code) (f : Fr) (S : List Ow) (K : Exit → Fr → List Ow → Prop), vcN ro P w0 G N c f S K → Sat ro P w0 G N c f S K
 | .skip, f, S, K, h => ⟨fun n a w hg => wpIn_skip ⟨f, S, h, hg⟩⟩
 | .region id ops draw, f, S, K, h => by
  cases draw with
  | false => exact ⟨fun n a w hg => wpIn_region_list (seL_wpIn ro n (guardedN_sound _ f S _ h (fun f' S' a' w' hk hg' => ⟨f', S', hk, hg'⟩) a w hg))⟩
  | true => exact h
 | .seq x y, f, S, K, h => ⟨fun n a w hg => wpIn_seq (wpIn_mono ((vcN_sound x f S _ h).out n a w hg) (fun e a' w' ⟨f', S', hk, hg'⟩ => by
   cases e with
   | normal => exact (vcN_sound y f' S' K hk).out n a' w' hg'
   | exit id => exact ⟨f', S', hk, hg'⟩
   | goto l => exact ⟨f', S', hk, hg'⟩
   | ret => exact ⟨f', S', hk, hg'⟩
   | panic ch => exact ⟨f', S', hk, hg'⟩
   | outgrown => exact ⟨f', S', hk, hg'⟩))⟩
 | .cond c x y, f, S, K, h => ⟨fun n a w hg => by
   unfold vcN at h
   split at h
   ·rename_i t ht
    obtain ⟨r, hR, hf, hN, hd⟩ := hg
    have hc := hf.ev c
    rw [ht] at hc
    have hc := den_v hc
    refine wpIn_cond_split hc (fun e => (vcN_sound x f S K (h.1 e)).out n a w ⟨r, hR, hf, hN, hd⟩) (fun e => (vcN_sound y f S K (h.2 e)).out n a w ⟨r, hR, hf, hN, hd⟩)
   ·exact h.elim⟩
 | .block id c, f, S, K, h => ⟨fun n a w hg => wpIn_block (wpIn_mono ((vcN_sound c f S _ h).out n a w hg) (fun e a' w' ⟨f', S', hk, hg'⟩ => by
   cases e with
   | exit id' =>
    simp only [Exit.inBlock]
    by_cases hi : id' = id
    ·subst hi; simp only [Nat.beq_refl] at hk; rw [if_pos rfl]; exact ⟨f', S', hk, hg'⟩
    ·have hb : Nat.beq id' id = false := by
      cases h2 : Nat.beq id' id
      ·rfl
      ·exact absurd (Nat.eq_of_beq_eq_true h2) hi
     simp only [hb] at hk; rw [if_neg hi]; exact ⟨f', S', hk, hg'⟩
   | normal => exact ⟨f', S', hk, hg'⟩
   | goto l => exact ⟨f', S', hk, hg'⟩
   | ret => exact ⟨f', S', hk, hg'⟩
   | panic ch => exact ⟨f', S', hk, hg'⟩
   | outgrown => exact ⟨f', S', hk, hg'⟩))⟩
 | .loop c, f, S, K, h => h
 | .exit id, f, S, K, h => ⟨fun n a w hg => wpIn_exit ⟨f, S, h, hg⟩⟩
 | .ret, f, S, K, h => ⟨fun n a w hg => wpIn_ret ⟨f, S, h, hg⟩⟩
 | .rangeFunc _ _ _ _, f, S, K, h => h
 | .scope _, f, S, K, h => h
 | .label _, f, S, K, h => h
 | .goto _, f, S, K, h => h
 | .refuse _, f, S, K, h => h
end
section
variable {P : Program} {w0 : World} {G : Gs} {N : Nd} {c d : Code} {f : Fr} {S : List Ow} {Q : Exit → Act → World → Prop}
theorem satq_vcN (h : vcN none P w0 G N c f S fun e f S => AtQ w0 G N e f S Q) : SatQ P w0 G N c f S Q :=
 ⟨fun a w hg => wpIn_mono ((vcN_sound (ro := none) c f S _ h).out 10 a w hg) fun _e a' w' ⟨_f', _S', hk, hg'⟩ => hk.out a' w' hg'⟩
theorem satq_seqN (h : vcN none P w0 G N c f S fun e f S => match e with | .normal => SatQ P w0 G N d f S Q | e => AtQ w0 G N e f S Q) : SatQ P w0 G N (.seq c d) f S Q :=
 ⟨fun a w hg => wpIn_seq (wpIn_mono ((vcN_sound (ro := none) c f S _ h).out 10 a w hg) fun e a' w' ⟨f', S', hk, hg'⟩ => by
  cases e with
  | normal => exact hk.out a' w' hg'
  | exit id => exact hk.out a' w' hg'
  | goto l => exact hk.out a' w' hg'
  | ret => exact hk.out a' w' hg'
  | panic ch => exact hk.out a' w' hg'
  | outgrown => exact hk.out a' w' hg')⟩
end
theorem bodyPost_of {P : Program} {fn : Func} {w0 : World} {G : Gs} {N : Nat} {R : Ending → World → Prop} {e : Exit} {f : Fr} {S : List Ow} (h : RetK P w0 G fn.results.toList R e f S) : AtQ w0 G ⟨N, []⟩ e f S (bodyPostM Fence.wide 10 P fn R) := by
 cases e with
 | normal => exact atq_end h
 | ret => exact atq_ret h
 | exit id => exact h.elim
 | goto l => exact h.elim
 | panic ch => exact h.elim
 | outgrown => exact h.elim
theorem calls_valN {P : Program} {fid : FuncId} {fn : Func} {c : Code} {N : Nat} {w0 : World} (xs : List Value) (hf : P.funcs[fid]? = some fn) (hN : fn.ntmps = N) (hb : fn.body = some c) (hle : xs.length ≤ N) {R : Ending → World → Prop}
  (h : vcN none P w0 Gs.nil ⟨N, []⟩ c (argFr (xs.map fun x => AV.of x) 0) [] (RetK P w0 Gs.nil fn.results.toList R)) : Calls P fid xs.toArray w0 R :=
 calls_satq xs hf hN hb hle ⟨fun a w hg => wpIn_mono ((vcN_sound (ro := none) c _ _ _ h).out 10 a w hg) fun _e a' w' ⟨_f', _S', hk, hg'⟩ => (bodyPost_of hk).out a' w' hg'⟩

/-! What is plain of a frame; calls that turn the world. -/
def Pc.plB : Pc → Bool
 | .c x => x.fx (fun _ => false)
 | .agg l => fxL (fun _ => false) l
def pplL : List Pc → Bool
 | [] => true
 | c :: l => match c.plB with | true => pplL l | false => false
def AV.plB : AV → Bool
 | .p x => x.plB
 | .tup l => pplL l
def plF : Fr → Fr
 | [] => []
 | (d, x) :: f => match x.plB with | true => (d, x) :: plF f | false => (d, .p (.c .any)) :: plF f
theorem Pc.den_pl {r r' : Env} : ∀ {c : Pc} {u : Value}, c.plB = true → c.den r u → c.den r' u
 | .c x, u, hp, hd => CV.den_fx (ok := fun _ => false) (fun i b hi => by cases hi) hp hd
 | .agg l, u, hp, hd => by obtain ⟨us, hu, hl⟩ := hd; exact ⟨us, hu, denL_fx (ok := fun _ => false) (fun i b hi => by cases hi) hp hl⟩
theorem pdenL_pl {r r' : Env} : ∀ {l : List Pc} {us : List Value}, pplL l = true → pdenL r l us → pdenL r' l us
 | [], us, _, hd => hd
 | c :: l, us, hp, hd => by
  unfold pplL at hp
  split at hp
  ·rename_i hc
   obtain ⟨u, l', hu, h1, h2⟩ := hd
   exact ⟨u, l', hu, Pc.den_pl hc h1, pdenL_pl hp h2⟩
  ·cases hp
theorem AV.den_pl {r r' : Env} : ∀ {x : AV} {u : Value}, x.plB = true → x.den r u → x.den r' u
 | .p x, u, hp, hd => Pc.den_pl hp hd
 | .tup l, u, hp, hd => by obtain ⟨us, hu, hl⟩ := hd; exact ⟨us, hu, pdenL_pl hp hl⟩
theorem plF_den {r r' : Env} {f : Fr} {a : Act} (hf : FDen r f a) : FDen r' (plF f) a := by
 have key : ∀ f : Fr, ∀ k u, (f.get k).den r u → ((plF f).get k).den r' u := by
  intro f
  induction f with
  | nil => intro k u _; simp [plF, Fr.get, AV.den, Pc.den, CV.den]
  | cons p f ih =>
   obtain ⟨d, x⟩ := p
   intro k u h
   unfold plF
   cases hx : x.plB <;> cases hk : Nat.beq d k <;> simp only [Fr.get, hk] at h ⊢
   ·exact ih k u h
   ·simp [AV.den, Pc.den, CV.den]
   ·exact ih k u h
   ·exact AV.den_pl hx h
 exact fun k => key f k _ (hf k)
structure Jmp (P : Program) (w0 : World) (G : Gs) (fid : FuncId) (args : List AV) (S : List Ow) (K : Value → World → Prop) : Prop where
 ok : fnOk P fid = true
 out : ∀ r w us, Rel w0 G S r w → avdenL r args us → Calls P fid us.toArray w fun e w' => ∃ u, e = .returned u ∧ K u w'
def jmpK (P : Program) (w0 : World) (G : Gs) (o : Oper) (f : Fr) (S : List Ow) (K : Value → World → Prop) : Prop :=
 match o.op with
 | .call ⟨.value fn, args, _⟩ => (match f.ev fn with
  | .p (.c (.clo (.func fid) cap)) => evL f args.toList fun vs => Jmp P w0 G fid (vs ++ cap.map fun c => .p (.c c)) S K
  | .p (.c (.v (.func (.func fid) first cap))) => (match first.toList with
   | [] => evL f args.toList fun vs => Jmp P w0 G fid (vs ++ cap.toList.map fun c => AV.of c) S K
   | _ => False)
  | _ => False)
 | _ => False
section
variable {P : Program} {w0 : World} {G : Gs} {N : Nd} {c d : Code} {f : Fr} {S : List Ow} {Q : Exit → Act → World → Prop}
theorem jmpK_sound {o : Oper} {K : Value → World → Prop} (h : jmpK P w0 G o f S K) {r : Env} {w : World} (hR : Rel w0 G S r w) {a : Act} (hf : FDen r f a) {next : Act → World → Prop} (hK : ∀ u w', K u w' → next (a.put o.dst u) w') : Oper.se P o a w next := by
 unfold jmpK at h
 split at h
 ·rename_i fn args tys hop
  have hfn := hf.ev fn
  split at h
  ·rename_i fid cap he
   rw [he] at hfn
   obtain ⟨us, hu, hcap⟩ := den_clo hfn
   rw [evL_iff] at h
   obtain ⟨hok, hc⟩ := h
   have hrun : (execOp a.eval o).run P w = .ok (.enter fid ((args.map a.eval) ++ us.toArray)) w := by
    simp [execOp, hop, resolve, Deferred.ofValue, hu, invoke, run_callFunc hok]
   refine wp_of_enter hrun ?_
   have := hc r w ((args.toList.map a.eval) ++ us) hR (avdenL_append (avdenL_ev hf _) (avdenL_cap hcap))
   rw [show ((args.toList.map a.eval) ++ us).toArray = (args.map a.eval) ++ us.toArray by apply Array.ext'; simp] at this
   exact Calls.mono this fun e w' ⟨u, he, hk⟩ => ⟨u, he, hK u w' hk⟩
  ·rename_i fid first cap he
   rw [he] at hfn
   have hu := den_v hfn
   split at h
   ·rename_i hfst
    have ef : first = #[] := Array.ext' hfst
    rw [evL_iff] at h
    obtain ⟨hok, hc⟩ := h
    have hrun : (execOp a.eval o).run P w = .ok (.enter fid ((args.map a.eval) ++ cap)) w := by
     simp [execOp, hop, resolve, Deferred.ofValue, hu, ef, invoke, run_callFunc hok]
    refine wp_of_enter hrun ?_
    have := hc r w ((args.toList.map a.eval) ++ cap.toList) hR (avdenL_append (avdenL_ev hf _) (avdenL_of _))
    rw [show ((args.toList.map a.eval) ++ cap.toList).toArray = (args.map a.eval) ++ cap by apply Array.ext'; simp] at this
    exact Calls.mono this fun e w' ⟨u, he, hk⟩ => ⟨u, he, hK u w' hk⟩
   ·exact h.elim
  ·exact h.elim
 ·exact h.elim
theorem satq_jump {id : Nat} {ops : Array Oper} (k : Nat) {o : Oper} (hk : ops.toList.drop k = o :: ops.toList.drop (k + 1)) (hg : o.guard = none) (hdst : dstOk N.n o.dst = true)
  (h : guardedN P w0 G N ops (ops.toList.take k) f S fun f1 S1 => jmpK P w0 G o f1 S1 fun u w' => guardedN P w' Gs.nil N ops (ops.toList.drop (k + 1)) ((plF f1).put o.dst (AV.of u)) [] fun f2 S2 => AtQ w' Gs.nil N .normal f2 S2 Q) : SatQ P w0 G N (.region id ops false) f S Q :=
 ⟨fun a w hgd => wpIn_region_list (wpListIn_split none 10 k (guardedN_sound (Q := fun a w => ∃ f1 S1, (jmpK P w0 G o f1 S1 fun u w' => guardedN P w' Gs.nil N ops (ops.toList.drop (k + 1)) ((plF f1).put o.dst (AV.of u)) [] fun f2 S2 => AtQ w' Gs.nil N .normal f2 S2 Q) ∧ Good w0 G N f1 S1 a w) _ f S _ h (fun f' S' a' w' hk' hg' => ⟨f', S', hk', hg'⟩) a w hgd) (by
  rintro a w ⟨f1, S1, hj, r, hR, hf, hN, hd⟩
  rw [hk]
  unfold wpListIn
  rw [if_pos (wanted_none hg _)]
  refine se_wpIn none 10 (next := fun a w => wpListIn (fenceR none) 10 P ops Q (ops.toList.drop (k + 1)) a w) (jmpK_sound hj hR hf fun u w' hq => ?_) (fun a w h => h)
  exact seL_wpIn none 10 (guardedN_sound _ _ _ _ hq (fun f' S' a' w' hk' hg' => hk'.out a' w' hg') _ _ ⟨Env.none, rel_none w', (plF_den hf).put (AV.of_den _ _) (by rw [hN]; exact hdst), (put_size a _ _).trans hN, (put_defers a _ _).trans hd⟩)))⟩
theorem jmp_con {fid : FuncId} {args : List AV} {xs : List Value} {K : Value → World → Prop} (J : Value → World → Prop) (hx : avals args = some xs) (hok : fnOk P fid = true) (h : ∀ r w, Rel w0 G S r w → Calls P fid xs.toArray w fun e w' => ∃ u, e = .returned u ∧ J u w') (hK : ∀ u w', J u w' → K u w') : Jmp P w0 G fid args S K :=
 ⟨hok, fun r w us hR hd => by rw [avals_den hx hd]; exact (h r w hR).mono fun e w' ⟨u, he, hj⟩ => ⟨u, he, hK u w' hj⟩⟩
/-! A loop over what is known of the world. -/
def RoundW {α : Type} (N : Nd) (T : α → Fr) (J : α → World → Prop) (m : α → Nat) (n : Nat) (Q : Exit → Act → World → Prop) : Exit → Act → World → Prop := fun e a w => match e with
 | .normal => ∃ y, FDen Env.none (T y) a ∧ a.tmps.size = N.n ∧ a.defers = N.ds ∧ J y w ∧ m y < n
 | e => Q e a w
theorem satq_loopW {α : Type} (T : α → Fr) (J : α → World → Prop) (m : α → Nat) (x0 : α) (h0 : ∀ r w, Rel w0 G S r w → (∀ a, FDen r f a → FDen Env.none (T x0) a) ∧ J x0 w) (hround : ∀ x w, J x w → SatQ P w Gs.nil N c (T x) [] (RoundW N T J m (m x) Q)) : SatQ P w0 G N (.loop c) f S Q := by
 refine ⟨fun a w hg => ?_⟩
 intro b k cs hro hb hr
 have key : ∀ (n : Nat) (x : α), m x = n → ∀ a w, J x w → FDen Env.none (T x) a → a.tmps.size = N.n → a.defers = N.ds → ∃ e a' w', Q e a' w' ∧ ArrivesIn (Machine.fenced P Fence.wide) P (lone (b.atR a (.code c :: .inLoop c :: k)) cs w) b k cs e a' w' := by
  intro n
  induction n using Nat.strongRecOn with
  | _ n ih =>
   intro x hx a w hJ hf hN hd
   obtain ⟨e, a', w', hq, harr⟩ := (hround x w hJ).out a w ⟨Env.none, rel_none w, hf, hN, hd⟩ b (.inLoop c :: k) cs hro hb hr
   cases e with
   | normal =>
    obtain ⟨y, hf', hN', hd', hJ', hlt⟩ := hq
    obtain ⟨e2, a2, w2, hq2, harr2⟩ := ih (m y) (by omega) y rfl a' w' hJ' hf' hN' hd'
    exact ⟨e2, a2, w2, hq2, .of_steps (StepsIn.trans harr (.one (fenced_calm hb hr rfl) stepR_inLoop)) harr2⟩
   | exit id => exact ⟨_, a', w', hq, .pass (x := .inLoop c) rfl (fun _ _ => .inl (by simp)) harr⟩
   | goto l => exact ⟨_, a', w', hq, .pass (x := .inLoop c) rfl (fun _ _ => .inl (by simp)) harr⟩
   | ret => exact ⟨_, a', w', hq, .pass (x := .inLoop c) rfl (fun _ _ => .inl (by simp)) harr⟩
   | panic ch => exact ⟨_, a', w', hq, .pass (x := .inLoop c) rfl (fun _ _ => .inl (by simp)) harr⟩
   | outgrown => exact ⟨_, a', w', hq, .pass (x := .inLoop c) rfl (fun _ _ => .inl (by simp)) harr⟩
 obtain ⟨r, hR, hf, hN, hd⟩ := hg
 obtain ⟨h1, h2⟩ := h0 r w hR
 obtain ⟨e, a', w', hq, harr⟩ := key _ x0 rfl a w h2 (h1 a hf) hN hd
 exact ⟨e, a', w', hq, .of_steps (.one (fenced_calm hb hr rfl) stepR_loop) harr⟩
theorem atq_nextW {α : Type} {T : α → Fr} {J : α → World → Prop} {m : α → Nat} {n : Nat} (y : α) (hf : FLe (plF f) (T y)) (hJ : ∀ r w, Rel w0 G S r w → J y w) (hm : m y < n) : AtQ w0 G N .normal f S (RoundW N T J m n Q) :=
 ⟨fun _a w ⟨r, hR, hfd, hN, hd⟩ => ⟨y, hf.den (plF_den hfd), hN, hd, hJ r w hR, hm⟩⟩
theorem atq_outW {α : Type} {T : α → Fr} {J : α → World → Prop} {m : α → Nat} {n : Nat} {id : Nat} (h : AtQ w0 G N (.exit id) f S Q) : AtQ w0 G N (.exit id) f S (RoundW N T J m n Q) := ⟨fun a w hg => h.out a w hg⟩
end
end Go.Proofs.YtnhdcclpjildjaaGreat
namespace Go.Proofs.YtnhdcclpjildjaaGreat
open Go.RowKit

theorem sgn12 (n : Int) : sgnW n 12 = if 2048 ≤ n % 4096 then n % 4096 + 4294963200 else n % 4096 := rfl
theorem sgnW_w (n : Int) {b : Nat} (hb : sbits b) : word (sgnW n b) := by
 rcases hb with rfl | rfl | rfl
 ·rw [sgn12]; unfold word; split <;> omega
 ·exact sgnW_word n (.inr (.inl rfl)) (by omega)
 ·exact sgnW_word n (.inr (.inr rfl)) (by omega)
theorem wr_i32 {n : Int} (h : word n) : IntKind.i32.wrap n = signedI n := by
 unfold word at h
 have e : IntKind.i32.wrap n = if (true && decide (n % 4294967296 ≥ 2147483648)) = true then n % 4294967296 - 4294967296 else n % 4294967296 := rfl
 rw [e]
 unfold signedI
 have hm : n % 4294967296 = n := by omega
 rw [hm]
 by_cases hc : 2147483648 ≤ n
 ·rw [if_pos hc, if_pos (by simp; omega)]
 ·rw [if_neg hc, if_neg (by simp; omega)]
set_option maxRecDepth 100000 in
theorem sign_word (n : Int) (b : Nat) (w : World) (hn : word n) (hb : b = 18 ∨ b = 22) : Calls Tryz.prog 116 #[.int .u32 n, .int .i64 (b : Int)] w fun e w' => e = .returned (.int .u32 (sgnW n b)) ∧ Below w.heap.size w w' := by
 have key : ∀ (k : Int), (IntKind.i64.wrap (32 - (b : Int)) = k) → 0 ≤ k → (1 ≤ (b : Int) ∧ (b : Int) < 32) →
   (IntKind.u32.wrap ((IntKind.i32.wrap (IntKind.u32.wrap (n * 2 ^ (min k.toNat IntKind.u32.bits)))).fdiv (2 ^ (min k.toNat IntKind.i32.bits))) = sgnW n b) → Calls Tryz.prog 116 #[.int .u32 n, .int .i64 (b : Int)] w fun e w' => e = .returned (.int .u32 (sgnW n b)) ∧ Below w.heap.size w w' := by
  intro k hk hk0 hbr hs
  refine calls_val [.int .u32 n, .int .i64 (b : Int)] Tryz.func116 Tryz.ntmps116 rfl (by simp) ?_
  conv => whnf
  refine ⟨fun hc => absurd hc (by simp; omega), fun _ => ?_⟩
  conv => whnf
  refine ⟨fun hc => absurd hc (by simp; omega), fun _ => ?_⟩
  conv => whnf
  refine ⟨k, hk, ?_⟩
  conv => whnf
  refine ⟨hk0, _, rfl, ?_⟩
  conv => whnf
  refine ⟨_, rfl, ?_⟩
  conv => whnf
  refine ⟨k, hk, ?_⟩
  conv => whnf
  refine ⟨hk0, _, rfl, ?_⟩
  conv => whnf
  refine ⟨_, rfl, ?_⟩
  conv => whnf
  exact fin_val rfl fun w' hB => ⟨by rw [← hs], hB⟩
 rcases hb with rfl | rfl
 ·refine key 14 (by decide) (by omega) (by omega) ?_
  rw [show (min (14 : Int).toNat IntKind.u32.bits) = 14 from rfl, show (min (14 : Int).toNat IntKind.i32.bits) = 14 from rfl, show (2 : Int) ^ 14 = 16384 from rfl, wr32, wr32, wr_i32 (by unfold word; omega), Int.fdiv_eq_ediv_of_nonneg _ (by omega)]
  exact sgn_shift18 n hn
 ·refine key 10 (by decide) (by omega) (by omega) ?_
  rw [show (min (10 : Int).toNat IntKind.u32.bits) = 10 from rfl, show (min (10 : Int).toNat IntKind.i32.bits) = 10 from rfl, show (2 : Int) ^ 10 = 1024 from rfl, wr32, wr32, wr_i32 (by unfold word; omega), Int.fdiv_eq_ediv_of_nonneg _ (by omega)]
  exact sgn_shift22 n hn
theorem fits_word (n : Int) (b : Nat) (w : World) (hn : word n) (hb : b = 18 ∨ b = 22) : Calls Tryz.prog 143 #[.int .u32 n, .int .i64 (b : Int)] w fun e w' => e = .returned (.bool (decide (sgnW n b = n))) ∧ Below w.heap.size w w' := by
 refine calls_val [.int .u32 n, .int .i64 (b : Int)] Tryz.func143 Tryz.ntmps143 rfl (by simp) ?_
 conv => whnf
 refine call_con rfl (by kernel_rfl) (fun r w' _ => sign_word n b w' hn hb) ?_
 conv => whnf
 exact fin_val rfl fun w' hB => ⟨rfl, hB⟩
end Go.Proofs.YtnhdcclpjildjaaGreat
namespace Go.Proofs.YtnhdcclpjildjaaGreat
open Go.RowKit
def CV.up (k : Nat) : CV → CV
 | .v x => .v x
 | .ref i o => .ref (k + i) o
 | .vref i o => .vref (k + i) o
 | .row i => .row (k + i)
 | .sl i o n c => .sl (k + i) o n c
 | .mp i => .mp (k + i)
 | .clo _ _ => .any
 | .any => .any
def Ow.up (k : Nat) : Ow → Ow
 | .cells t l => .cells t (l.map (CV.up k))
 | .row e size n xs => .row e size n xs
 | .ext φ => .ext φ
 | _ => .gone
end Go.Proofs.YtnhdcclpjildjaaGreat
namespace Go.Proofs.YtnhdcclpjildjaaGreat
open Go.RowKit

def MemP.bad (M : MemP) (a r : Int) : Nat → Nat → Option Int
 | _, 0 => none
 | i, k + 1 => if M.right ((a + i) % 4294967296) r = true then M.bad a r (i + 1) k else some ((a + i) % 4294967296)
end Go.Proofs.YtnhdcclpjildjaaGreat
namespace Go.Proofs.YtnhdcclpjildjaaGreat
open Go.RowKit

def MemP.get (M : MemP) (x : Int) : Int := (M.data[x.toNat]?).getD 0
def MemP.load (M : MemP) (a : Int) : Nat → Nat → Int
 | _, 0 => 0
 | i, k + 1 => (M.load a (i + 1) k * 256 + M.get ((a + i) % 4294967296)) % 4294967296
end Go.Proofs.YtnhdcclpjildjaaGreat
namespace Go.Proofs.YtnhdcclpjildjaaGreat
open Go.RowKit
structure Held (W : World) (G : Gs) (w : World) : Prop where
 os : w.os = W.os
 tape : w.tape = W.tape
 output : w.output = W.output
 size : W.heap.size ≤ w.heap.size
 old : ∀ k, k < W.heap.size → k ∉ G → w.heap[k]? = W.heap[k]?
def Gs.flat (G : Gs) : Gs := ⟨[], G.fix ++ G.ext⟩
theorem flat_mem {G : Gs} {b : Nat} : b ∈ G.flat ↔ b ∈ G := by
 constructor
 ·rintro (h | h)
  ·cases h
  ·exact List.mem_append.1 h
 ·intro h; exact .inr (List.mem_append.2 h)
theorem Rel.held {W : World} {G : Gs} {S : List Ow} {r : Env} {w : World} (h : Rel W G S r w) : Held W G w := ⟨h.os, h.tape, h.output, h.size, h.old⟩
theorem Held.rel {W : World} {G : Gs} {w : World} (h : Held W G w) : Rel W G.flat [] Env.none w :=
 ⟨h.os, h.tape, h.output, h.size, fun k hk hn => h.old k hk (fun hm => hn (flat_mem.2 hm)), by simp, nofun, nofun, fun _ _ => rfl, fun _ _ => rfl, (by intro i g h; simp [Gs.flat] at h)⟩
def plainAV (x : AV) : AV := match x.fx (fun _ => false) with | true => x | false => .p (.c .any)
def plainG : Fr → Fr
 | [] => []
 | (d, x) :: f => (d, plainAV x) :: plainG f
theorem plainG_den {r : Env} {f : Fr} {a : Act} (hf : FDen r f a) : FDen Env.none (plainG f) a := by
 have key : ∀ f : Fr, ∀ k u, (f.get k).den r u → ((plainG f).get k).den Env.none u := by
  intro f
  induction f with
  | nil => intro k u _; simp [plainG, Fr.get, AV.den, Pc.den, CV.den]
  | cons p f ih =>
   obtain ⟨d, x⟩ := p
   intro k u h
   unfold plainG
   cases hk : Nat.beq d k <;> simp only [Fr.get, hk] at h ⊢
   ·exact ih k u h
   ·unfold plainAV
    cases hx : x.fx (fun _ => false)
    ·simp [AV.den, Pc.den, CV.den]
    ·exact AV.den_fx (ok := fun _ => false) (fun i b hi => by cases hi) hx h
 exact fun k => key f k _ (hf k)
section
variable (P : Program) (W : World) (G : Gs) (N : Nd)
def firstG (f : Fr) (T : List Ow) (o : Oper) (K : AV → Prop) : Prop :=
 match o.op with
 | .move x => forceAV (f.ev x) K
 | .assign x => forceAV (f.ev x) K
 | .fieldAddr s x k => (match f.ev x with
  | .p (.c (.ref i off)) => (match fldOff P s k with | some n => K (.p (.c (.ref i (off + n)))) | none => False)
  | _ => (match opTy P o.op with | true => qop P W G.flat [] (plainG f) o K | false => False))
 | .nilCheck x => (match f.ev x with
  | .p (.c (.ref i off)) => K (.p (.c (.ref i off)))
  | _ => (match opTy P o.op with | true => qop P W G.flat [] (plainG f) o K | false => False))
 | .build t parts => buildK P T f t parts K
 | _ => (match opTy P o.op with | true => qop P W G.flat [] (plainG f) o K | false => False)
def trG (ops : Array Oper) (l : List Oper) : Tr → Fr → List Ow → (Fr → List Ow → Prop) → Prop
 | .done, f, T, K => K f T
 | .no, _, _, _ => True
 | .q i t, f, T, K => (match l[i]? with
  | none => False
  | some o => (match dstOk N.n o.dst with
   | false => False
   | true => (match guardOf ops f o with
    | some true => firstG P W G f T o fun v => f.putK o.dst v fun f' => trG ops l t f' T K
    | some false => f.putK o.dst (.p (.c .any)) fun f' => trG ops l t f' T K
    | none => False)))
 | .alt i t more, f, T, K => (match l[i]? with
  | none => False
  | some o => (match guardOf ops f o with
    | some true => opK P W G N o f T fun f' T' => trG ops l t f' T' K
    | _ => False)) ∧ trG ops l more f T K
end
section
variable {P : Program} {W : World} {G : Gs} {N : Nd} {ops : Array Oper} {l : List Oper}
theorem firstG_sound {f : Fr} {T : List Ow} {o : Oper} {K : AV → Prop} (h : firstG P W G f T o K) {r : Env} {w : World} (hR : Rel W G T r w) {a : Act} (hf : FDen r f a) :
  ∃ v u, K v ∧ v.den r u ∧ ∀ w', Held W G w' → (execOp a.eval o).run P w' = .ok (.value u) w' := by
 have plain : (match opTy P o.op with | true => qop P W G.flat [] (plainG f) o K | false => False) → ∃ v u, K v ∧ v.den r u ∧ ∀ w', Held W G w' → (execOp a.eval o).run P w' = .ok (.value u) w' := fun h => by
  split at h
  ·rename_i hty
   obtain ⟨v, u, hK, hden, hrun⟩ := qop_held h hty rfl (D := Held W G) (fun w hw => hw.rel) hR.held (plainG_den hf)
   exact ⟨v, u, hK, AV.den_mono ⟨(fun i b h => by cases h), (fun i b h => by cases h)⟩ _ _ hden, hrun⟩
  ·exact h.elim
 unfold firstG at h
 split at h
 ·rename_i x hop
  exact ⟨_, _, forceAV_iff.1 h, hf.ev x, fun w' _ => by simp [execOp, hop]⟩
 ·rename_i x hop
  exact ⟨_, _, forceAV_iff.1 h, hf.ev x, fun w' _ => by simp [execOp, hop]⟩
 ·rename_i s x k hop
  split at h
  ·rename_i i off he
   split at h
   ·rename_i n hn
    have hx := hf.ev x
    rw [he] at hx
    obtain ⟨b, hb, hu⟩ := den_ref hx
    exact ⟨_, _, h, den_mk_ref hb, fun w' _ => by simp [execOp, hop, hu, run_fieldAt hn]⟩
   ·exact h.elim
  ·exact plain h
 ·rename_i x hop
  split at h
  ·rename_i i off he
   have hx := hf.ev x
   rw [he] at hx
   obtain ⟨b, hb, hu⟩ := den_ref hx
   exact ⟨_, _, h, den_mk_ref hb, fun w' _ => by simp [execOp, hop, hu]⟩
  ·exact plain h
 ·rename_i t parts hop
  obtain ⟨v, u, hK, hd, hrun⟩ := buildK_sound hR hf h
  exact ⟨v, u, hK, hd, fun w' _ => by simp [execOp, hop, hrun w']⟩
 ·exact plain h
theorem trG_sound (hl : ∀ i : Nat, l[i]? = ops[i]?) (hns : Region.noSelect ops = true) {K : Fr → List Ow → Prop} {Q : Exit → Act → World → Prop} (hQ0 : ∀ c a w, ¬ Q (.panic c) a w) (hQ : ∀ f T a w, K f T → Good W G N f T a w → Q .normal a w) :
  ∀ (t : Tr) (inner : Bool) (listed : Array Bool) (f : Fr) (T : List Ow) (n : Nat), t.ok ops inner listed = true → t.depth ≤ n → trG P W G N ops l t f T K → ∀ a w, Good W G N f T a w →
   (inner = false → wpAnyH P .any ops Q (Held W G) n listed a w) ∧
   (∀ m, n = m + 1 → ∀ i ∈ t.alts, wpOp P ops Q i (fun a' w' => Held W G w' ∧ wpAnyH P .any ops Q (Held W G) m (listed.setIfInBounds i true) a' w') a w)
 | .done, inner, listed, f, T, n, hB, _, h, a, w, hg => by
  refine ⟨fun _ => wpAnyH_done (by simp [Tr.ok] at hB; exact hB.2) (hQ f T a w h hg) _, fun m _ i hi => by cases hi⟩
 | .no, inner, listed, f, T, n, hB, _, h, a, w, hg => by
  refine ⟨fun he => ?_, fun m _ i hi => by cases hi⟩
  simp [Tr.ok] at hB; rw [hB] at he; cases he
 | .q i t, inner, listed, f, T, n, hB, hn, h, a, w, hg => by
  refine ⟨fun _ => ?_, fun m _ i hi => by cases hi⟩
  simp only [Tr.ok, Bool.and_eq_true] at hB
  obtain ⟨⟨⟨_, hB1⟩, hB2⟩, hB3⟩ := hB
  simp only [Tr.depth] at hn
  obtain ⟨n, rfl⟩ : ∃ k, n = k + 1 := ⟨n - 1, by omega⟩
  unfold trG at h
  split at h
  ·exact h.elim
  ·rename_i o ho
   rw [hl] at ho
   split at h
   ·exact h.elim
   ·rename_i hdst
    obtain ⟨r, hR, hf, hN, hd⟩ := hg
    split at h
    ·rename_i hgd
     have hw := guard_wanted hf hgd
     obtain ⟨v, u, hK, hden, hrun⟩ := firstG_sound h hR hf
     have hK := putK_iff.1 hK
     refine wpAnyH_take (v := u) ho hns hB1 hB2 (fun c a w h => absurd h (hQ0 c _ w)) (.inl ⟨hw, hrun⟩) hR.held ?_
     exact (trG_sound hl hns hQ0 hQ t false _ _ T n hB3 (by omega) hK _ w ⟨r, hR, hf.put hden (by rw [hN]; exact hdst), (put_size a _ _).trans hN, (put_defers a _ _).trans hd⟩).1 rfl
    ·rename_i hgd
     have hw := guard_wanted hf hgd
     have hK := putK_iff.1 h
     refine wpAnyH_take (v := undef) ho hns hB1 hB2 (fun c a w h => absurd h (hQ0 c _ w)) (.inr ⟨hw, rfl⟩) hR.held ?_
     exact (trG_sound hl hns hQ0 hQ t false _ _ T n hB3 (by omega) hK _ w ⟨r, hR, hf.putAny _ (by rw [hN]; exact hdst), (put_size a _ _).trans hN, (put_defers a _ _).trans hd⟩).1 rfl
    ·exact h.elim
 | .alt i t more, inner, listed, f, T, n, hB, hn, h, a, w, hg => by
  simp only [Tr.ok, Bool.and_eq_true] at hB
  obtain ⟨⟨hB1, hB2⟩, hB3⟩ := hB
  simp only [Tr.depth] at hn
  unfold trG at h
  obtain ⟨h1, h2⟩ := h
  have all : ∀ m, n = m + 1 → ∀ j ∈ (Tr.alt i t more).alts, wpOp P ops Q j (fun a' w' => Held W G w' ∧ wpAnyH P .any ops Q (Held W G) m (listed.setIfInBounds j true) a' w') a w := by
   intro m hm j hj
   simp only [Tr.alts, List.mem_cons] at hj
   rcases hj with rfl | hj
   ·split at h1
    ·exact h1.elim
    ·rename_i o ho
     rw [hl] at ho
     obtain ⟨r, hR, hf, hN, hd⟩ := hg
     split at h1
     ·rename_i hgd
      have hw := guard_wanted hf hgd
      unfold wpOp
      simp only [ho, hw, if_true]
      refine .inl (se_wp ((opK_sound h1).out r a w hR hf hN hd (fun a' w' => Held W G w' ∧ wpAnyH P .any ops Q (Held W G) m (listed.setIfInBounds j true) a' w') Q fun f' T' a' w' hk hg' => ?_) fun _ _ h => h)
      refine ⟨?_, (trG_sound hl hns hQ0 hQ t false _ f' T' m hB2 (by omega) hk a' w' hg').1 rfl⟩
      obtain ⟨r', hR', _⟩ := hg'
      exact hR'.held
     ·exact h1.elim
   ·exact (trG_sound hl hns hQ0 hQ more true listed f T n hB3 (by omega) h2 a w hg).2 m hm j hj
  refine ⟨fun he => ?_, all⟩
  obtain ⟨m, rfl⟩ : ∃ k, n = k + 1 := ⟨n - 1, by omega⟩
  have hr : Region.ready .any ops listed = (Tr.alt i t more).alts := by
   rw [he] at hB1
   simpa [Tr.alts] using hB1
  exact wpAnyH_all hr (by simp [Tr.alts]) (all m rfl)
theorem sat_anyG {id : Nat} {l : List Oper} {f : Fr} {S : List Ow} {K : Exit → Fr → List Ow → Prop} (t : Tr) (hm : P.follows .mixedOrders = true) (hns : Region.noSelect l.toArray = true) (hB : (t.ok l.toArray false (Array.replicate l.toArray.size false) && Nat.ble t.depth l.length) = true)
  (h : trG P W G N l.toArray l t f S (K .normal)) : Sat none P W G N (.region id l.toArray true) f S K := by
 refine ⟨fun n a w ⟨r, hR, hf, hN, hd⟩ => wpIn_wide.2 ?_⟩
 simp only [Bool.and_eq_true] at hB
 refine Code.wp_mono (Q := fun e a w => match e with | .normal => PostK W G N K .normal a w | _ => False) (fun e a w h => by cases e <;> first | exact h | exact h.elim) (wp_region_held (S := Held W G) hm ?_)
 have := (trG_sound (P := P) (W := W) (N := N) (Q := fun e a w => match e with | .normal => PostK W G N K .normal a w | _ => False) (fun i => by simp) hns (fun c a w h => h) (fun f T a w hk hg => ⟨f, T, hk, hg⟩) t false _ f S l.length hB.1 (Nat.le_of_ble_eq_true hB.2) h a w.drew ⟨r, hR.drew, hf, hN, hd⟩).1 rfl
 simpa using this
end
inductive Nx (α : Type) where
 | done
 | q (i : Nat) (y : α)
 | alts (l : List (Nat × α))
structure DagOk {α : Type} (ops : Array Oper) (listed : α → Array Bool) (nx : α → Nx α) (left : α → Nat) (x : α) : Prop where
 done : nx x = .done → Region.ready .any ops (listed x) = []
 q : ∀ i y, nx x = .q i y → Region.free .any ops (listed x) i = true ∧ (Region.ready .any ops (listed x)).contains i = true ∧ listed y = (listed x).setIfInBounds i true ∧ left y < left x
 alts : ∀ l, nx x = .alts l → Region.ready .any ops (listed x) = l.map Prod.fst ∧ l ≠ [] ∧ ∀ p ∈ l, listed p.2 = (listed x).setIfInBounds p.1 true ∧ left p.2 < left x
section
variable (P : Program) (W : World) (G : Gs) (N : Nd) {α : Type}
end
section
variable {P : Program} {W : World} {G : Gs} {N : Nd} {ops : Array Oper} {l : List Oper} {α : Type}
end
theorem slot_moved {r r2 : Env} {f : Fr} {a : Act} (hf : FDen r f a) (d : Nat) {i j off : Nat} (h : f.get d = .p (.c (.ref i off))) (hb : ∀ b, r.blk i = some b → r2.blk j = some b) : AV.den r2 (.p (.c (.ref j off))) (a.tmps.getD d undef) := by
 have := hf d
 rw [h] at this
 obtain ⟨b', hb', hu⟩ := den_ref this
 rw [hu]; exact den_mk_ref (hb b' hb')
theorem slot_same {r r2 : Env} {f : Fr} {a : Act} (hf : FDen r f a) (d : Nat) {x : Value} (h : (f.get d).val = some x) : AV.den r2 (AV.of x) (a.tmps.getD d undef) := by
 rw [AV.val_den h (hf d)]; exact AV.of_den r2 x
def FrDen (r : Env) (a : Act) : Fr → Prop
 | [] => True
 | (d, x) :: f => x.den r (a.tmps.getD d undef) ∧ FrDen r a f
theorem frDen {r : Env} {a : Act} : ∀ {f : Fr}, FrDen r a f → FDen r f a
 | [], _ => fun k => by simp [Fr.get, AV.den, Pc.den, CV.den]
 | (d, x) :: f, h => fun k => by
  simp only [Fr.get]
  split
  ·rename_i hk; have := Nat.eq_of_beq_eq_true hk; subst this; exact h.1
  ·exact frDen h.2 k
end Go.Proofs.YtnhdcclpjildjaaGreat
namespace Go.Proofs.YtnhdcclpjildjaaGreat
open Go.RowKit

theorem objs_later {w w' : World} {gs : List Nat} {U : List Ow} {n : Nat} (hob : ObAll n U) (h : ObjsAt w gs U) (hB : Below w.heap.size w w') : ObjsAt w' gs U := by
 refine ⟨h.len, h.nodup, fun g hg => Nat.lt_of_lt_of_le (h.lt g hg) hB.size, fun i o ho => ?_⟩
 have k := h.own i o ho
 have hb := hob o (List.mem_of_getElem? ho)
 cases o with
 | cells t l =>
  obtain ⟨b, us, e1, e2, e3⟩ := k
  exact ⟨b, us, e1, by rw [hB.block b (h.lt b (List.mem_of_getElem? (show gs[i]? = some b from e1)))]; exact e2, e3⟩
 | row => exact hb.elim
 | ext => exact hb.elim
 | view => exact hb.elim
 | gone => exact hb.elim
section
variable {w0 : World} {S : List Ow} {K : AV → List Ow → Prop} {fid : FuncId} {args : List AV} {P : Program}
theorem call_memP {us : List Value} {g n p : Nat} {gs : List Nat} {M : MemP} {X : Value} (hx : avals args = some us) (hok : fnOk P fid = true) (hU : ObjsAt w0 (g :: gs) (memS 0 n p M))
  (h : ∀ w, ObjsAt w (g :: gs) (memS 0 n p M) → Calls P fid us.toArray w fun e w' => e = .returned X ∧ ObjsAt w' (g :: gs) (memS 0 n p M) ∧ GrownBys w w' (g :: gs)) (hK : K (AV.of X) S) : CallS P w0 Gs.nil fid args S K := by
 refine call_con hx hok (fun r w hR => ?_) hK
 have hU' := objs_later (memS_ob n p M) hU hR.toBelow
 exact (h w hU').mono fun e w' ⟨h1, h2, h3⟩ => ⟨h1, objs_below (memS_ob n p M) hU' h2 h3⟩
end
end Go.Proofs.YtnhdcclpjildjaaGreat
namespace Go.Proofs.YtnhdcclpjildjaaGreat
open Go.RowKit

def MemP.code (M : MemP) (x : Int) : Int := (M.image[x.toNat]?).getD 0
end Go.Proofs.YtnhdcclpjildjaaGreat
namespace Go.Proofs.YtnhdcclpjildjaaGreat
open Go.RowKit

def MemP.zero (p : Nat) : MemP := ⟨List.replicate (256 * p) 0, List.replicate (256 * p) 0, List.replicate (256 * p) 0, List.replicate (256 * p) 0, List.replicate p 0, [], [], [], [], []⟩
end Go.Proofs.YtnhdcclpjildjaaGreat
namespace Go.Proofs.YtnhdcclpjildjaaGreat
open Go.RowKit

structure SetP where
 r0 : Int
 r1 : Int
 r2 : Int
 fill : Int
 vars : List Int
structure SetP.ok (x : SetP) : Prop where
 fill : word x.fill
 len : x.vars.length = 19
 word : ∀ v ∈ x.vars, word v
def SetP.all (x : SetP) : List Int := x.vars ++ List.replicate 9 0
def SetP.right (x : SetP) : Nat → Int
 | 0 => x.r0
 | 1 => x.r1
 | _ => x.r2
end Go.Proofs.YtnhdcclpjildjaaGreat
namespace Go.Proofs.YtnhdcclpjildjaaGreat
open Go.RowKit

structure MemAt (w : World) (g n p : Nat) (M : MemP) (g1 g5 : Nat) : Prop where
 data : CellsAt w Gs.nil g 0 [.slice (some ⟨g1, 0, none⟩) n (n + M.td.length)]
 rights : CellsAt w Gs.nil g 4 [.slice (some ⟨g5, 0, none⟩) p (p + M.tr.length)]
 dat : ∀ (i : Nat) (x : Int), M.data[i]? = some x → CellsAt w Gs.nil g1 (0 + (i : Int).toNat * 1) [byteV x]
 rig : ∀ (i : Nat) (x : Int), M.rights[i]? = some x → CellsAt w Gs.nil g5 (0 + (i : Int).toNat * 1) [intV x]
end Go.Proofs.YtnhdcclpjildjaaGreat
namespace Go.Proofs.YtnhdcclpjildjaaGreat
open Go.RowKit

abbrev qiL (i : QI) : List Value := [intV i.op, intV i.d, intV i.a, intV i.b, .int .u32 i.imm]
abbrev qiV (i : QI) : Value := .agg #[intV i.op, intV i.d, intV i.a, intV i.b, .int .u32 i.imm]
theorem ops64 {op : Int} (h : 0 ≤ op ∧ op < 64) : op = 0 ∨ op = 1 ∨ op = 2 ∨ op = 3 ∨ op = 4 ∨ op = 5 ∨ op = 6 ∨ op = 7 ∨ op = 8 ∨ op = 9 ∨ op = 10 ∨ op = 11 ∨ op = 12 ∨ op = 13 ∨ op = 14 ∨ op = 15 ∨ op = 16 ∨ op = 17 ∨ op = 18 ∨ op = 19 ∨ op = 20 ∨ op = 21 ∨ op = 22 ∨ op = 23 ∨ op = 24 ∨ op = 25 ∨ op = 26 ∨ op = 27 ∨ op = 28 ∨ op = 29 ∨ op = 30 ∨ op = 31 ∨ op = 32 ∨ op = 33 ∨ op = 34 ∨ op = 35 ∨ op = 36 ∨ op = 37 ∨ op = 38 ∨ op = 39 ∨ op = 40 ∨ op = 41 ∨ op = 42 ∨ op = 43 ∨ op = 44 ∨ op = 45 ∨ op = 46 ∨ op = 47 ∨ op = 48 ∨ op = 49 ∨ op = 50 ∨ op = 51 ∨ op = 52 ∨ op = 53 ∨ op = 54 ∨ op = 55 ∨ op = 56 ∨ op = 57 ∨ op = 58 ∨ op = 59 ∨ op = 60 ∨ op = 61 ∨ op = 62 ∨ op = 63 := by omega
end Go.Proofs.YtnhdcclpjildjaaGreat
namespace Go.Proofs.YtnhdcclpjildjaaGreat
open Go.RowKit

section
variable {P : Program} {w0 : World} {G : Gs} {N : Nd} {S : List Ow} {f : Fr} {o : Oper}
theorem opS_q {K : Fr → List Ow → Prop} (h : QRun P w0 G S f o fun v => K (f.put o.dst v) S) (hdst : dstOk N.n o.dst = true) : OpS P w0 G N o f S K :=
 ⟨fun r a w hR hf hN hd next Q hK => by
  obtain ⟨v, u, hk, hv, hrun⟩ := h.use hR hf
  exact wp_of_value (hrun w (Below.refl _ _)) (hK _ _ _ _ hk ⟨r, hR, hf.put hv (by rw [hN]; exact hdst), (put_size a _ _).trans hN, (put_defers a _ _).trans hd⟩)⟩
theorem q_conv_plain {K : AV → Prop} {x : Operand} {src dst e : TypeId} (b off n c : Nat) (m : List Int) (hop : o.op = .convert src dst x) (hs : P.underlying src = some (.slice e)) (he : P.underlying e = some (.int .u8)) (hd : P.underlying dst = some .string) (hx : f.ev x = one (.slice (some ⟨b, off, none⟩) n c)) (hi : CellsAt w0 G b off (m.map (Value.int .u8))) (hn : m.length = n) (hk : K (one (strV m))) : QRun P w0 G S f o K := by
 refine ⟨_, hk, fun r a hf => ?_⟩
 have h1 := hf.ev x
 rw [hx] at h1
 refine ⟨_, rfl, fun w hR => ?_⟩
 have hl : (loadCells ⟨b, off, none⟩ n).run P w = .ok (m.map (Value.int .u8)).toArray w := by
  unfold loadCells
  have := run_loadCells (P := P) (w := w) (b := b) (off := off) n 0 #[] (m.map (Value.int .u8)) (by simp [hn]) (fun j u hj => by
   rw [Nat.add_zero, hR.oldCell hi.1 hi.2.1]; exact hi.2.2 j u hj)
  simpa using this
 simp [execOp, hop, den_v h1, run_convert_bytes_string w src dst e _ n c hs he hd, run_bytesToString w _ n c m hl, strV, bytesA]
theorem q_slice_own {K : AV → Prop} {t e : TypeId} {x : Operand} {lo hi : Option Operand} {inf : TypeInfo} (i off n c l h size : Nat) (hop : o.op = .slice t x lo hi none) (ht : P.underlying t = some (.slice e)) (hif : P.info? e = some inf) (hsz : inf.size = size) (hx : f.ev x = .p (.c (.sl i off n c)))
  (hl : (lo = none ∧ l = 0) ∨ ∃ y q, lo = some y ∧ f.ev y = one (.int q (l : Int))) (hh : (hi = none ∧ h = n) ∨ ∃ y q, hi = some y ∧ f.ev y = one (.int q (h : Int))) (hlh : l ≤ h) (hhc : h ≤ c) (hlc : l < c) (hk : K (.p (.c (.sl i (off + l * size) (h - l) (c - l))))) : QRun P w0 G S f o K := by
 refine ⟨_, hk, fun r a hf => ?_⟩
 have h1 := hf.ev x
 rw [hx] at h1
 obtain ⟨b, hb, hu⟩ := den_sl h1
 refine ⟨.slice (some ⟨b, off + l * size, none⟩) (h - l) (c - l), ?_, fun w hR => ?_⟩
 ·simp only [AV.den, Pc.den, CV.den]; exact ⟨b, hb, rfl⟩
 ·have hrun := run_slice ht hif (some ⟨b, off, none⟩) n c l h (lo.map a.eval) (hi.map a.eval) (by
   rcases hl with ⟨rfl, rfl⟩ | ⟨y, q, rfl, hy⟩
   ·exact .inl ⟨rfl, rfl⟩
   ·have h2 := hf.ev y; rw [hy] at h2; exact .inr ⟨q, by simp [den_v h2]⟩) (by
   rcases hh with ⟨rfl, rfl⟩ | ⟨y, q, rfl, hy⟩
   ·exact .inl ⟨rfl, rfl⟩
   ·have h2 := hf.ev y; rw [hy] at h2; exact .inr ⟨q, by simp [den_v h2]⟩) hlh hhc w
  rw [if_neg (by omega)] at hrun
  simp [execOp, hop, hu, hrun, addr_add, hsz]
end
end Go.Proofs.YtnhdcclpjildjaaGreat
namespace Go.Proofs.YtnhdcclpjildjaaGreat
open Go.RowKit

section
variable {P : Program} {w0 : World} {G : Gs} {N : Nd} {c d : Code} {f : Fr} {S : List Ow} {Q : Exit → Act → World → Prop} {α : Type}
def MidW (N : Nd) (T : α → Fr) (J : α → World → Prop) (Q : Exit → Act → World → Prop) : Exit → Act → World → Prop := fun e a w => match e with
 | .normal => ∃ y, FDen Env.none (T y) a ∧ a.tmps.size = N.n ∧ a.defers = N.ds ∧ J y w
 | e => Q e a w
theorem satq_midW (T : α → Fr) (J : α → World → Prop) (hc : SatQ P w0 G N c f S (MidW N T J Q)) (hd : ∀ y w, J y w → SatQ P w Gs.nil N d (T y) [] Q) : SatQ P w0 G N (.seq c d) f S Q :=
 ⟨fun a w hg => wpIn_seq (wpIn_mono (hc.out a w hg) fun e a' w' hq => by
  cases e with
  | normal =>
   obtain ⟨y, hf, hN, hds, hJ⟩ := hq
   exact (hd y w' hJ).out a' w' ⟨Env.none, rel_none w', hf, hN, hds⟩
  | exit id => exact hq
  | goto l => exact hq
  | ret => exact hq
  | panic ch => exact hq
  | outgrown => exact hq)⟩
theorem atq_midW {T : α → Fr} {J : α → World → Prop} (y : α) (hf : FLe (plF f) (T y)) (hJ : ∀ r w, Rel w0 G S r w → J y w) : AtQ w0 G N .normal f S (MidW N T J Q) :=
 ⟨fun _a w ⟨r, hR, hfd, hN, hds⟩ => ⟨y, hf.den (plF_den hfd), hN, hds, hJ r w hR⟩⟩
theorem atq_ret_midW {T : α → Fr} {J : α → World → Prop} (h : AtQ w0 G N .ret f S Q) : AtQ w0 G N .ret f S (MidW N T J Q) := ⟨fun a w hg => h.out a w hg⟩
end
end Go.Proofs.YtnhdcclpjildjaaGreat
namespace Go.Proofs.YtnhdcclpjildjaaGreat
open Go.RowKit

abbrev cpuT : TypeId := 42
abbrev cpuU (k : Nat) (us : List Value) (n p : Nat) (M : MemP) : List Ow := .cells cpuT (us.map .v ++ [.ref (k + 1) 0]) :: memS (k + 1) n p M
end Go.Proofs.YtnhdcclpjildjaaGreat
namespace Go.Proofs.YtnhdcclpjildjaaGreat
open Go.RowKit

theorem ble_no {n k : Nat} (h : k < n) : Nat.ble n k = false := by
 cases e : Nat.ble n k
 ·rfl
 ·exact absurd (Nat.le_of_ble_eq_true e) (by omega)
def MemP.put (M : MemP) (y v : Int) : MemP := { M with data := M.data.set y.toNat v }
def MemP.store (a : Int) : Nat → Nat → Int → MemP → MemP
 | _, 0, _, M => M
 | i, k + 1, x, M => MemP.store a (i + 1) k (x / 256) (M.put ((a + i) % 4294967296) (x % 256))
def MemP.storeM (M : MemP) (a : Int) (m : Nat) (x : Int) : MemP := match M.bad a 2 0 m with | none => MemP.store a 0 m x M | some _ => M
theorem set_vals (us : List Value) (i : Nat) (u : Value) : setAll (us.map CV.v) i [.v u] = (us.set i u).map CV.v := by
 show (us.map CV.v).set i (.v u) = _
 rw [List.map_set]
end Go.Proofs.YtnhdcclpjildjaaGreat
namespace Go.Proofs.YtnhdcclpjildjaaGreat
open Go.RowKit
inductive K5 where
 | k0 | k1 | k2 | k3 | k4
inductive KSt where
 | l0 | l1 | l2 | l3
 | c (k : K5) (a b c d : Bool)
 | s1 | s2 | s3 | s4
def K5.ge : K5 → Nat → Bool
 | .k0, _ => false
 | .k1, i => Nat.beq i 0
 | .k2, i => Nat.blt i 2
 | .k3, i => Nat.blt i 3
 | .k4, _ => true
def K5.left : K5 → Nat
 | .k0 => 4
 | .k1 => 3
 | .k2 => 2
 | .k3 => 1
 | .k4 => 0
def KSt.listed : KSt → Array Bool
 | .l0 => #[false, false, false, false, false, false, false, false, false, false, false, false, false, false, false, false]
 | .l1 => #[true, false, false, false, false, false, false, false, false, false, false, false, false, false, false, false]
 | .l2 => #[true, false, true, false, false, false, false, false, false, false, false, false, false, false, false, false]
 | .l3 => #[true, false, true, false, true, false, false, false, false, false, false, false, false, false, false, false]
 | .c k a b e d => #[true, k.ge 0, true, k.ge 1, true, k.ge 2, true, k.ge 3, a, b, e, d, false, false, false, false]
 | .s1 => #[true, true, true, true, true, true, true, true, true, true, true, true, true, false, false, false]
 | .s2 => #[true, true, true, true, true, true, true, true, true, true, true, true, true, true, false, false]
 | .s3 => #[true, true, true, true, true, true, true, true, true, true, true, true, true, true, true, false]
 | .s4 => #[true, true, true, true, true, true, true, true, true, true, true, true, true, true, true, true]
def KSt.calls (a b e d : Bool) : K5 → List (Nat × KSt)
 | .k0 => [(1, .c .k1 a b e d)]
 | .k1 => [(3, .c .k2 a b e d)]
 | .k2 => [(5, .c .k3 a b e d)]
 | .k3 => [(7, .c .k4 a b e d)]
 | .k4 => []
def KSt.box (i : Nat) (y : KSt) : Bool → List (Nat × KSt)
 | false => [(i, y)]
 | true => []
def KSt.last : K5 → Bool → Bool → Bool → Bool → List (Nat × KSt)
 | .k4, true, true, true, true => [(12, .s1)]
 | _, _, _, _, _ => []
def KSt.nx : KSt → Nx KSt
 | .l0 => .q 0 .l1
 | .l1 => .q 2 .l2
 | .l2 => .q 4 .l3
 | .l3 => .q 6 (.c .k0 false false false false)
 | .c k a b e d => .alts (KSt.calls a b e d k ++ (KSt.box 8 (.c k true b e d) a ++ (KSt.box 9 (.c k a true e d) b ++ (KSt.box 10 (.c k a b true d) e ++ (KSt.box 11 (.c k a b e true) d ++ KSt.last k a b e d)))))
 | .s1 => .alts [(13, .s2)]
 | .s2 => .alts [(14, .s3)]
 | .s3 => .alts [(15, .s4)]
 | .s4 => .done
def bleft : Bool → Nat
 | true => 0
 | false => 1
def KSt.left : KSt → Nat
 | .l0 => 16
 | .l1 => 15
 | .l2 => 14
 | .l3 => 13
 | .c k a b e d => 4 + k.left + bleft a + bleft b + bleft e + bleft d
 | .s1 => 3
 | .s2 => 2
 | .s3 => 1
 | .s4 => 0
section
variable (P : Program) (W : World) (G : Gs) (N : Nd) {α : Type}
end
section
variable {P : Program} {W : World} {G : Gs} {N : Nd} {l : List Oper} {T : KSt → Fr} {U : KSt → List Ow}
end
end Go.Proofs.YtnhdcclpjildjaaGreat
namespace Go.Proofs.YtnhdcclpjildjaaGreat
open Go.RowKit

theorem ObjsAt.pre {w : World} {gs hs : List Nat} {U V : List Ow} (hl : U.length = gs.length) (hob : ObAll U.length U) (h : ObjsAt w (gs ++ hs) (U ++ V)) : ObjsAt w gs U := by
 have at_ : ∀ {i b : Nat}, gs[i]? = some b → (gs ++ hs)[i]? = some b := fun {i b} hb => by
  have : i < gs.length := by
   rcases Nat.lt_or_ge i gs.length with h1 | h1
   ·exact h1
   ·rw [List.getElem?_eq_none h1] at hb; cases hb
  rw [List.getElem?_append_left this]; exact hb
 have back : ∀ i b, i < U.length → (envOf (gs ++ hs)).blk i = some b → (envOf gs).blk i = some b := fun i b hi hb => by
  have hb : (gs ++ hs)[i]? = some b := hb
  rw [List.getElem?_append_left (by omega)] at hb; exact hb
 refine ⟨hl, fun i j b hi hj => h.nodup i j b (at_ hi) (at_ hj), fun g hg => h.lt g (List.mem_append.2 (.inl hg)), fun i o ho => ?_⟩
 have hi : i < U.length := by
  rcases Nat.lt_or_ge i U.length with h1 | h1
  ·exact h1
  ·rw [List.getElem?_eq_none h1] at ho; cases ho
 have h1 := h.own i o (by rw [List.getElem?_append_left hi]; exact ho)
 have h2 := hob o (List.mem_of_getElem? ho)
 cases o with
 | cells t l =>
  obtain ⟨b, us, e1, e2, e3⟩ := h1
  refine ⟨b, us, back i b hi e1, e2, denL_sh (k := 0) (n := U.length) (fun j b hj hb => back j b hj (by rwa [Nat.zero_add] at hb)) h2 ?_⟩
  have : ∀ l : List CV, l.map (CV.sh 0) = l := fun l => by
   refine (List.map_congr_left fun c _ => ?_).trans (List.map_id l)
   cases c <;> simp [CV.sh]
  rw [this]; exact e3
 | row => exact h2.elim
 | ext => exact h2.elim
 | view => exact h2.elim
 | gone => exact h2.elim
theorem GrownBys.trans {w w1 w2 : World} {gs gs' : List Nat} (h : GrownBys w w1 gs) (k : GrownBys w1 w2 gs') (hn : ∀ g ∈ gs', g ∈ gs ∨ w.heap.size ≤ g) : GrownBys w w2 gs :=
 ⟨k.os.trans h.os, k.tape.trans h.tape, k.output.trans h.output, Nat.le_trans h.size k.size, fun b hb hg => (k.block b (Nat.lt_of_lt_of_le hb h.size) (fun hm => by
  rcases hn b hm with h1 | h1
  ·exact hg h1
  ·omega)).trans (h.block b hb hg)⟩
section
variable {P : Program} {w0 : World} {G : Gs} {N : Nd} {f : Fr} {S : List Ow} {Q : Exit → Act → World → Prop}
theorem equal_nil_at {t e : TypeId} (ht : P.underlying t = some (.pointer e)) (p : Addr) (d : Nat) (w : World) : (Op.equalIn (d + 1) t (.pointer (some p)) (.pointer none)).run P w = .ok false w := by
 simp [Op.equalIn, run_underlying ht]
theorem equal_nil {t e : TypeId} (ht : P.underlying t = some (.pointer e)) (p : Addr) (_ : Unit) (w : World) : (Op.equal t (.pointer (some p)) (.pointer none)).run P w = .ok false w := equal_nil_at ht p 9999 w
end
end Go.Proofs.YtnhdcclpjildjaaGreat
namespace Go.Proofs.YtnhdcclpjildjaaGreat
open Go.RowKit

set_option maxRecDepth 100000 in
theorem mem_pages (M : MemP) (n p : Nat) (w : World) (g : Nat) (gs : List Nat) (hU : ObjsAt w (g :: gs) (memS 0 n p M)) :
  Calls Tryz.prog 30 #[.pointer (some ⟨g, 0, none⟩)] w fun e w' => e = .returned (intV (p : Int)) ∧ ObjsAt w' (g :: gs) (memS 0 n p M) ∧ GrownBys w w' (g :: gs) := by
 obtain ⟨g0, g1, g2, g3, g4, g5, hg⟩ := six_blocks hU
 injection hg with hg0 hgs
 subst hgs; subst hg0
 refine calls_objs [.p (.c (.ref 0 0))] [.pointer (some ⟨g, 0, none⟩)] Tryz.func30 Tryz.ntmps30 rfl (by simp) hU ⟨_, _, rfl, den_mk_ref rfl, rfl⟩ ?_
 conv => whnf
 exact fin_objs rfl rfl (fun i o h => h) (memS_ob n p M) fun w' h1 h2 => ⟨rfl, h1, h2⟩
def MemP.rightsAt (M : MemP) (q : Nat) : Int := (M.rights[q]?).getD 0
set_option maxRecDepth 100000 in
theorem mem_rightsOf (M : MemP) (n p : Nat) (q : Nat) (w : World) (g : Nat) (gs : List Nat) (hU : ObjsAt w (g :: gs) (memS 0 n p M)) (hM : M.ok n p) (hq : q < p) :
  Calls Tryz.prog 32 #[.pointer (some ⟨g, 0, none⟩), intV (q : Int)] w fun e w' => e = .returned (intV (M.rightsAt q)) ∧ ObjsAt w' (g :: gs) (memS 0 n p M) ∧ GrownBys w w' (g :: gs) := by
 obtain ⟨g0, g1, g2, g3, g4, g5, hg⟩ := six_blocks hU
 injection hg with hg0 hgs
 subst hgs; subst hg0
 refine calls_objs [.p (.c (.ref 0 0)), one (intV (q : Int))] [.pointer (some ⟨g, 0, none⟩), intV (q : Int)] Tryz.func32 Tryz.ntmps32 rfl (by simp) hU ⟨_, _, rfl, den_mk_ref rfl, avdenL_of [intV (q : Int)]⟩ ?_
 conv => whnf
 refine ⟨decide ((q : Int) ≥ (p : Int)), fun _ => ?_, ?_⟩
 ·conv => whnf
  exact ⟨rfl, rfl, rfl, rfl, grp_mem _ _ _ _ _ _ _ _ _⟩
 conv => whnf
 refine ⟨fun hc => absurd hc (by simp [cmb]; omega), fun _ => ?_⟩
 conv => whnf
 (refine ⟨⟨by omega, by omega⟩, ?_⟩; (conv=>whnf))
 have hget : (List.map CV.v M.rV)[0 + (q : Int).toNat * tsz Tryz.prog 3]? = some (.v (intV (M.rightsAt q))) := by
  show (List.map CV.v M.rV)[0 + (q : Int).toNat * 1]? = _
  obtain ⟨y, hy⟩ : ∃ y, M.rights[q]? = some y := ⟨_, List.getElem?_eq_getElem (by rw [hM.lr]; omega)⟩
  rw [Nat.zero_add, Nat.mul_one, Int.toNat_natCast]
  unfold MemP.rightsAt; rw [hy]; exact tail_at hy
 rw [hget]
 conv => whnf
 exact fin_objs rfl rfl (fun i o h => h) (memS_ob n p M) fun w' h1 h2 => ⟨rfl, h1, h2⟩
def MemP.page (M : MemP) (q : Nat) : List Int := (M.data.drop (256 * q)).take 256
theorem page_length {M : MemP} {n p q : Nat} (hM : M.ok n p) (hq : q < p) : (M.page q).length = 256 := by
 have := hM.np
 unfold MemP.page
 rw [List.length_take, List.length_drop, hM.ld]; omega
theorem q_conv_cells {P : Program} {w0 : World} {G : Gs} {S : List Ow} {f : Fr} {o : Oper} {K : AV → Prop} {x : Operand} {src dst e : TypeId} {te : TypeId} {L : List CV} (i off n c : Nat) (m : List Int) (hop : o.op = .convert src dst x) (hs : P.underlying src = some (.slice e)) (he : P.underlying e = some (.int .u8)) (hd : P.underlying dst = some .string) (hx : f.ev x = .p (.c (.sl i off n c))) (hi : S[i]? = some (.cells te L)) (hm : (L.drop off).take n = (m.map (Value.int .u8)).map .v) (hn : m.length = n) (hk : K (one (strV m))) : QRun P w0 G S f o K := by
 refine ⟨_, hk, fun r a hf => ?_⟩
 have h1 := hf.ev x
 rw [hx] at h1
 obtain ⟨b, hb, hu⟩ := den_sl h1
 refine ⟨_, rfl, fun w hR => ?_⟩
 obtain ⟨b', us, e1, e2, e3⟩ := hR.own i _ hi
 rw [hb] at e1; injection e1 with e1; subst e1
 have e4 := denL_take n (denL_drop off e3)
 rw [hm] at e4
 have e5 := denL_vals_inv e4
 have hl : (loadCells ⟨b, off, none⟩ n).run P w = .ok (m.map (Value.int .u8)).toArray w := by
  unfold loadCells
  have := run_loadCells (P := P) (w := w) (b := b) (off := off) n 0 #[] (m.map (Value.int .u8)) (by simp [hn]) (fun j u hj => by
   rw [← e5, List.getElem?_take] at hj
   split at hj
   ·rw [List.getElem?_drop] at hj
    simpa [World.cell?, e2] using hj
   ·simp at hj)
  simpa using this
 simp [execOp, hop, hu, run_convert_bytes_string w src dst e _ n c hs he hd, run_bytesToString w _ n c m hl, strV, bytesA]
theorem page_cells {M : MemP} {n p q : Nat} (hM : M.ok n p) (hq : q < p) : ((M.dV.map CV.v).drop (256 * q)).take 256 = ((M.page q).map (Value.int .u8)).map .v := by
 have hnp := hM.np
 unfold MemP.dV MemP.page
 rw [← List.map_drop, ← List.map_take, List.drop_append_of_le_length (by simp [hM.ld]; omega), List.take_append_of_le_length (by simp [hM.ld]; omega), ← List.map_drop, ← List.map_take]
set_option maxRecDepth 100000 in
theorem mem_page (M : MemP) (n p : Nat) (q : Nat) (w : World) (g : Nat) (gs : List Nat) (hU : ObjsAt w (g :: gs) (memS 0 n p M)) (hM : M.ok n p) (hq : q < p) :
  Calls Tryz.prog 68 #[.pointer (some ⟨g, 0, none⟩), intV (q : Int)] w fun e w' => e = .returned (strV (M.page q)) ∧ ObjsAt w' (g :: gs) (memS 0 n p M) ∧ GrownBys w w' (g :: gs) := by
 obtain ⟨g0, g1, g2, g3, g4, g5, hg⟩ := six_blocks hU
 injection hg with hg0 hgs
 subst hgs; subst hg0
 have hnp := hM.np
 have hpm := hM.pmax
 refine calls_objs [.p (.c (.ref 0 0)), one (intV (q : Int))] [.pointer (some ⟨g, 0, none⟩), intV (q : Int)] Tryz.func68 Tryz.ntmps68 rfl (by simp) hU ⟨_, _, rfl, den_mk_ref rfl, avdenL_of [intV (q : Int)]⟩ ?_
 conv => whnf
 refine ⟨decide ((q : Int) ≥ (p : Int)), fun _ => ?_, ?_⟩
 ·conv => whnf
  exact ⟨rfl, rfl, rfl, rfl, grp_mem _ _ _ _ _ _ _ _ _⟩
 conv => whnf
 refine ⟨fun hc => absurd hc (by simp [cmb]; omega), fun _ => ?_⟩
 conv => whnf
 refine ⟨(256 * q : Nat), by rw [show (256 : Int) * (q : Int) = ((256 * q : Nat) : Int) by omega]; exact wr64 (by omega), ?_⟩
 conv => whnf
 refine ⟨(256 * q : Nat), by rw [show (256 : Int) * (q : Int) = ((256 * q : Nat) : Int) by omega]; exact wr64 (by omega), ?_⟩
 conv => whnf
 refine ⟨(256 * q + 256 : Nat), by rw [show ((256 * q : Nat) : Int) + (256 : Int) = ((256 * q + 256 : Nat) : Int) by omega]; exact wr64 (by omega), ?_⟩
 conv => whnf
 refine opS_q (q_slice_own (size := 1) 1 0 n (n + M.td.length) (256 * q) (256 * q + 256) rfl rfl rfl rfl rfl (.inr ⟨_, _, rfl, rfl⟩) (.inr ⟨_, _, rfl, rfl⟩) (by omega) (by omega) (by omega) ?_) rfl
 conv => whnf
 refine q_conv_cells (m := M.page q) 1 (0 + 256 * q * 1) (256 * q + 256 - 256 * q) (n + M.td.length - 256 * q) rfl rfl rfl rfl rfl rfl (by rw [show 0 + 256 * q * 1 = 256 * q by omega, show 256 * q + 256 - 256 * q = 256 by omega]; exact page_cells hM hq) (by rw [page_length hM hq]; omega) ?_
 conv => whnf
 exact fin_objs rfl rfl (fun i o h => h) (memS_ob n p M) fun w' h1 h2 => ⟨rfl, h1, h2⟩
end Go.Proofs.YtnhdcclpjildjaaGreat
namespace Go.Proofs.YtnhdcclpjildjaaGreat
open Go.RowKit

section
variable {P : Program} {w0 : World} {G : Gs} {S : List Ow} {f : Fr} {o : Oper} {N : Nd} {K : Fr → List Ow → Prop}
theorem op_max {x y : Operand} {a b : Int} {tys : Array TypeId} (hop : o.op = .call ⟨.builtin .max, #[x, y], tys⟩) (hx : f.ev x = one (.int .i64 a)) (hy : f.ev y = one (.int .i64 b)) (hdst : dstOk N.n o.dst = true) (hk : K (f.put o.dst (one (.int .i64 (if a < b then b else a)))) S) : OpS P w0 G N o f S K := by
 refine opS_val _ hdst (fun r act w hR hf => ⟨_, den_one _ _, ?_⟩) hk
 have h1 := hf.ev x
 have h2 := hf.ev y
 rw [hx] at h1; rw [hy] at h2
 simp [execOp, hop, resolve, invoke, builtin, den_v h1, den_v h2, Builtin.max_, Builtin.max2]
end
end Go.Proofs.YtnhdcclpjildjaaGreat
namespace Go.Proofs.YtnhdcclpjildjaaGreat
open Go.RowKit

def getV (vs : List Int) (i : Int) : Int := (vs[i.toNat]?).getD 0
def szN (c : Int) : Nat := if c = 17 ∨ c = 19 then 1 else 4
structure Ap where
 vs : List Int
 stays : Bool
 mem : MemP
def applyP (o : BOp) (vs : List Int) (M : MemP) : Ap :=
 if o.code = 1 then ⟨vs.set o.d.toNat o.n, true, M⟩
 else if o.code = 2 then ⟨vs.set o.d.toNat (getV vs o.a), true, M⟩
 else if o.code = 16 ∨ o.code = 17 then (match M.bad ((getV vs o.a + o.n) % 4294967296) 1 0 (szN o.code) with
  | none => ⟨vs.set o.d.toNat (M.load ((getV vs o.a + o.n) % 4294967296) 0 (szN o.code)), true, M⟩
  | some _ => ⟨vs, false, M⟩)
 else if o.code = 18 ∨ o.code = 19 then ⟨vs, (M.bad ((getV vs o.a + o.n) % 4294967296) 2 0 (szN o.code)).isNone, M.storeM ((getV vs o.a + o.n) % 4294967296) (szN o.code) (getV vs o.b)⟩
 else if o.code = 21 then ⟨vs, getV vs o.a != 0, M⟩
 else if o.code = 22 then ⟨vs, false, M⟩
 else if isBin o.code = true then ⟨vs.set o.d.toNat (wordOp o.code (getV vs o.a) (getV vs o.b)), true, M⟩
 else ⟨vs, true, M⟩
structure Outc where
 leaves : Bool
 index : Int
 done : Int
 pc : Int
 vars : List Int
def Outc.zero : Outc := ⟨false, 0, 0, 0, List.replicate 28 0⟩
structure EvR where
 out : Outc
 mem : MemP
structure VarsOk (vs : List Int) : Prop where
 len : vs.length = 28
 word : ∀ x ∈ vs, word x
/-! Fold. -/
/-! Copies. -/
end Go.Proofs.YtnhdcclpjildjaaGreat
namespace Go.Proofs.YtnhdcclpjildjaaGreat
open Go.RowKit

def kindF (f : QForm) : Int := if f.bits = 0 then 0 else if f.signed = true then 1 else 2
abbrev shL (f : QForm) : List Value := [.bool f.is, .bool f.d, .bool f.a, .bool f.b, intV (kindF f), intV f.bits, .int .u32 f.most]
abbrev shV (f : QForm) : Value := .agg #[.bool f.is, .bool f.d, .bool f.a, .bool f.b, intV (kindF f), intV f.bits, .int .u32 f.most]
def setOne (us : List Value) (o : Int) (s : List Value) : List Value := setAll us (o.toNat * 7) s
def setOps (us : List Value) (ops : List Int) (s : List Value) : List Value := ops.foldl (fun u o => setOne u o s) us
theorem setOne_length (us : List Value) (o : Int) (s : List Value) : (setOne us o s).length = us.length := setAll_length _ _ _
theorem setOps_length (s : List Value) : ∀ (ops : List Int) (us : List Value), (setOps us ops s).length = us.length
 | [], us => rfl
 | o :: ops, us => by
  show (setOps (setOne us o s) ops s).length = _
  rw [setOps_length s ops, setOne_length]
theorem setAll_vals : ∀ (vs us : List Value) (off : Nat), setAll (us.map CV.v) off (vs.map CV.v) = (setAll us off vs).map CV.v
 | [], us, off => rfl
 | v :: vs, us, off => by
  show setAll ((us.map CV.v).set off (.v v)) (off + 1) (vs.map CV.v) = (setAll (us.set off v) (off + 1) vs).map CV.v
  rw [← setAll_vals vs, List.map_set]
theorem take_snoc {α : Type} {l : List α} {k : Nat} {x : α} (h : l[k]? = some x) : l.take (k + 1) = l.take k ++ [x] := by
 rw [List.take_add_one, h]; rfl
theorem setOps_snoc (us : List Value) (l : List Int) (o : Int) (s : List Value) : setOps us (l ++ [o]) s = setOne (setOps us l s) o s := by
 unfold setOps; rw [List.foldl_append]; rfl
abbrev sh6 (d a b : Bool) (k bits m : Int) : Value := .agg #[.bool false, .bool d, .bool a, .bool b, intV k, intV bits, .int .u32 m]
abbrev sh7 (d a b : Bool) (k bits m : Int) : List Value := [.bool true, .bool d, .bool a, .bool b, intV k, intV bits, .int .u32 m]
set_option maxRecDepth 100000 in
theorem set_walk (d a b : Bool) (k bits m : Int) (ops : List Int) (us : List Value) (q n : Nat) (w : World) (g : Nat) (hg : w.heap[g]? = some (.cells us.toArray 195 (0, 0))) (hus : us.length = 448) (hn : ops.length = n)
  (hq : ∀ (j : Nat) (o : Int), ops[j]? = some o → CellsAt w ⟨[g], []⟩ q (0 + (j : Int).toNat * 1) [intV o]) (hr : ∀ o ∈ ops, 0 ≤ o ∧ o < 64) (hn1 : n ≤ 64) :
  Calls Tryz.prog 134 #[sh6 d a b k bits m, .slice (some ⟨q, 0, none⟩) n n, .pointer (some ⟨g, 0, none⟩)] w fun e w' => e = .returned (.tuple #[]) ∧ w'.heap[g]? = some (.cells (setOps us ops (sh7 d a b k bits m)).toArray 195 (0, 0)) ∧ w.grownBy w' (some g) := by
 refine calls_vc (args := [sh6 d a b k bits m, .slice (some ⟨q, 0, none⟩) n n, .pointer (some ⟨g, 0, none⟩)]) (avs := [.p (.agg [.v (.bool false), .v (.bool d), .v (.bool a), .v (.bool b), .v (intV k), .v (intV bits), .v (.int .u32 m)]), one (.slice (some ⟨q, 0, none⟩) n n), .p (.c (.ref 0 0))]) Tryz.func134 Tryz.ntmps134 rfl (rel_own1 w hg) ⟨_, _, rfl, ⟨_, rfl, denL_vals [.bool false, .bool d, .bool a, .bool b, intV k, intV bits, .int .u32 m]⟩, _, _, rfl, den_one _ _, _, _, rfl, ⟨g, rfl, rfl⟩, rfl⟩ (by simp) ?_
 conv => whnf
 refine ⟨{ j : Nat // j ≤ n }, fun x => [(2, .p (.c (.ref 0 0))), (3, .p (.c (.ref 1 0))), (8, one (.slice (some ⟨q, 0, none⟩) n n)), (9, one (intV (n : Int))), (10, one (intV (x.1 : Int)))], fun x => [.cells 195 ((setOps us (ops.take x.1) (sh7 d a b k bits m)).map .v), .cells 189 ((sh7 d a b k bits m).map .v)], fun x => n - x.1,
  ⟨⟨0, by omega⟩, ent_same rfl (aI rfl (aI rfl (aI rfl (aI rfl (aI rfl trivial))))) (aI sM (aI sM trivial))⟩, fun x => ?_⟩
 obtain ⟨j, hj⟩ := x
 dsimp only
 have hlen : (setOps us (ops.take j) (sh7 d a b k bits m)).length = 448 := by rw [setOps_length, hus]
 conv => whnf
 refine ⟨fun hc => ?_, fun hc => ?_⟩
 ·have hlt : j < n := by simp at hc; omega
  obtain ⟨o, ho⟩ : ∃ o, ops[j]? = some o := ⟨ops[j]'(by omega), List.getElem?_eq_getElem (by omega)⟩
  have hor := hr o (List.mem_of_getElem? ho)
  conv => whnf
  (refine ⟨⟨by omega, by omega⟩, ?_⟩; (conv=>whnf))
  refine ⟨_, hq j o ho, ?_⟩
  conv => whnf
  (refine ⟨⟨by omega, by omega⟩, ?_⟩; (conv=>whnf))
  generalize hv : setOps us (ops.take j) (sh7 d a b k bits m) = vs at hlen ⊢
  have hl2 : (vs.map CV.v).length = 448 := by rw [List.length_map, hlen]
  rw [show Nat.ble (0 + o.toNat * tsz Tryz.prog 189 + ([CV.v (Value.bool true), CV.v (Value.bool d), CV.v (Value.bool a), CV.v (Value.bool b), CV.v (intV k), CV.v (intV bits), CV.v (Value.int IntKind.u32 m)]).length) (vs.map CV.v).length = true from Nat.ble_eq_true_of_le (by rw [hl2]; show 0 + o.toNat * 7 + 7 ≤ 448; omega)]
  conv => whnf
  rw [show Nat.ble (vs.map CV.v).length 8 = false from by rw [hl2]; rfl]
  conv => whnf
  refine ⟨_, wr64 (by omega), ?_⟩
  conv => whnf
  have e : setAll (vs.map CV.v) (0 + o.toNat * tsz Tryz.prog 189) [CV.v (Value.bool true), CV.v (Value.bool d), CV.v (Value.bool a), CV.v (Value.bool b), CV.v (intV k), CV.v (intV bits), CV.v (Value.int IntKind.u32 m)] = (setOps us (ops.take (j + 1)) (sh7 d a b k bits m)).map CV.v := by
   rw [take_snoc ho, setOps_snoc, hv]; show setAll (vs.map CV.v) _ ((sh7 d a b k bits m).map CV.v) = _; rw [setAll_vals]
   show (setAll vs (0 + o.toNat * 7) _).map _ = (setAll vs (o.toNat * 7) _).map _
   rw [Nat.zero_add]
  exact ⟨⟨j + 1, by omega⟩, ent_same rfl (aI rfl (aI rfl (aI rfl (aI rfl (aI rfl trivial))))) (aI ((aI rfl (Or.inl e))) (aI sM trivial)), by show n - (j + 1) < n - j; omega⟩
 ·have hje : j = n := by simp at hc; omega
  subst hje
  conv => whnf
  refine ⟨_, _, ent_refl, ?_⟩
  conv => whnf
  refine fin_own rfl rfl fun w' h1 h2 => ⟨rfl, ?_, h2⟩
  rw [h1, List.take_of_length_le (by omega)]
theorem call_arr {P : Program} {w0 : World} {G : Gs} {fid : FuncId} {S : List Ow} {K : AV → List Ow → Prop} {t e : TypeId} {us us' xs : List Value} {pre : List AV} {ps : List Value} (i j n : Nat) (hi : S[i]? = some (.cells t (us.map .v))) (hj : S[j]? = some (.cells e (xs.map .v))) (hne : j ≠ i) (hx : avals pre = some ps) (hok : fnOk P fid = true)
  (h : ∀ w g q, w.heap[g]? = some (.cells us.toArray t (0, 0)) → CellsAt w ⟨[g], []⟩ q 0 xs → Calls P fid (ps ++ [Value.slice (some ⟨q, 0, none⟩) n n, Value.pointer (some ⟨g, 0, none⟩)]).toArray w fun e w' => e = .returned (.tuple #[]) ∧ w'.heap[g]? = some (.cells us'.toArray t (0, 0)) ∧ w.grownBy w' (some g))
  (hK : K (.tup []) (S.set i (.cells t (us'.map .v)))) : CallS P w0 G fid (pre ++ [.p (.c (.sl j 0 n n)), .p (.c (.ref i 0))]) S K := by
 refine ⟨hok, fun r w vs hR hd => ?_⟩
 obtain ⟨us1, us2, rfl, d1, d2⟩ := avden_append hd
 obtain rfl := avals_den hx d1
 obtain ⟨u1, l1, rfl, d3, d4⟩ := d2
 obtain ⟨u2, l2, rfl, d5, d6⟩ := d4
 obtain rfl : l2 = [] := d6
 obtain ⟨q, hq, rfl⟩ := den_sl d3
 obtain ⟨g, hb, rfl⟩ := den_ref d5
 obtain ⟨b', us3, e1, e2, e3⟩ := hR.own i _ hi
 rw [hb] at e1; injection e1 with e1; subst e1
 obtain rfl := denL_vals_inv e3
 obtain ⟨b'', us4, f1, f2, f3⟩ := hR.own j _ hj
 rw [hq] at f1; injection f1 with f1; subst f1
 obtain rfl := denL_vals_inv f3
 have hqg : q ≠ g := fun e => hne (hR.inj j i q hq (by rw [e]; exact hb))
 have hqc : CellsAt w ⟨[g], []⟩ q 0 us4 := by
  refine ⟨(hR.new j q hq).1, ?_, fun k u hk => ?_⟩
  ·rintro (h1 | h1)
   ·simp at h1; exact hqg h1
   ·cases h1
  ·simp [World.cell?, f2, hk]
 refine (h w g q e2 hqc).mono fun e w' ⟨he, hg, hgr⟩ => ?_
 exact ⟨.tup [], .tuple #[], _, r, he, ⟨[], rfl, rfl⟩, hR.setBlock (o := .cells t (us'.map .v)) hb hgr ⟨g, us', hb, hg, denL_vals us'⟩ (hR.lt_of_blk hb), Env.le.refl r, hK⟩
end Go.Proofs.YtnhdcclpjildjaaGreat
