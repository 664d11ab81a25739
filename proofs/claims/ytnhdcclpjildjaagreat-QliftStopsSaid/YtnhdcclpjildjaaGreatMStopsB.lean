/- Regions with guards within guards, by cases; calls that turn the world, and loops over what is known. -/
import Derived.Test.YtnhdcclpjildjaaGreatMStopsA
namespace Go.Proofs.YtnhdcclpjildjaaGreat
open Go.RowKit

section
variable {P : Program} {w0 : World} {G : Gs} {N : Nd} {c d : Code} {f : Fr} {S : List Ow} {Q : Exit → Act → World → Prop}
end
section
variable (ro : Option Nat) (P : Program) (w0 : World) (G : Gs) (N : Nd)
end
section
variable {ro : Option Nat} {P : Program} {w0 : World} {G : Gs} {N : Nd}
end
section
variable {P : Program} {w0 : World} {G : Gs} {N : Nd} {c d : Code} {f : Fr} {S : List Ow} {Q : Exit → Act → World → Prop}
end
/-! What is plain of a frame; calls that turn the world. -/
def Pc.plB : Pc → Bool
 | .c x => x.fx (fun _ => false)
 | .agg l => fxL (fun _ => false) l
def pplL : List Pc → Bool
 | [] => true
 | c :: l => match c.plB with | true => pplL l | false => false
def AV.plB : AV → Bool
 | .p x => x.plB
 | .tup l => pplL l
def plF : Fr → Fr
 | [] => []
 | (d, x) :: f => match x.plB with | true => (d, x) :: plF f | false => (d, .p (.c .any)) :: plF f
theorem Pc.den_pl {r r' : Env} : ∀ {c : Pc} {u : Value}, c.plB = true → c.den r u → c.den r' u
 | .c x, u, hp, hd => CV.den_fx (ok := fun _ => false) (fun i b hi => by cases hi) hp hd
 | .agg l, u, hp, hd => by obtain ⟨us, hu, hl⟩ := hd; exact ⟨us, hu, denL_fx (ok := fun _ => false) (fun i b hi => by cases hi) hp hl⟩
theorem pdenL_pl {r r' : Env} : ∀ {l : List Pc} {us : List Value}, pplL l = true → pdenL r l us → pdenL r' l us
 | [], us, _, hd => hd
 | c :: l, us, hp, hd => by
  unfold pplL at hp
  split at hp
  ·rename_i hc
   obtain ⟨u, l', hu, h1, h2⟩ := hd
   exact ⟨u, l', hu, Pc.den_pl hc h1, pdenL_pl hp h2⟩
  ·cases hp
theorem AV.den_pl {r r' : Env} : ∀ {x : AV} {u : Value}, x.plB = true → x.den r u → x.den r' u
 | .p x, u, hp, hd => Pc.den_pl hp hd
 | .tup l, u, hp, hd => by obtain ⟨us, hu, hl⟩ := hd; exact ⟨us, hu, pdenL_pl hp hl⟩
theorem plF_den {r r' : Env} {f : Fr} {a : Act} (hf : FDen r f a) : FDen r' (plF f) a := by
 have key : ∀ f : Fr, ∀ k u, (f.get k).den r u → ((plF f).get k).den r' u := by
  intro f
  induction f with
  | nil => intro k u _; simp [plF, Fr.get, AV.den, Pc.den, CV.den]
  | cons p f ih =>
   obtain ⟨d, x⟩ := p
   intro k u h
   unfold plF
   cases hx : x.plB <;> cases hk : Nat.beq d k <;> simp only [Fr.get, hk] at h ⊢
   ·exact ih k u h
   ·simp [AV.den, Pc.den, CV.den]
   ·exact ih k u h
   ·exact AV.den_pl hx h
 exact fun k => key f k _ (hf k)
def jmpK (P : Program) (w0 : World) (G : Gs) (o : Oper) (f : Fr) (S : List Ow) (K : Value → World → Prop) : Prop :=
 match o.op with
 | .call ⟨.value fn, args, _⟩ => (match f.ev fn with
  | .p (.c (.clo (.func fid) cap)) => evL f args.toList fun vs => Jmp P w0 G fid (vs ++ cap.map fun c => .p (.c c)) S K
  | .p (.c (.v (.func (.func fid) first cap))) => (match first.toList with
   | [] => evL f args.toList fun vs => Jmp P w0 G fid (vs ++ cap.toList.map fun c => AV.of c) S K
   | _ => False)
  | _ => False)
 | _ => False
section
variable {P : Program} {w0 : World} {G : Gs} {N : Nd} {c d : Code} {f : Fr} {S : List Ow} {Q : Exit → Act → World → Prop}
theorem jmpK_sound {o : Oper} {K : Value → World → Prop} (h : jmpK P w0 G o f S K) {r : Env} {w : World} (hR : Rel w0 G S r w) {a : Act} (hf : FDen r f a) {next : Act → World → Prop} (hK : ∀ u w', K u w' → next (a.put o.dst u) w') : Oper.se P o a w next := by
 unfold jmpK at h
 split at h
 ·rename_i fn args tys hop
  have hfn := hf.ev fn
  split at h
  ·rename_i fid cap he
   rw [he] at hfn
   obtain ⟨us, hu, hcap⟩ := den_clo hfn
   rw [evL_iff] at h
   obtain ⟨hok, hc⟩ := h
   have hrun : (execOp a.eval o).run P w = .ok (.enter fid ((args.map a.eval) ++ us.toArray)) w := by
    simp [execOp, hop, resolve, Deferred.ofValue, hu, invoke, run_callFunc hok]
   refine wp_of_enter hrun ?_
   have := hc r w ((args.toList.map a.eval) ++ us) hR (avdenL_append (avdenL_ev hf _) (avdenL_cap hcap))
   rw [show ((args.toList.map a.eval) ++ us).toArray = (args.map a.eval) ++ us.toArray by apply Array.ext'; simp] at this
   exact Calls.mono this fun e w' ⟨u, he, hk⟩ => ⟨u, he, hK u w' hk⟩
  ·rename_i fid first cap he
   rw [he] at hfn
   have hu := den_v hfn
   split at h
   ·rename_i hfst
    have ef : first = #[] := Array.ext' hfst
    rw [evL_iff] at h
    obtain ⟨hok, hc⟩ := h
    have hrun : (execOp a.eval o).run P w = .ok (.enter fid ((args.map a.eval) ++ cap)) w := by
     simp [execOp, hop, resolve, Deferred.ofValue, hu, ef, invoke, run_callFunc hok]
    refine wp_of_enter hrun ?_
    have := hc r w ((args.toList.map a.eval) ++ cap.toList) hR (avdenL_append (avdenL_ev hf _) (avdenL_of _))
    rw [show ((args.toList.map a.eval) ++ cap.toList).toArray = (args.map a.eval) ++ cap by apply Array.ext'; simp] at this
    exact Calls.mono this fun e w' ⟨u, he, hk⟩ => ⟨u, he, hK u w' hk⟩
   ·exact h.elim
  ·exact h.elim
 ·exact h.elim
theorem satq_jump {id : Nat} {ops : Array Oper} (k : Nat) {o : Oper} (hk : ops.toList.drop k = o :: ops.toList.drop (k + 1)) (hg : o.guard = none) (hdst : dstOk N.n o.dst = true)
  (h : guardedN P w0 G N ops (ops.toList.take k) f S fun f1 S1 => jmpK P w0 G o f1 S1 fun u w' => guardedN P w' Gs.nil N ops (ops.toList.drop (k + 1)) ((plF f1).put o.dst (AV.of u)) [] fun f2 S2 => AtQ w' Gs.nil N .normal f2 S2 Q) : SatQ P w0 G N (.region id ops false) f S Q :=
 ⟨fun a w hgd => wpIn_region_list (wpListIn_split none 10 k (guardedN_sound (Q := fun a w => ∃ f1 S1, (jmpK P w0 G o f1 S1 fun u w' => guardedN P w' Gs.nil N ops (ops.toList.drop (k + 1)) ((plF f1).put o.dst (AV.of u)) [] fun f2 S2 => AtQ w' Gs.nil N .normal f2 S2 Q) ∧ Good w0 G N f1 S1 a w) _ f S _ h (fun f' S' a' w' hk' hg' => ⟨f', S', hk', hg'⟩) a w hgd) (by
  rintro a w ⟨f1, S1, hj, r, hR, hf, hN, hd⟩
  rw [hk]
  unfold wpListIn
  rw [if_pos (wanted_none hg _)]
  refine se_wpIn none 10 (next := fun a w => wpListIn (fenceR none) 10 P ops Q (ops.toList.drop (k + 1)) a w) (jmpK_sound hj hR hf fun u w' hq => ?_) (fun a w h => h)
  exact seL_wpIn none 10 (guardedN_sound _ _ _ _ hq (fun f' S' a' w' hk' hg' => hk'.out a' w' hg') _ _ ⟨Env.none, rel_none w', (plF_den hf).put (AV.of_den _ _) (by rw [hN]; exact hdst), (put_size a _ _).trans hN, (put_defers a _ _).trans hd⟩)))⟩
theorem jmp_con {fid : FuncId} {args : List AV} {xs : List Value} {K : Value → World → Prop} (J : Value → World → Prop) (hx : avals args = some xs) (hok : fnOk P fid = true) (h : ∀ r w, Rel w0 G S r w → Calls P fid xs.toArray w fun e w' => ∃ u, e = .returned u ∧ J u w') (hK : ∀ u w', J u w' → K u w') : Jmp P w0 G fid args S K :=
 ⟨hok, fun r w us hR hd => by rw [avals_den hx hd]; exact (h r w hR).mono fun e w' ⟨u, he, hj⟩ => ⟨u, he, hK u w' hj⟩⟩
/-! A loop over what is known of the world. -/
def RoundW {α : Type} (N : Nd) (T : α → Fr) (J : α → World → Prop) (m : α → Nat) (n : Nat) (Q : Exit → Act → World → Prop) : Exit → Act → World → Prop := fun e a w => match e with
 | .normal => ∃ y, FDen Env.none (T y) a ∧ a.tmps.size = N.n ∧ a.defers = N.ds ∧ J y w ∧ m y < n
 | e => Q e a w
theorem satq_loopW {α : Type} (T : α → Fr) (J : α → World → Prop) (m : α → Nat) (x0 : α) (h0 : ∀ r w, Rel w0 G S r w → (∀ a, FDen r f a → FDen Env.none (T x0) a) ∧ J x0 w) (hround : ∀ x w, J x w → SatQ P w Gs.nil N c (T x) [] (RoundW N T J m (m x) Q)) : SatQ P w0 G N (.loop c) f S Q := by
 refine ⟨fun a w hg => ?_⟩
 intro b k cs hro hb hr
 have key : ∀ (n : Nat) (x : α), m x = n → ∀ a w, J x w → FDen Env.none (T x) a → a.tmps.size = N.n → a.defers = N.ds → ∃ e a' w', Q e a' w' ∧ ArrivesIn (Machine.fenced P Fence.wide) P (lone (b.atR a (.code c :: .inLoop c :: k)) cs w) b k cs e a' w' := by
  intro n
  induction n using Nat.strongRecOn with
  | _ n ih =>
   intro x hx a w hJ hf hN hd
   obtain ⟨e, a', w', hq, harr⟩ := (hround x w hJ).out a w ⟨Env.none, rel_none w, hf, hN, hd⟩ b (.inLoop c :: k) cs hro hb hr
   cases e with
   | normal =>
    obtain ⟨y, hf', hN', hd', hJ', hlt⟩ := hq
    obtain ⟨e2, a2, w2, hq2, harr2⟩ := ih (m y) (by omega) y rfl a' w' hJ' hf' hN' hd'
    exact ⟨e2, a2, w2, hq2, .of_steps (StepsIn.trans harr (.one (fenced_calm hb hr rfl) stepR_inLoop)) harr2⟩
   | exit id => exact ⟨_, a', w', hq, .pass (x := .inLoop c) rfl (fun _ _ => .inl (by simp)) harr⟩
   | goto l => exact ⟨_, a', w', hq, .pass (x := .inLoop c) rfl (fun _ _ => .inl (by simp)) harr⟩
   | ret => exact ⟨_, a', w', hq, .pass (x := .inLoop c) rfl (fun _ _ => .inl (by simp)) harr⟩
   | panic ch => exact ⟨_, a', w', hq, .pass (x := .inLoop c) rfl (fun _ _ => .inl (by simp)) harr⟩
   | outgrown => exact ⟨_, a', w', hq, .pass (x := .inLoop c) rfl (fun _ _ => .inl (by simp)) harr⟩
 obtain ⟨r, hR, hf, hN, hd⟩ := hg
 obtain ⟨h1, h2⟩ := h0 r w hR
 obtain ⟨e, a', w', hq, harr⟩ := key _ x0 rfl a w h2 (h1 a hf) hN hd
 exact ⟨e, a', w', hq, .of_steps (.one (fenced_calm hb hr rfl) stepR_loop) harr⟩
theorem atq_nextW {α : Type} {T : α → Fr} {J : α → World → Prop} {m : α → Nat} {n : Nat} (y : α) (hf : FLe (plF f) (T y)) (hJ : ∀ r w, Rel w0 G S r w → J y w) (hm : m y < n) : AtQ w0 G N .normal f S (RoundW N T J m n Q) :=
 ⟨fun _a w ⟨r, hR, hfd, hN, hd⟩ => ⟨y, hf.den (plF_den hfd), hN, hd, hJ r w hR, hm⟩⟩
theorem atq_outW {α : Type} {T : α → Fr} {J : α → World → Prop} {m : α → Nat} {n : Nat} {id : Nat} (h : AtQ w0 G N (.exit id) f S Q) : AtQ w0 G N (.exit id) f S (RoundW N T J m n Q) := ⟨fun a w hg => h.out a w hg⟩
end
end Go.Proofs.YtnhdcclpjildjaaGreat
namespace Go.Proofs.YtnhdcclpjildjaaGreat
open Go.RowKit

theorem wr_i32 {n : Int} (h : word n) : IntKind.i32.wrap n = signedI n := by
 unfold word at h
 have e : IntKind.i32.wrap n = if (true && decide (n % 4294967296 ≥ 2147483648)) = true then n % 4294967296 - 4294967296 else n % 4294967296 := rfl
 rw [e]
 unfold signedI
 have hm : n % 4294967296 = n := by omega
 rw [hm]
 by_cases hc : 2147483648 ≤ n
 ·rw [if_pos hc, if_pos (by simp; omega)]
 ·rw [if_neg hc, if_neg (by simp; omega)]
set_option maxRecDepth 100000 in
theorem sign_word (n : Int) (b : Nat) (w : World) (hn : word n) (hb : b = 18 ∨ b = 22) : Calls Tryz.prog 116 #[.int .u32 n, .int .i64 (b : Int)] w fun e w' => e = .returned (.int .u32 (sgnW n b)) ∧ Below w.heap.size w w' := by
 have key : ∀ (k : Int), (IntKind.i64.wrap (32 - (b : Int)) = k) → 0 ≤ k → (1 ≤ (b : Int) ∧ (b : Int) < 32) →
   (IntKind.u32.wrap ((IntKind.i32.wrap (IntKind.u32.wrap (n * 2 ^ (min k.toNat IntKind.u32.bits)))).fdiv (2 ^ (min k.toNat IntKind.i32.bits))) = sgnW n b) → Calls Tryz.prog 116 #[.int .u32 n, .int .i64 (b : Int)] w fun e w' => e = .returned (.int .u32 (sgnW n b)) ∧ Below w.heap.size w w' := by
  intro k hk hk0 hbr hs
  refine calls_val [.int .u32 n, .int .i64 (b : Int)] Tryz.func116 Tryz.ntmps116 rfl (by simp) ?_
  conv => whnf
  refine ⟨fun hc => absurd hc (by simp; omega), fun _ => ?_⟩
  conv => whnf
  refine ⟨fun hc => absurd hc (by simp; omega), fun _ => ?_⟩
  conv => whnf
  refine ⟨k, hk, ?_⟩
  conv => whnf
  refine ⟨hk0, _, rfl, ?_⟩
  conv => whnf
  refine ⟨_, rfl, ?_⟩
  conv => whnf
  refine ⟨k, hk, ?_⟩
  conv => whnf
  refine ⟨hk0, _, rfl, ?_⟩
  conv => whnf
  refine ⟨_, rfl, ?_⟩
  conv => whnf
  exact fin_val rfl fun w' hB => ⟨by rw [← hs], hB⟩
 rcases hb with rfl | rfl
 ·refine key 14 (by decide) (by omega) (by omega) ?_
  rw [show (min (14 : Int).toNat IntKind.u32.bits) = 14 from rfl, show (min (14 : Int).toNat IntKind.i32.bits) = 14 from rfl, show (2 : Int) ^ 14 = 16384 from rfl, wr32, wr32, wr_i32 (by unfold word; omega), Int.fdiv_eq_ediv_of_nonneg _ (by omega)]
  exact sgn_shift18 n hn
 ·refine key 10 (by decide) (by omega) (by omega) ?_
  rw [show (min (10 : Int).toNat IntKind.u32.bits) = 10 from rfl, show (min (10 : Int).toNat IntKind.i32.bits) = 10 from rfl, show (2 : Int) ^ 10 = 1024 from rfl, wr32, wr32, wr_i32 (by unfold word; omega), Int.fdiv_eq_ediv_of_nonneg _ (by omega)]
  exact sgn_shift22 n hn
theorem fits_word (n : Int) (b : Nat) (w : World) (hn : word n) (hb : b = 18 ∨ b = 22) : Calls Tryz.prog 143 #[.int .u32 n, .int .i64 (b : Int)] w fun e w' => e = .returned (.bool (decide (sgnW n b = n))) ∧ Below w.heap.size w w' := by
 refine calls_val [.int .u32 n, .int .i64 (b : Int)] Tryz.func143 Tryz.ntmps143 rfl (by simp) ?_
 conv => whnf
 refine call_con rfl (by kernel_rfl) (fun r w' _ => sign_word n b w' hn hb) ?_
 conv => whnf
 exact fin_val rfl fun w' hB => ⟨rfl, hB⟩
end Go.Proofs.YtnhdcclpjildjaaGreat
namespace Go.Proofs.YtnhdcclpjildjaaGreat
open Go.RowKit

theorem mod_twice (n m : Int) (hm : 0 < m) : (n.tmod m + m).tmod m = n % m ∧ -m < n.tmod m ∧ n.tmod m < m := by
 have h1 := Int.tmod_lt_of_pos n hm
 have h2 : -m < n.tmod m := by have := Int.lt_tmod_of_pos n hm; omega
 refine ⟨?_, h2, h1⟩
 rw [Int.tmod_eq_emod_of_nonneg (by omega), Int.add_emod_right]
 have : n = m * n.tdiv m + n.tmod m := (Int.mul_tdiv_add_tmod n m).symm
 conv => rhs; rw [this]
 rw [Int.mul_add_emod_self_left]
theorem mod_ref (n m : Int) (w : World) (hm : 0 < m ∧ m < 4611686018427387904) : Calls Tryz.prog 17 #[intV n, intV m] w fun e w' => e = .returned (intV (n % m)) ∧ Below w.heap.size w w' := by
 obtain ⟨h1, h2, h3⟩ := mod_twice n m hm.1
 refine calls_valN [intV n, intV m] Tryz.func17 Tryz.ntmps17 rfl (by simp) ?_
 conv => whnf
 refine ⟨by omega, _, rfl, ?_⟩
 conv => whnf
 refine ⟨n.tmod m + m, wr64 (by omega), ?_⟩
 conv => whnf
 refine ⟨by omega, _, h1, ?_⟩
 conv => whnf
 exact fin_val rfl fun w' hB => ⟨rfl, hB⟩
end Go.Proofs.YtnhdcclpjildjaaGreat
namespace Go.Proofs.YtnhdcclpjildjaaGreat
open Go.RowKit

def kindF (f : QForm) : Int := if f.bits = 0 then 0 else if f.signed = true then 1 else 2
abbrev shL (f : QForm) : List Value := [.bool f.is, .bool f.d, .bool f.a, .bool f.b, intV (kindF f), intV f.bits, .int .u32 f.most]
abbrev shV (f : QForm) : Value := .agg #[.bool f.is, .bool f.d, .bool f.a, .bool f.b, intV (kindF f), intV f.bits, .int .u32 f.most]
def setOne (us : List Value) (o : Int) (s : List Value) : List Value := setAll us (o.toNat * 7) s
def setOps (us : List Value) (ops : List Int) (s : List Value) : List Value := ops.foldl (fun u o => setOne u o s) us
theorem setOne_length (us : List Value) (o : Int) (s : List Value) : (setOne us o s).length = us.length := setAll_length _ _ _
theorem setOps_length (s : List Value) : ∀ (ops : List Int) (us : List Value), (setOps us ops s).length = us.length
 | [], us => rfl
 | o :: ops, us => by
  show (setOps (setOne us o s) ops s).length = _
  rw [setOps_length s ops, setOne_length]
theorem setAll_vals : ∀ (vs us : List Value) (off : Nat), setAll (us.map CV.v) off (vs.map CV.v) = (setAll us off vs).map CV.v
 | [], us, off => rfl
 | v :: vs, us, off => by
  show setAll ((us.map CV.v).set off (.v v)) (off + 1) (vs.map CV.v) = (setAll (us.set off v) (off + 1) vs).map CV.v
  rw [← setAll_vals vs, List.map_set]
theorem take_snoc {α : Type} {l : List α} {k : Nat} {x : α} (h : l[k]? = some x) : l.take (k + 1) = l.take k ++ [x] := by
 rw [List.take_add_one, h]; rfl
theorem setOps_snoc (us : List Value) (l : List Int) (o : Int) (s : List Value) : setOps us (l ++ [o]) s = setOne (setOps us l s) o s := by
 unfold setOps; rw [List.foldl_append]; rfl
abbrev sh6 (d a b : Bool) (k bits m : Int) : Value := .agg #[.bool false, .bool d, .bool a, .bool b, intV k, intV bits, .int .u32 m]
abbrev sh7 (d a b : Bool) (k bits m : Int) : List Value := [.bool true, .bool d, .bool a, .bool b, intV k, intV bits, .int .u32 m]
set_option maxRecDepth 100000 in
theorem set_walk (d a b : Bool) (k bits m : Int) (ops : List Int) (us : List Value) (q n : Nat) (w : World) (g : Nat) (hg : w.heap[g]? = some (.cells us.toArray 195 (0, 0))) (hus : us.length = 448) (hn : ops.length = n)
  (hq : ∀ (j : Nat) (o : Int), ops[j]? = some o → CellsAt w ⟨[g], []⟩ q (0 + (j : Int).toNat * 1) [intV o]) (hr : ∀ o ∈ ops, 0 ≤ o ∧ o < 64) (hn1 : n ≤ 64) :
  Calls Tryz.prog 134 #[sh6 d a b k bits m, .slice (some ⟨q, 0, none⟩) n n, .pointer (some ⟨g, 0, none⟩)] w fun e w' => e = .returned (.tuple #[]) ∧ w'.heap[g]? = some (.cells (setOps us ops (sh7 d a b k bits m)).toArray 195 (0, 0)) ∧ w.grownBy w' (some g) := by
 refine calls_vc (args := [sh6 d a b k bits m, .slice (some ⟨q, 0, none⟩) n n, .pointer (some ⟨g, 0, none⟩)]) (avs := [.p (.agg [.v (.bool false), .v (.bool d), .v (.bool a), .v (.bool b), .v (intV k), .v (intV bits), .v (.int .u32 m)]), one (.slice (some ⟨q, 0, none⟩) n n), .p (.c (.ref 0 0))]) Tryz.func134 Tryz.ntmps134 rfl (rel_own1 w hg) ⟨_, _, rfl, ⟨_, rfl, denL_vals [.bool false, .bool d, .bool a, .bool b, intV k, intV bits, .int .u32 m]⟩, _, _, rfl, den_one _ _, _, _, rfl, ⟨g, rfl, rfl⟩, rfl⟩ (by simp) ?_
 conv => whnf
 refine ⟨{ j : Nat // j ≤ n }, fun x => [(2, .p (.c (.ref 0 0))), (3, .p (.c (.ref 1 0))), (8, one (.slice (some ⟨q, 0, none⟩) n n)), (9, one (intV (n : Int))), (10, one (intV (x.1 : Int)))], fun x => [.cells 195 ((setOps us (ops.take x.1) (sh7 d a b k bits m)).map .v), .cells 189 ((sh7 d a b k bits m).map .v)], fun x => n - x.1,
  ⟨⟨0, by omega⟩, ent_same rfl (aI rfl (aI rfl (aI rfl (aI rfl (aI rfl trivial))))) (aI sM (aI sM trivial))⟩, fun x => ?_⟩
 obtain ⟨j, hj⟩ := x
 dsimp only
 have hlen : (setOps us (ops.take j) (sh7 d a b k bits m)).length = 448 := by rw [setOps_length, hus]
 conv => whnf
 refine ⟨fun hc => ?_, fun hc => ?_⟩
 ·have hlt : j < n := by simp at hc; omega
  obtain ⟨o, ho⟩ : ∃ o, ops[j]? = some o := ⟨ops[j]'(by omega), List.getElem?_eq_getElem (by omega)⟩
  have hor := hr o (List.mem_of_getElem? ho)
  conv => whnf
  (refine ⟨⟨by omega, by omega⟩, ?_⟩; (conv=>whnf))
  refine ⟨_, hq j o ho, ?_⟩
  conv => whnf
  (refine ⟨⟨by omega, by omega⟩, ?_⟩; (conv=>whnf))
  generalize hv : setOps us (ops.take j) (sh7 d a b k bits m) = vs at hlen ⊢
  have hl2 : (vs.map CV.v).length = 448 := by rw [List.length_map, hlen]
  rw [show Nat.ble (0 + o.toNat * tsz Tryz.prog 189 + ([CV.v (Value.bool true), CV.v (Value.bool d), CV.v (Value.bool a), CV.v (Value.bool b), CV.v (intV k), CV.v (intV bits), CV.v (Value.int IntKind.u32 m)]).length) (vs.map CV.v).length = true from Nat.ble_eq_true_of_le (by rw [hl2]; show 0 + o.toNat * 7 + 7 ≤ 448; omega)]
  conv => whnf
  rw [show Nat.ble (vs.map CV.v).length 8 = false from by rw [hl2]; rfl]
  conv => whnf
  refine ⟨_, wr64 (by omega), ?_⟩
  conv => whnf
  have e : setAll (vs.map CV.v) (0 + o.toNat * tsz Tryz.prog 189) [CV.v (Value.bool true), CV.v (Value.bool d), CV.v (Value.bool a), CV.v (Value.bool b), CV.v (intV k), CV.v (intV bits), CV.v (Value.int IntKind.u32 m)] = (setOps us (ops.take (j + 1)) (sh7 d a b k bits m)).map CV.v := by
   rw [take_snoc ho, setOps_snoc, hv]; show setAll (vs.map CV.v) _ ((sh7 d a b k bits m).map CV.v) = _; rw [setAll_vals]
   show (setAll vs (0 + o.toNat * 7) _).map _ = (setAll vs (o.toNat * 7) _).map _
   rw [Nat.zero_add]
  exact ⟨⟨j + 1, by omega⟩, ent_same rfl (aI rfl (aI rfl (aI rfl (aI rfl (aI rfl trivial))))) (aI ((aI rfl (Or.inl e))) (aI sM trivial)), by show n - (j + 1) < n - j; omega⟩
 ·have hje : j = n := by simp at hc; omega
  subst hje
  conv => whnf
  refine ⟨_, _, ent_refl, ?_⟩
  conv => whnf
  refine fin_own rfl rfl fun w' h1 h2 => ⟨rfl, ?_, h2⟩
  rw [h1, List.take_of_length_le (by omega)]
theorem call_arr {P : Program} {w0 : World} {G : Gs} {fid : FuncId} {S : List Ow} {K : AV → List Ow → Prop} {t e : TypeId} {us us' xs : List Value} {pre : List AV} {ps : List Value} (i j n : Nat) (hi : S[i]? = some (.cells t (us.map .v))) (hj : S[j]? = some (.cells e (xs.map .v))) (hne : j ≠ i) (hx : avals pre = some ps) (hok : fnOk P fid = true)
  (h : ∀ w g q, w.heap[g]? = some (.cells us.toArray t (0, 0)) → CellsAt w ⟨[g], []⟩ q 0 xs → Calls P fid (ps ++ [Value.slice (some ⟨q, 0, none⟩) n n, Value.pointer (some ⟨g, 0, none⟩)]).toArray w fun e w' => e = .returned (.tuple #[]) ∧ w'.heap[g]? = some (.cells us'.toArray t (0, 0)) ∧ w.grownBy w' (some g))
  (hK : K (.tup []) (S.set i (.cells t (us'.map .v)))) : CallS P w0 G fid (pre ++ [.p (.c (.sl j 0 n n)), .p (.c (.ref i 0))]) S K := by
 refine ⟨hok, fun r w vs hR hd => ?_⟩
 obtain ⟨us1, us2, rfl, d1, d2⟩ := avden_append hd
 obtain rfl := avals_den hx d1
 obtain ⟨u1, l1, rfl, d3, d4⟩ := d2
 obtain ⟨u2, l2, rfl, d5, d6⟩ := d4
 obtain rfl : l2 = [] := d6
 obtain ⟨q, hq, rfl⟩ := den_sl d3
 obtain ⟨g, hb, rfl⟩ := den_ref d5
 obtain ⟨b', us3, e1, e2, e3⟩ := hR.own i _ hi
 rw [hb] at e1; injection e1 with e1; subst e1
 obtain rfl := denL_vals_inv e3
 obtain ⟨b'', us4, f1, f2, f3⟩ := hR.own j _ hj
 rw [hq] at f1; injection f1 with f1; subst f1
 obtain rfl := denL_vals_inv f3
 have hqg : q ≠ g := fun e => hne (hR.inj j i q hq (by rw [e]; exact hb))
 have hqc : CellsAt w ⟨[g], []⟩ q 0 us4 := by
  refine ⟨(hR.new j q hq).1, ?_, fun k u hk => ?_⟩
  ·rintro (h1 | h1)
   ·simp at h1; exact hqg h1
   ·cases h1
  ·simp [World.cell?, f2, hk]
 refine (h w g q e2 hqc).mono fun e w' ⟨he, hg, hgr⟩ => ?_
 exact ⟨.tup [], .tuple #[], _, r, he, ⟨[], rfl, rfl⟩, hR.setBlock (o := .cells t (us'.map .v)) hb hgr ⟨g, us', hb, hg, denL_vals us'⟩ (hR.lt_of_blk hb), Env.le.refl r, hK⟩
end Go.Proofs.YtnhdcclpjildjaaGreat
namespace Go.Proofs.YtnhdcclpjildjaaGreat
open Go.RowKit

def zero64 : List Value := (List.replicate 64 [Value.bool false, .bool false, .bool false, .bool false, intV 0, intV 0, .int .u32 0]).flatten
def tab1 (k : Nat) : List Value := setOps zero64 ((List.range k).map fun j : Nat => ((j : Nat) : Int) + 1) (sh7 true true true 0 0 0)
def tab2 (k : Nat) : List Value := setOps (tab1 12) ((List.range k).map fun j : Nat => ((j : Nat) : Int) + 16) (sh7 true true false 1 18 0)
theorem zero64_len : zero64.length = 448 := by kernel_rfl
theorem tab1_zero : tab1 0 = zero64 := by simp [tab1, setOps]
theorem tab2_zero : tab2 0 = tab1 12 := by simp [tab2, setOps]
theorem tab1_len (k : Nat) : (tab1 k).length = 448 := by unfold tab1; rw [setOps_length, zero64_len]
theorem tab2_len (k : Nat) : (tab2 k).length = 448 := by unfold tab2; rw [setOps_length, tab1_len]
theorem tab1_succ (k : Nat) : tab1 (k + 1) = setOps (tab1 k) [(k : Int) + 1] (sh7 true true true 0 0 0) := by
 unfold tab1
 rw [List.range_succ, List.map_append, List.map_cons, List.map_nil, setOps_snoc]
 rfl
theorem tab2_succ (k : Nat) : tab2 (k + 1) = setOps (tab2 k) [(k : Int) + 16] (sh7 true true false 1 18 0) := by
 unfold tab2
 rw [List.range_succ, List.map_append, List.map_cons, List.map_nil, setOps_snoc]
 rfl
def shapesL : List Value := (List.range 64).flatMap fun k : Nat => shL (qForm ((k : Nat) : Int))
theorem cells_op1 {w : World} {G : Gs} {q : Nat} {ops : List Int} (h : CellsAt w G q 0 (ops.map intV)) {j : Nat} {o : Int} (hj : ops[j]? = some o) : CellsAt w G q (0 + (j : Int).toNat * 1) [intV o] := by
 refine cells_one h.1 h.2.1 ?_
 have := h.2.2 j (intV o) (by rw [List.getElem?_map, hj]; rfl)
 rw [Nat.mul_one, Int.toNat_natCast]; exact this
theorem call_set {w0 : World} {S : List Ow} {K : AV → List Ow → Prop} {us : List Value} (d a b : Bool) (k bits m : Int) (ops : List Int) (j n : Nat) (hi : S[1]? = some (.cells 195 (us.map .v))) (hj : S[j]? = some (.cells 3 ((ops.map intV).map .v))) (hne : j ≠ 1) (hus : us.length = 448) (hn : ops.length = n) (hr : ∀ o ∈ ops, 0 ≤ o ∧ o < 64) (hn1 : n ≤ 64)
  (hK : ∀ us' : List Value, us' = setOps us ops (sh7 d a b k bits m) → us'.length = 448 → K (.tup []) (S.set 1 (.cells 195 (us'.map .v)))) :
  CallS Tryz.prog w0 Gs.nil 134 [.p (.agg [.v (.bool false), .v (.bool d), .v (.bool a), .v (.bool b), .v (intV k), .v (intV bits), .v (.int .u32 m)]), .p (.c (.sl j 0 n n)), .p (.c (.ref 1 0))] S K :=
 call_arr (pre := [.p (.agg [.v (.bool false), .v (.bool d), .v (.bool a), .v (.bool b), .v (intV k), .v (intV bits), .v (.int .u32 m)])]) (xs := ops.map intV) (us := us) (us' := setOps us ops (sh7 d a b k bits m)) 1 j n hi hj hne (ps := [sh6 d a b k bits m]) rfl (by kernel_rfl)
  (fun w g q hg hq => set_walk d a b k bits m ops us q n w g hg hus hn (fun i o ho => cells_op1 hq ho) hr hn1) (hK _ rfl (by rw [setOps_length, hus]))
theorem grp_two (t1 t2 : TypeId) (us vs : List Value) : grpOk Gs.nil [.cells t1 (us.map .v), .cells t2 (vs.map .v)] = true := by
 show sbnd 2 [.cells t1 (us.map .v), .cells t2 (vs.map .v)] = true
 simp only [sbnd, Ow.bnd, bndL_vals]
def flatV : Value → Bool
 | .int _ _ => true
 | .bool _ => true
 | _ => false
theorem onesL_flat (S : List Ow) : ∀ us : List Value, us.all flatV = true → onesL S (us.map CV.v) = true
 | [], _ => rfl
 | u :: us, h => by
  simp only [List.all_cons, Bool.and_eq_true] at h
  have h1 : oneS S (.v u) = true := by
   cases u <;> first | rfl | (exact absurd h.1 (by simp [flatV]))
  show (match oneS S (.v u) with | true => onesL S (us.map CV.v) | false => false) = true
  rw [h1]
  exact onesL_flat S us h.2
theorem shapes_flat : shapesL.all flatV = true := by kernel_rfl
theorem shapes_is : setOps (setOps (setOps (setOps (setOps (setOps (setOps (setOps (setOps (tab2 12) [17, 18, 19] (sh7 true true false 2 18 0)) [32, 33, 34, 35, 36, 37] (sh7 true true false 1 18 0)) [40] (sh7 true false false 1 22 0)) [41] (sh7 true false false 2 22 0)) [48] (sh7 false false false 2 18 0)) [49, 50, 51] (sh7 false false false 0 0 0)) [52] (sh7 false true false 0 0 0)) [53] (sh7 true false false 2 18 3)) [54] (sh7 false true false 2 18 4) = shapesL := by kernel_rfl
set_option maxRecDepth 100000 in
set_option maxHeartbeats 4000000 in
theorem shapes_walk (w : World) : Calls Tryz.prog 121 #[] w fun e w' => e = .returned (.agg shapesL.toArray) ∧ Below w.heap.size w w' := by
 refine calls_satq [] Tryz.func121 Tryz.ntmps121 rfl (by simp) ?_
 refine satq_seq ?_
 conv => whnf
 refine satq_seq ?_
 conv => whnf
 refine satq_seq ?_
 conv => whnf
 refine satq_cut (α := { u : List Value // u = tab1 12 }) (fun _ => [(0, .p (.c (.ref 0 0))), (1, .p (.c (.ref 1 0))), (2, .p (.c (.clo (.func 134) [.ref 1 0])))]) (fun x => [.cells 195 (zero64.map .v), .cells 195 (x.1.map .v)]) ?_ fun y => ?_
 ·conv => whnf
  refine ⟨{ k : Nat // k ≤ 12 }, fun x => [(0, .p (.c (.ref 0 0))), (1, .p (.c (.ref 1 0))), (2, .p (.c (.clo (.func 134) [.ref 1 0]))), (3, one (intV ((x.1 : Int) + 1)))], fun x => [.cells 195 (zero64.map .v), .cells 195 ((tab1 x.1).map .v)], fun x => 12 - x.1,
   ⟨⟨0, by omega⟩, ent_same rfl (aI rfl (aI rfl (aI rfl (aI rfl trivial)))) (aI ((aI rfl (Or.inl (by kernel_rfl)))) (aI ((aI rfl (Or.inl (by rw [tab1_zero]; kernel_rfl)))) trivial))⟩, fun x => ?_⟩
  obtain ⟨k, hk⟩ := x
  dsimp only
  conv => whnf
  refine ⟨fun hc => ?_, fun hc => ?_⟩
  ·have hlt : k < 12 := by simp at hc; omega
   have hs := tab1_succ k
   have hl := tab1_len k
   generalize tab1 k = us at hs hl ⊢
   conv => whnf
   refine call_set true true true 0 0 0 [(k : Int) + 1] 2 1 rfl rfl (by omega) hl rfl (by simp; omega) (by omega) fun us' hu hl' => ?_
   conv => whnf
   refine ⟨_, wr64 (by omega), ?_⟩
   conv => whnf
   exact ⟨⟨k + 1, by omega⟩, ent_drop (aI rfl (aI rfl (aI rfl (aI rfl trivial)))) (aI sM (aI ((aI rfl (Or.inl (by rw [hu, ← hs])))) trivial)) rfl (grp_two _ _ _ _), by show 12 - (k + 1) < 12 - k; omega⟩
  ·have hke : k = 12 := by simp at hc; omega
   subst hke
   conv => whnf
   refine ⟨_, _, ent_refl, ?_⟩
   conv => whnf
   exact ⟨⟨tab1 12, rfl⟩, ent_same rfl (aI rfl (aI rfl (aI rfl trivial))) (aI sM (aI sM trivial))⟩
 obtain ⟨v0, hv0⟩ := y
 refine satq_cut (α := { u : List Value // u = tab2 12 }) (fun _ => [(0, .p (.c (.ref 0 0))), (1, .p (.c (.ref 1 0))), (2, .p (.c (.clo (.func 134) [.ref 1 0])))]) (fun x => [.cells 195 (zero64.map .v), .cells 195 (x.1.map .v)]) ?_ fun y => ?_
 ·conv => whnf
  refine ⟨{ k : Nat // k ≤ 12 }, fun x => [(0, .p (.c (.ref 0 0))), (1, .p (.c (.ref 1 0))), (2, .p (.c (.clo (.func 134) [.ref 1 0]))), (4, one (intV ((x.1 : Int) + 16)))], fun x => [.cells 195 (zero64.map .v), .cells 195 ((tab2 x.1).map .v)], fun x => 12 - x.1,
   ⟨⟨0, by omega⟩, ent_same rfl (aI rfl (aI rfl (aI rfl (aI rfl trivial)))) (aI sM (aI ((aI rfl (Or.inl (by rw [tab2_zero]; exact congrArg (List.map CV.v) hv0)))) trivial))⟩, fun x => ?_⟩
  obtain ⟨k, hk⟩ := x
  dsimp only
  conv => whnf
  refine ⟨fun hc => ?_, fun hc => ?_⟩
  ·have hlt : k < 12 := by simp at hc; omega
   have hs := tab2_succ k
   have hl := tab2_len k
   generalize tab2 k = us at hs hl ⊢
   conv => whnf
   refine call_set true true false 1 18 0 [(k : Int) + 16] 2 1 rfl rfl (by omega) hl rfl (by simp; omega) (by omega) fun us' hu hl' => ?_
   conv => whnf
   refine ⟨_, wr64 (by omega), ?_⟩
   conv => whnf
   exact ⟨⟨k + 1, by omega⟩, ent_drop (aI rfl (aI rfl (aI rfl (aI rfl trivial)))) (aI sM (aI ((aI rfl (Or.inl (by rw [hu, ← hs])))) trivial)) rfl (grp_two _ _ _ _), by show 12 - (k + 1) < 12 - k; omega⟩
  ·have hke : k = 12 := by simp at hc; omega
   subst hke
   conv => whnf
   refine ⟨_, _, ent_refl, ?_⟩
   conv => whnf
   exact ⟨⟨tab2 12, rfl⟩, ent_same rfl (aI rfl (aI rfl (aI rfl trivial))) (aI sM (aI sM trivial))⟩
 obtain ⟨u0, hu0⟩ := y
 clear hv0 v0
 have hl0 : u0.length = 448 := by rw [hu0, tab2_len]
 dsimp only
 refine satq_seq ?_
 conv => whnf
 refine call_set true true false 2 18 0 [17, 18, 19] 2 3 rfl rfl (by omega) hl0 rfl (by simp) (by omega) fun u1 hu1 hl1 => ?_
 conv => whnf
 refine satq_seq ?_
 conv => whnf
 refine call_set true true false 1 18 0 [32, 33, 34, 35, 36, 37] 3 6 rfl rfl (by omega) hl1 rfl (by simp) (by omega) fun u2 hu2 hl2 => ?_
 conv => whnf
 refine satq_seq ?_
 conv => whnf
 refine call_set true false false 1 22 0 [40] 4 1 rfl rfl (by omega) hl2 rfl (by simp) (by omega) fun u3 hu3 hl3 => ?_
 conv => whnf
 refine satq_seq ?_
 conv => whnf
 refine call_set true false false 2 22 0 [41] 5 1 rfl rfl (by omega) hl3 rfl (by simp) (by omega) fun u4 hu4 hl4 => ?_
 conv => whnf
 refine satq_seq ?_
 conv => whnf
 refine call_set false false false 2 18 0 [48] 6 1 rfl rfl (by omega) hl4 rfl (by simp) (by omega) fun u5 hu5 hl5 => ?_
 conv => whnf
 refine satq_seq ?_
 conv => whnf
 refine call_set false false false 0 0 0 [49, 50, 51] 7 3 rfl rfl (by omega) hl5 rfl (by simp) (by omega) fun u6 hu6 hl6 => ?_
 conv => whnf
 refine satq_seq ?_
 conv => whnf
 refine call_set false true false 0 0 0 [52] 8 1 rfl rfl (by omega) hl6 rfl (by simp) (by omega) fun u7 hu7 hl7 => ?_
 conv => whnf
 refine satq_seq ?_
 conv => whnf
 refine call_set true false false 2 18 3 [53] 9 1 rfl rfl (by omega) hl7 rfl (by simp) (by omega) fun u8 hu8 hl8 => ?_
 conv => whnf
 refine satq_seq ?_
 conv => whnf
 refine call_set false true false 2 18 4 [54] 10 1 rfl rfl (by omega) hl8 rfl (by simp) (by omega) fun u9 hu9 hl9 => ?_
 conv => whnf
 have e : u9 = shapesL := by rw [hu9, hu8, hu7, hu6, hu5, hu4, hu3, hu2, hu1, hu0]; exact shapes_is
 have hfl : u9.all flatV = true := e ▸ shapes_flat
 have hm : (List.map CV.v u9).length = 448 := by rw [List.length_map, hl9]
 have hz : (List.map CV.v zero64).length = 448 := by rw [List.length_map, zero64_len]
 refine satq_vc ?_
 conv => whnf
 rw [show cut (List.map CV.v u9) 0 (Tryz.prog.types[195].size) = some (List.map CV.v u9) from cut_all hm]
 conv => whnf
 rw [show Nat.beq (List.map CV.v u9).length (Tryz.prog.types[195].size) = true from by rw [hm]; rfl, onesL_flat _ u9 hfl]
 conv => whnf
 rw [show Nat.ble (0 + (List.map CV.v u9).length) (List.map CV.v zero64).length = true from Nat.ble_eq_true_of_le (by rw [hm, hz]; omega)]
 conv => whnf
 refine atq_ret ?_
 conv => whnf
 rw [setAll_same (show (List.map CV.v zero64).length = (List.map CV.v u9).length by rw [hm, hz])]
 conv => whnf
 rw [show cut (List.map CV.v u9) 0 (Tryz.prog.types[195].size) = some (List.map CV.v u9) from cut_all hm]
 conv => whnf
 exact fin_val (val_agg _) fun w' hB => ⟨by rw [e], hB⟩
end Go.Proofs.YtnhdcclpjildjaaGreat
namespace Go.Proofs.YtnhdcclpjildjaaGreat
open Go.RowKit

theorem shapes_len : shapesL.length = 448 := by kernel_rfl
set_option maxRecDepth 100000 in
set_option maxHeartbeats 4000000 in
theorem shapes_at {op : Int} (h : 0 ≤ op ∧ op < 64) : cut (shapesL.map CV.v) (0 + op.toNat * 7) 7 = some ((shL (qForm op)).map CV.v) := by
 rcases ops64 h with rfl | rfl | rfl | rfl | rfl | rfl | rfl | rfl | rfl | rfl | rfl | rfl | rfl | rfl | rfl | rfl | rfl | rfl | rfl | rfl | rfl | rfl | rfl | rfl | rfl | rfl | rfl | rfl | rfl | rfl | rfl | rfl | rfl | rfl | rfl | rfl | rfl | rfl | rfl | rfl | rfl | rfl | rfl | rfl | rfl | rfl | rfl | rfl | rfl | rfl | rfl | rfl | rfl | rfl | rfl | rfl | rfl | rfl | rfl | rfl | rfl | rfl | rfl | rfl
 all_goals kernel_rfl
set_option maxRecDepth 100000 in
set_option maxHeartbeats 2000000 in
theorem of_walk (op : Int) (w : World) (h : 0 ≤ op ∧ op < 64) : Calls Tryz.prog 114 #[intV op] w fun e w' => e = .returned (shV (qForm op)) ∧ Below w.heap.size w w' := by
 obtain ⟨u, hu⟩ : ∃ u, u = shapesL := ⟨_, rfl⟩
 have hl : (List.map CV.v u).length = 448 := by rw [hu, List.length_map, shapes_len]
 have hfl : u.all flatV = true := hu ▸ shapes_flat
 have hat := shapes_at h
 rw [← hu] at hat
 refine calls_satq [intV op] Tryz.func114 Tryz.ntmps114 rfl (by simp) ?_
 refine satq_seqN ?_
 conv => whnf
 refine satq_seqN ?_
 conv => whnf
 refine call_con (xs := []) (x := .agg u.toArray) rfl (by kernel_rfl) (fun r w' _ => by rw [hu]; exact shapes_walk w') ?_
 conv => whnf
 rw [show Nat.beq (List.map CV.v u.toArray.toList).length (Tryz.prog.types[195].size) = true from by rw [show (List.map CV.v u.toArray.toList).length = 448 from hl]; rfl, show ∀ S, onesL S (List.map CV.v u.toArray.toList) = true from fun S => onesL_flat S u hfl]
 conv => whnf
 rw [show (List.map CV.v u.toArray.toList).length = 448 from hl]
 conv => whnf
 rw [setAll_same (show _ = (List.map CV.v u.toArray.toList).length from by rw [show (List.map CV.v u.toArray.toList).length = 448 from hl]; kernel_rfl)]
 refine satq_as (f' := [(0, one (intV op)), (2, .p (.c (.ref 0 0))), (3, .p (.c (.ref 1 0)))]) (S' := [.cells 189 ([Value.bool false, .bool false, .bool false, .bool false, intV 0, intV 0, .int .u32 0].map .v), .cells 195 (u.map .v)]) (ent_same rfl (aI rfl (aI rfl (aI rfl trivial))) (aI sM (aI sM trivial))) ?_
 refine satq_seqN ?_
 conv => whnf
 refine ⟨fun hc => ?_, fun hc => absurd hc (by simp; omega)⟩
 conv => whnf
 (repeat ((first | apply k1 | apply k2 | apply k3 | apply k4 | refine k5 (by decide) ?_ | refine k6 (by decide) ?_); conv => whnf))
 refine ⟨fun hc => absurd hc (by simp; omega), fun _ => ?_⟩
 conv => whnf
 refine satq_seqN ?_
 conv => whnf
 (refine ⟨⟨by omega, by omega⟩, ?_⟩; (conv=>whnf))
 rw [show cut (List.map CV.v u) (0 + op.toNat * tsz Tryz.prog 189) (Tryz.prog.types[189].size) = some ((shL (qForm op)).map CV.v) from hat]
 conv => whnf
 refine satq_vcN ?_
 conv => whnf
 refine atq_ret ?_
 conv => whnf
 exact fin_val rfl fun w' hB => ⟨rfl, hB⟩
end Go.Proofs.YtnhdcclpjildjaaGreat
namespace Go.Proofs.YtnhdcclpjildjaaGreat
open Go.RowKit

set_option maxRecDepth 100000 in
theorem fits_qcode (n : Int) (u : Bool) (w : World) : Calls Tryz.prog 135 #[intV n, .bool u] w fun e w' => e = .returned (.bool (regB n u)) ∧ Below w.heap.size w w' := by
 refine calls_valN [intV n, .bool u] Tryz.func135 Tryz.ntmps135 rfl (by simp) ?_
 conv => whnf
 refine ⟨fun h1 => ?_, fun h1 => ?_⟩
 ·conv => whnf
  (repeat ((first | apply k1 | apply k2 | apply k3 | apply k4 | refine k5 (by decide) ?_ | refine k6 (by decide) ?_); conv => whnf))
  cases u with
  | false =>
   conv => whnf
   (repeat ((first | apply k1 | apply k2 | apply k3 | apply k4 | refine k5 (by decide) ?_ | refine k6 (by decide) ?_); conv => whnf))
   refine fin_val rfl fun w' hB => ⟨?_, hB⟩
   have hn : n ≠ 0 := by simpa using h1
   simp [regB, hn]
  | true =>
   conv => whnf
   (repeat ((first | apply k1 | apply k2 | apply k3 | apply k4 | refine k5 (by decide) ?_ | refine k6 (by decide) ?_); conv => whnf))
   generalize hz : decide (n > 0) = z
   have hn : n ≠ 0 := by simpa using h1
   cases z with
   | false =>
    conv => whnf
    (repeat ((first | apply k1 | apply k2 | apply k3 | apply k4 | refine k5 (by decide) ?_ | refine k6 (by decide) ?_); conv => whnf))
    refine fin_val rfl fun w' hB => ⟨?_, hB⟩
    have : ¬ 0 < n := by simpa using hz
    simp [regB, hn, this]
   | true =>
    conv => whnf
    (repeat ((first | apply k1 | apply k2 | apply k3 | apply k4 | refine k5 (by decide) ?_ | refine k6 (by decide) ?_); conv => whnf))
    refine fin_val rfl fun w' hB => ⟨?_, hB⟩
    have : 0 < n := by simpa using hz
    simp [regB, hn, this]
 ·conv => whnf
  (repeat ((first | apply k1 | apply k2 | apply k3 | apply k4 | refine k5 (by decide) ?_ | refine k6 (by decide) ?_); conv => whnf))
  refine fin_val rfl fun w' hB => ⟨?_, hB⟩
  have hn : n = 0 := by simpa using h1
  simp [regB, hn]
theorem shr_zero {n : Int} {b : Nat} (hn : word n) (hb : b = 18 ∨ b = 22) : (n.fdiv (2 ^ (min (b : Int).toNat IntKind.u32.bits)) == 0) = decide (n < 2 ^ b) := by
 have h0 := hn.1
 rcases hb with rfl | rfl
 ·rw [show (2 : Int) ^ (min ((18 : Nat) : Int).toNat IntKind.u32.bits) = 262144 from rfl, show (2 : Int) ^ 18 = 262144 from rfl, Int.fdiv_eq_ediv_of_nonneg _ (by omega)]
  by_cases h : n < 262144
  ·rw [decide_eq_true h]; simp; omega
  ·rw [decide_eq_false h]; simp; omega
 ·rw [show (2 : Int) ^ (min ((22 : Nat) : Int).toNat IntKind.u32.bits) = 4194304 from rfl, show (2 : Int) ^ 22 = 4194304 from rfl, Int.fdiv_eq_ediv_of_nonneg _ (by omega)]
  by_cases h : n < 4194304
  ·rw [decide_eq_true h]; simp; omega
  ·rw [decide_eq_false h]; simp; omega
set_option maxRecDepth 100000 in
set_option maxHeartbeats 1000000 in
theorem imm_walk (f : QForm) (n : Int) (w : World) (hf : FOk f) (hn : word n) : Calls Tryz.prog 136 #[shV f, .int .u32 n] w fun e w' => e = .returned (.bool (immB f n)) ∧ Below w.heap.size w w' := by
 obtain ⟨is, fd, fa, fb, fs, bits, most⟩ := f
 obtain ⟨hb, hm, hs⟩ := hf
 dsimp only at hb hm hs
 have hk : kindF ⟨is, fd, fa, fb, fs, bits, most⟩ = if bits = 0 then 0 else if fs = true then 1 else 2 := rfl
 refine calls_valN [.agg #[.bool is, .bool fd, .bool fa, .bool fb, intV (kindF ⟨is, fd, fa, fb, fs, bits, most⟩), intV bits, .int .u32 most], .int .u32 n] Tryz.func136 Tryz.ntmps136 rfl (by simp) ?_
 rw [hk]
 rcases hb with rfl | hb
 ·rw [if_pos rfl]
  conv => whnf
  (repeat ((first | apply k1 | apply k2 | apply k3 | apply k4 | refine k5 (by decide) ?_ | refine k6 (by decide) ?_); conv => whnf))
  conv => whnf
  exact fin_val rfl fun w' hB => ⟨rfl, hB⟩
 have hb0 : ¬ bits = 0 := by omega
 rw [if_neg hb0]
 cases fs with
 | true =>
  rw [if_pos rfl]
  conv => whnf
  (repeat ((first | apply k1 | apply k2 | apply k3 | apply k4 | refine k5 (by decide) ?_ | refine k6 (by decide) ?_); conv => whnf))
  conv => whnf
  refine call_con rfl (by kernel_rfl) (fun r w' _ => fits_word n bits w' hn hb) ?_
  conv => whnf
  refine fin_val rfl fun w' hB => ⟨?_, hB⟩
  simp [immB, hb0]
 | false =>
  rw [if_neg (by decide)]
  conv => whnf
  (repeat ((first | apply k1 | apply k2 | apply k3 | apply k4 | refine k5 (by decide) ?_ | refine k6 (by decide) ?_); conv => whnf))
  conv => whnf
  refine ⟨fun hc => ?_, fun hc => ?_⟩
  ·conv => whnf
   refine fin_val rfl fun w' hB => ⟨?_, hB⟩
   have : 0 < most := by simpa using hc
   simp [immB, hb0, this]
  ·conv => whnf
   refine ⟨by omega, _, rfl, ?_⟩
   conv => whnf
   refine fin_val rfl fun w' hB => ⟨?_, hB⟩
   have : ¬ 0 < most := by simpa using hc
   rw [shr_zero hn hb]
   simp [immB, hb0, this]
set_option maxRecDepth 100000 in
set_option maxHeartbeats 1000000 in
theorem valid_walk (i : QI) (w : World) (h : 0 ≤ i.op ∧ i.op < 64) (hi : word i.imm) : Calls Tryz.prog 122 #[qiV i] w fun e w' => e = .returned (.bool (validQ i)) ∧ Below w.heap.size w w' := by
 refine calls_valN [qiV i] Tryz.func122 Tryz.ntmps122 rfl (by simp) ?_
 conv => whnf
 refine call_con rfl (by kernel_rfl) (fun r w' _ => of_walk i.op w' h) ?_
 have hf := form_ok i.op
 unfold validQ
 generalize qForm i.op = f at hf
 have hf2 := hf
 obtain ⟨is, fd, fa, fb, fs, bits, most⟩ := f
 dsimp only
 cases is with
 | false =>
  conv => whnf
  (repeat ((first | apply k1 | apply k2 | apply k3 | apply k4 | refine k5 (by decide) ?_ | refine k6 (by decide) ?_); conv => whnf))
  exact fin_val rfl fun w' hB => ⟨rfl, hB⟩
 | true =>
  conv => whnf
  (repeat ((first | apply k1 | apply k2 | apply k3 | apply k4 | refine k5 (by decide) ?_ | refine k6 (by decide) ?_); conv => whnf))
  refine call_con rfl (by kernel_rfl) (fun r w' _ => fits_qcode i.d fd w') ?_
  generalize regB i.d fd = x1
  cases x1 with
  | false =>
   conv => whnf
   (repeat ((first | apply k1 | apply k2 | apply k3 | apply k4 | refine k5 (by decide) ?_ | refine k6 (by decide) ?_); conv => whnf))
   exact fin_val rfl fun w' hB => ⟨rfl, hB⟩
  | true =>
   conv => whnf
   (repeat ((first | apply k1 | apply k2 | apply k3 | apply k4 | refine k5 (by decide) ?_ | refine k6 (by decide) ?_); conv => whnf))
   refine call_con rfl (by kernel_rfl) (fun r w' _ => fits_qcode i.a fa w') ?_
   generalize regB i.a fa = x2
   cases x2 with
   | false =>
    conv => whnf
    (repeat ((first | apply k1 | apply k2 | apply k3 | apply k4 | refine k5 (by decide) ?_ | refine k6 (by decide) ?_); conv => whnf))
    exact fin_val rfl fun w' hB => ⟨rfl, hB⟩
   | true =>
    conv => whnf
    (repeat ((first | apply k1 | apply k2 | apply k3 | apply k4 | refine k5 (by decide) ?_ | refine k6 (by decide) ?_); conv => whnf))
    refine call_con rfl (by kernel_rfl) (fun r w' _ => fits_qcode i.b fb w') ?_
    generalize regB i.b fb = x3
    cases x3 with
    | false =>
     conv => whnf
     (repeat ((first | apply k1 | apply k2 | apply k3 | apply k4 | refine k5 (by decide) ?_ | refine k6 (by decide) ?_); conv => whnf))
     exact fin_val rfl fun w' hB => ⟨rfl, hB⟩
    | true =>
     conv => whnf
     (repeat ((first | apply k1 | apply k2 | apply k3 | apply k4 | refine k5 (by decide) ?_ | refine k6 (by decide) ?_); conv => whnf))
     refine call_con rfl (by kernel_rfl) (fun r w' _ => imm_walk _ i.imm w' hf2 hi) ?_
     conv => whnf
     (repeat ((first | apply k1 | apply k2 | apply k3 | apply k4 | refine k5 (by decide) ?_ | refine k6 (by decide) ?_); conv => whnf))
     exact fin_val rfl fun w' hB => ⟨by simp, hB⟩
set_option maxRecDepth 100000 in
set_option maxHeartbeats 2000000 in
theorem encode_walk (i : QI) (w : World) (h : 0 ≤ i.op ∧ i.op < 64) (hi : word i.imm) : Calls Tryz.prog 117 #[qiV i] w fun e w' => e = .returned (encV (encQ i)) ∧ Below w.heap.size w w' := by
 refine calls_valN [qiV i] Tryz.func117 Tryz.ntmps117 rfl (by simp) ?_
 conv => whnf
 refine call_con rfl (by kernel_rfl) (fun r w' _ => valid_walk i w' h hi) ?_
 unfold encQ
 cases hv : validQ i with
 | false =>
  conv => whnf
  (repeat ((first | apply k1 | apply k2 | apply k3 | apply k4 | refine k5 (by decide) ?_ | refine k6 (by decide) ?_); conv => whnf))
  exact fin_val rfl fun w' hB => ⟨rfl, hB⟩
 | true =>
  obtain ⟨r0, rd, ra, rb⟩ := validQ_range hv
  have hor := enc_or hv hi
  have o1 : orI (i.op * 67108864) (i.d * 4194304) = i.op * 67108864 + i.d * 4194304 := orI_add 26 (by omega) (by omega) (by omega)
  have o2 : orI (i.op * 67108864 + i.d * 4194304) (i.a * 262144) = i.op * 67108864 + i.d * 4194304 + i.a * 262144 := orI_add 22 (by omega) (by omega) (by omega)
  have o3 : orI (i.op * 67108864 + i.d * 4194304 + i.a * 262144) (i.b * 16384) = i.op * 67108864 + i.d * 4194304 + i.a * 262144 + i.b * 16384 := orI_add 18 (by omega) (by omega) (by omega)
  rw [o1, o2, o3] at hor
  conv => whnf
  (repeat ((first | apply k1 | apply k2 | apply k3 | apply k4 | refine k5 (by decide) ?_ | refine k6 (by decide) ?_); conv => whnf))
  conv => whnf
  refine ⟨i.op, by rw [wr32]; omega, ?_⟩
  conv => whnf
  refine ⟨by omega, i.op * 67108864, by rw [wr32]; show i.op * 67108864 % _ = _; omega, ?_⟩
  conv => whnf
  refine ⟨i.d, by rw [wr32]; omega, ?_⟩
  conv => whnf
  refine ⟨by omega, i.d * 4194304, by rw [wr32]; show i.d * 4194304 % _ = _; omega, ?_⟩
  conv => whnf
  refine ⟨_, (u32_or (by unfold word; omega) (by unfold word; omega)).trans o1, ?_⟩
  conv => whnf
  refine ⟨i.a, by rw [wr32]; omega, ?_⟩
  conv => whnf
  refine ⟨by omega, i.a * 262144, by rw [wr32]; show i.a * 262144 % _ = _; omega, ?_⟩
  conv => whnf
  refine ⟨_, (u32_or (by unfold word; omega) (by unfold word; omega)).trans o2, ?_⟩
  conv => whnf
  refine ⟨i.b, by rw [wr32]; omega, ?_⟩
  conv => whnf
  refine ⟨by omega, i.b * 16384, by rw [wr32]; show i.b * 16384 % _ = _; omega, ?_⟩
  conv => whnf
  refine ⟨_, (u32_or (by unfold word; omega) (by unfold word; omega)).trans o3, ?_⟩
  conv => whnf
  refine sat_quiet mixed (by kernel_rfl) ?_
  conv => whnf
  refine q_con rfl (by kernel_rfl) (fun r w' _ => of_walk i.op w' h) ?_
  have hf := form_ok i.op
  generalize qForm i.op = f at hf hor ⊢
  conv => whnf
  have hsh : ∃ m, 0 ≤ (f.bits : Int) ∧ IntKind.u32.wrap (1 * 2 ^ (min (f.bits : Int).toNat IntKind.u32.bits)) = m ∧ m = 2 ^ f.bits := by
   rcases hf.bits with hb | hb | hb <;> rw [hb] <;> exact ⟨_, by omega, rfl, rfl⟩
  obtain ⟨m, s1, s2, s3⟩ := hsh
  refine ⟨s1, m, s2, ?_⟩
  have hm1 : 1 ≤ m ∧ m ≤ 4194304 := by rw [s3]; rcases hf.bits with hb | hb | hb <;> rw [hb] <;> omega
  conv => whnf
  refine ⟨m - 1, by rw [wr32]; omega, ?_⟩
  conv => whnf
  have hand : word (andI i.imm (2 ^ f.bits - 1)) := by
   rw [andI_mod f.bits hi.1]
   rcases hf.bits with hb | hb | hb <;> rw [hb] <;> unfold word <;> omega
  refine ⟨andI i.imm (2 ^ f.bits - 1), by rw [← s3]; exact u32_and hi (by unfold word; omega), ?_⟩
  conv => whnf
  refine ⟨wordQ i, (u32_or (by unfold word; omega) hand).trans hor, ?_⟩
  conv => whnf
  exact fin_val rfl fun w' hB => ⟨rfl, hB⟩
end Go.Proofs.YtnhdcclpjildjaaGreat
namespace Go.Proofs.YtnhdcclpjildjaaGreat
open Go.RowKit

section
variable {P : Program} {w0 : World} {G : Gs} {S : List Ow} {fid : FuncId} {t : TypeId} {us : List Value} {pre : List AV} {ps : List Value} {x : Value}
theorem box_calls (i : Nat) (hi : S[i]? = some (.cells t (us.map .v))) (hx : avals pre = some ps)
  (h : ∀ w b, w.heap[b]? = some (.cells us.toArray t (0, 0)) → Calls P fid (ps ++ [Value.pointer (some ⟨b, 0, none⟩)]).toArray w fun e w' => e = .returned x ∧ Below w.heap.size w w') :
  ∀ r w vs, Rel w0 G S r w → avdenL r (pre ++ [.p (.c (.ref i 0))]) vs → Calls P fid vs.toArray w fun e w' => e = .returned x ∧ Below w.heap.size w w' := by
 intro r w vs hR hd
 obtain ⟨us1, us2, rfl, d1, d2⟩ := avden_append hd
 obtain rfl := avals_den hx d1
 obtain ⟨u1, l1, rfl, d3, d4⟩ := d2
 obtain rfl : l1 = [] := d4
 obtain ⟨b, hb, rfl⟩ := den_ref d3
 obtain ⟨b', us3, e1, e2, e3⟩ := hR.own i _ hi
 rw [hb] at e1; injection e1 with e1; subst e1
 obtain rfl := denL_vals_inv e3
 exact h w b e2
theorem q_box {K : AV → Prop} (i : Nat) (hi : S[i]? = some (.cells t (us.map .v))) (hx : avals pre = some ps) (hok : fnOk P fid = true)
  (h : ∀ w b, w.heap[b]? = some (.cells us.toArray t (0, 0)) → Calls P fid (ps ++ [Value.pointer (some ⟨b, 0, none⟩)]).toArray w fun e w' => e = .returned x ∧ Below w.heap.size w w') (hK : K (AV.of x)) : QCall P w0 G S fid (pre ++ [.p (.c (.ref i 0))]) K :=
 ⟨hok, x, hK, box_calls i hi hx h⟩
end
theorem shr_at {x : Int} (h0 : 0 ≤ x) {k : Int} (hk : k = 22 ∨ k = 18 ∨ k = 14) : x.fdiv (2 ^ (min k.toNat IntKind.u32.bits)) = x / 2 ^ k.toNat ∧ 0 ≤ x / 2 ^ k.toNat := by
 rcases hk with rfl | rfl | rfl
 ·rw [show (min (22 : Int).toNat IntKind.u32.bits) = 22 from rfl, show (22 : Int).toNat = 22 from rfl, Int.fdiv_eq_ediv_of_nonneg _ (by omega)]; exact ⟨rfl, by omega⟩
 ·rw [show (min (18 : Int).toNat IntKind.u32.bits) = 18 from rfl, show (18 : Int).toNat = 18 from rfl, Int.fdiv_eq_ediv_of_nonneg _ (by omega)]; exact ⟨rfl, by omega⟩
 ·rw [show (min (14 : Int).toNat IntKind.u32.bits) = 14 from rfl, show (14 : Int).toNat = 14 from rfl, Int.fdiv_eq_ediv_of_nonneg _ (by omega)]; exact ⟨rfl, by omega⟩
set_option maxRecDepth 100000 in
theorem field_walk (x k : Int) (used : Bool) (w : World) (b : Nat) (hb : w.heap[b]? = some (.cells #[.int .u32 x] 35 (0, 0))) (h0 : 0 ≤ x) (hk : k = 22 ∨ k = 18 ∨ k = 14) :
  Calls Tryz.prog 115 #[.bool used, intV k, .pointer (some ⟨b, 0, none⟩)] w fun e w' => e = .returned (intV (if used = true then x / 2 ^ k.toNat % 16 else 0)) ∧ Below w.heap.size w w' := by
 refine calls_valN [.bool used, intV k, .pointer (some ⟨b, 0, none⟩)] Tryz.func115 Tryz.ntmps115 rfl (by simp) ?_
 cases used with
 | false =>
  conv => whnf
  (repeat ((first | apply k1 | apply k2 | apply k3 | apply k4 | refine k5 (by decide) ?_ | refine k6 (by decide) ?_); conv => whnf))
  exact fin_val rfl fun w' hB => ⟨rfl, hB⟩
 | true =>
  conv => whnf
  (repeat ((first | apply k1 | apply k2 | apply k3 | apply k4 | refine k5 (by decide) ?_ | refine k6 (by decide) ?_); conv => whnf))
  conv => whnf
  have hlt : b < w.heap.size := by
   rcases Nat.lt_or_ge b w.heap.size with h | h
   ·exact h
   ·rw [Array.getElem?_eq_none h] at hb; cases hb
  refine ⟨_, cells_one hlt (by simp) (by simp [World.cell?, hb]; rfl), ?_⟩
  conv => whnf
  obtain ⟨e1, e2⟩ := shr_at h0 hk
  refine ⟨by omega, _, e1, ?_⟩
  conv => whnf
  refine ⟨by decide, x / 2 ^ k.toNat % 16, Int.tmod_eq_emod_of_nonneg e2, ?_⟩
  conv => whnf
  refine ⟨x / 2 ^ k.toNat % 16, wr64 (by omega), ?_⟩
  conv => whnf
  exact fin_val rfl fun w' hB => ⟨rfl, hB⟩
set_option maxRecDepth 100000 in
set_option maxHeartbeats 2000000 in
theorem decode_walk (x : Int) (w : World) (hx : word x) : Calls Tryz.prog 97 #[.int .u32 x] w fun e w' => e = .returned (decV (decQ x)) ∧ Below w.heap.size w w' := by
 have h0 := hx.1
 obtain ⟨q1, q2⟩ := q26 hx
 refine calls_satq [.int .u32 x] Tryz.func97 Tryz.ntmps97 rfl (by simp) ?_
 refine satq_seqN ?_
 conv => whnf
 refine satq_seqN ?_
 conv => whnf
 refine ⟨by decide, x / 67108864, ?_, ?_⟩
 ·show x.fdiv (2 ^ 26) = _
  rw [show (2 : Int) ^ 26 = 67108864 from rfl, Int.fdiv_eq_ediv_of_nonneg _ (by omega)]
 conv => whnf
 refine ⟨x / 67108864, wr64 (by omega), ?_⟩
 conv => whnf
 refine satq_seqN ?_
 conv => whnf
 refine call_con rfl (by kernel_rfl) (fun r w' _ => of_walk (x / 67108864) w' q2) ?_
 have hf := form_ok (x / 67108864)
 have hy : fieldsQ x = fieldsF (qForm (x / 67108864)) x := rfl
 unfold decQ
 rw [hy]
 clear hy
 generalize qForm (x / 67108864) = f at hf ⊢
 obtain ⟨is, fd, fa, fb, fs, bits, most⟩ := f
 obtain ⟨hb, hm, hs⟩ := hf
 dsimp only at hb hm hs
 conv => whnf
 refine satq_seqN ?_
 conv => whnf
 refine satq_seqN ?_
 conv => whnf
 refine sat_tail 13 mixed (by kernel_rfl) ?_
 conv => whnf
 refine q_box (us := [.int .u32 x]) 0 rfl rfl (by kernel_rfl) (fun w b hb => field_walk x 22 fd w b hb h0 (.inl rfl)) ?_
 conv => whnf
 refine q_box (us := [.int .u32 x]) 0 rfl rfl (by kernel_rfl) (fun w b hb => field_walk x 18 fa w b hb h0 (.inr (.inl rfl))) ?_
 conv => whnf
 refine q_box (us := [.int .u32 x]) 0 rfl rfl (by kernel_rfl) (fun w b hb => field_walk x 14 fb w b hb h0 (.inr (.inr rfl))) ?_
 conv => whnf
 refine satq_seqN ?_
 conv => whnf
 refine sat_tail 7 mixed (by kernel_rfl) ?_
 conv => whnf
 have hsh : ∃ m, 0 ≤ (bits : Int) ∧ IntKind.u32.wrap (1 * 2 ^ (min (bits : Int).toNat IntKind.u32.bits)) = m ∧ m = 2 ^ bits := by
  rcases hb with hb | hb | hb <;> rw [hb] <;> exact ⟨_, by omega, rfl, rfl⟩
 obtain ⟨m, s1, s2, s3⟩ := hsh
 refine ⟨s1, m, s2, ?_⟩
 have hm1 : 1 ≤ m ∧ m ≤ 4194304 := by rw [s3]; rcases hb with hb | hb | hb <;> rw [hb] <;> omega
 conv => whnf
 refine ⟨m - 1, by rw [wr32]; omega, ?_⟩
 conv => whnf
 refine ⟨x % 2 ^ bits, by rw [← andI_mod bits h0, ← s3]; exact u32_and hx (by unfold word; omega), ?_⟩
 conv => whnf
 have hwl : word (x % 2 ^ bits) := by rcases hb with hb | hb | hb <;> rw [hb] <;> unfold word <;> omega
 obtain ⟨y, hy⟩ : ∃ y, fieldsF ⟨is, fd, fa, fb, fs, bits, most⟩ x = y := ⟨_, rfl⟩
 rw [hy]
 have hyop : y.op = x / 67108864 := by rw [← hy]; rfl
 have hk : kindF ⟨is, fd, fa, fb, fs, bits, most⟩ = if fs = true then 1 else if bits = 0 then 0 else 2 := by
  cases fs <;> rcases hb with rfl | rfl | rfl <;> simp [kindF] at hs ⊢
 have hyw : word y.imm := by
  rw [← hy]
  unfold fieldsF
  dsimp only
  split
  ·rename_i h; exact sgnW_w _ (by rcases hb with hb | hb | hb; · exact absurd (hs h).1 (by omega)
                                  · exact .inr (.inl hb)
                                  · exact .inr (.inr hb))
  ·exact hwl
 have hcell : (fieldsF ⟨is, fd, fa, fb, fs, bits, most⟩ x) = ⟨x / 67108864, if fd = true then x / 2 ^ (22 : Int).toNat % 16 else 0, if fa = true then x / 2 ^ (18 : Int).toNat % 16 else 0, if fb = true then x / 2 ^ (14 : Int).toNat % 16 else 0, if fs = true then sgnW (x % 2 ^ bits) bits else x % 2 ^ bits⟩ := rfl
 refine satq_cut (α := Unit) (fun _ => [(1, .p (.c (.ref 0 0))), (2, .p (.c (.ref 1 0))), (4, .p (.c (.ref 2 0)))]) (fun _ => [.cells 35 ([Value.int .u32 x].map .v), .cells 62 ((qiL QI.zero).map .v), .cells 62 ((qiL y).map .v)]) ?_ fun _ => ?_
 ·conv => whnf
  rw [hk]
  cases fs with
  | false =>
   rw [if_neg (by decide)]
   refine ⟨fun hc => absurd hc (by split <;> simp), fun _ => ?_⟩
   conv => whnf
   refine ⟨(), ent_drop (aI rfl (aI rfl (aI rfl trivial))) (aI sM (aI sM (aI ((aI rfl (Or.inl (by rw [← hy]; rfl)))) trivial))) rfl rfl⟩
  | true =>
   rw [if_pos rfl]
   (repeat ((first | apply k1 | apply k2 | apply k3 | apply k4 | refine k5 (by decide) ?_ | refine k6 (by decide) ?_); conv => whnf))
   have hb2 : bits = 18 ∨ bits = 22 := by have := hs rfl; omega
   refine call_con rfl (by kernel_rfl) (fun r w' _ => sign_word (x % 2 ^ bits) bits w' hwl hb2) ?_
   conv => whnf
   refine ⟨(), ent_drop (aI rfl (aI rfl (aI rfl trivial))) (aI sM (aI sM (aI ((aI rfl (Or.inl (by rw [← hy]; rfl)))) trivial))) rfl rfl⟩
 clear hk hcell hs hb hm
 refine satq_seqN ?_
 conv => whnf
 refine call_con (xs := [qiV y]) rfl (by kernel_rfl) (fun r w' _ => encode_walk y w' (by rw [hyop]; exact q2) hyw) ?_
 generalize encQ y = ey
 cases ey with
 | none =>
  conv => whnf
  (repeat ((first | apply k1 | apply k2 | apply k3 | apply k4 | refine k5 (by decide) ?_ | refine k6 (by decide) ?_); conv => whnf))
  conv => whnf
  refine atq_ret ?_
  conv => whnf
  exact fin_val rfl fun w' hB => ⟨by simp [decV, QI.zero], hB⟩
 | some z =>
  conv => whnf
  (repeat ((first | apply k1 | apply k2 | apply k3 | apply k4 | refine k5 (by decide) ?_ | refine k6 (by decide) ?_); conv => whnf))
  conv => whnf
  refine ⟨fun hc => ?_, fun hc => ?_⟩
  ·conv => whnf
   refine atq_ret ?_
   conv => whnf
   refine fin_val rfl fun w' hB => ⟨?_, hB⟩
   have : ¬ z = x := by simpa using hc
   simp [decV, QI.zero, this]
  ·conv => whnf
   refine satq_vcN ?_
   conv => whnf
   refine atq_ret ?_
   conv => whnf
   refine fin_val rfl fun w' hB => ⟨?_, hB⟩
   have : z = x := by simpa using hc
   rw [if_pos (by rw [this])]
   rfl
end Go.Proofs.YtnhdcclpjildjaaGreat
