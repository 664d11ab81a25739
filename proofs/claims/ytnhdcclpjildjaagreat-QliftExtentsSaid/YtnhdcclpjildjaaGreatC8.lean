/- Lists of operations with '&&' and '||'; code; loops; functions. -/
import Derived.Lib.SlicesCompact
import Derived.Test.YtnhdcclpjildjaaGreatC7
namespace Go.Proofs.YtnhdcclpjildjaaGreat
open Go.RowKit

section
variable {P : Program} {w0 : World} {G : Gs} {N : Nd} {ops : Array Oper}
theorem onTop_agree {n : Nat} {r : Env} {f f' : Fr} {grp : List Oper} {d : Nat} {x : Bool} {a : Act} (hfx : f.get d = one (.bool x)) (htop : onTop (dstsOf grp) ((d, one (.bool x)) :: f) (putN grp) f') (hf : FDen r f' a) (hb : f.bnd n = true) : FDen (r.upto n) (putsAny grp f) a := by
 intro k
 rcases putsAny_get grp f k with h | ⟨h1, h2⟩
 ·rw [h]; simp [AV.den, Pc.den, CV.den]
 ·rw [h1]
  have e1 := onTop_get _ _ htop k h2
  have e2 := hf k
  rw [e1] at e2
  simp only [Fr.get] at e2
  split at e2
  ·rename_i hk
   have := Nat.eq_of_beq_eq_true hk; subst this
   rw [hfx]
   exact AV.den_agree (Env.upto_agree n r) _ _ rfl e2
  ·exact AV.den_agree (Env.upto_agree n r) _ _ (Fr.bnd_get k hb) e2
end
theorem sbnd_get {n : Nat} : ∀ {S : List Ow} {i : Nat} {o : Ow}, sbnd n S = true → S[i]? = some o → o.bnd n = true
 | [], i, o, _, h => by simp at h
 | x :: S, i, o, hb, h => by
  simp only [sbnd] at hb
  split at hb
  ·rename_i hx
   cases i with
   | zero => simp at h; subst h; exact hx
   | succ i => exact sbnd_get hb (by simpa using h)
  ·cases hb
section
variable {P : Program} {w0 : World} {G : Gs} {N : Nd} {ops : Array Oper}
theorem opsK_sound {Q : Act → World → Prop} : ∀ (n : Nat) (l : List Oper) (f : Fr) (S : List Ow) (K : Fr → List Ow → Prop), opsK P w0 G N ops n l f S K → (∀ f' S' a' w', K f' S' → Good w0 G N f' S' a' w' → Q a' w') →
  ∀ a w, Good w0 G N f S a w → seL P ops Q l a w
 | _, [], f, S, K, h, hK, a, w, hg => by cases ‹Nat› <;> exact hK _ _ _ _ h hg
 | 0, o :: l, f, S, K, h, hK, a, w, hg => h.elim
 | n + 1, o :: l, f, S, K, h, hK, a, w, hg => by
  unfold opsK at h
  have hsplit : ∀ {j d : Nat} {pol x : Bool}, o.guard = some (j, pol) → slotOf ops j = some d → f.get d = one (.bool x) →
    ((x = pol → opK P w0 G N o ((d, one (.bool pol)) :: f) S fun f' S' => opsK P w0 G N ops n l f' S' K) ∧
     (x = (!pol) → match dstOk N.n o.dst with | true => (Fr.putK ((d, one (.bool (!pol))) :: f) o.dst (.p (.c .any)) fun f' => opsK P w0 G N ops n l f' S K) | false => False)) → seL P ops Q (o :: l) a w := by
   intro j d pol x hg' hs hfx ⟨h1, h2⟩
   by_cases hx : x = pol
   ·obtain ⟨r, hR, hf, hN, hd⟩ := hg.known (d := d) (x := one (.bool pol)) (by rw [hfx, hx])
    refine step_do ?_ ((opK_sound (h1 hx)).out r a w hR hf hN hd _ (fun _ _ _ => True) fun f' S' a' w' hk hgd => opsK_sound n l f' S' K hk hK a' w' hgd)
    rw [wanted_some hg', yielded_of hf hs (get_cons_self d _ f)]; simp
   ·have hx' : x = !pol := by cases x <;> cases pol <;> simp_all
    have h2 := h2 hx'
    obtain ⟨r, hR, hf, hN, hd⟩ := hg.known (d := d) (x := one (.bool (!pol))) (by rw [hfx, hx'])
    split at h2
    ·rename_i hdst
     refine step_not ?_ (opsK_sound n l _ S K (putK_iff.1 h2) hK _ _ ⟨r, hR, hf.putAny undef (by rw [hN]; exact hdst), (put_size a _ _).trans hN, (put_defers a _ _).trans hd⟩)
     rw [wanted_some hg', yielded_of hf hs (get_cons_self d _ f)]; cases pol <;> simp
    ·exact h2.elim
  split at h
  ·rename_i hgd
   obtain ⟨r, hR, hf, hN, hd⟩ := hg
   exact step_do (wanted_none hgd _) ((opK_sound h).out r a w hR hf hN hd _ (fun _ _ _ => True) fun f' S' a' w' hk hg' => opsK_sound n l f' S' K hk hK a' w' hg')
  ·rename_i j pol hgd
   split at h
   ·exact h.elim
   ·rename_i d hs
    split at h
    ·rename_i x hfx
     split at h
     ·rename_i grp p rem hspan
      split at h
      ·rename_i b hpick
       split at h
       ·rename_i hD hpd hmem
        have hmem := memN_not hmem
        obtain ⟨y, hy, hrest⟩ := h
        rw [putsAnyK_iff, putK_iff] at hrest
        have hall : ∀ o ∈ grp, o.guard = some (j, pol) := fun o' ho' => spanG_all j pol (o :: l) o' (by rw [hspan]; exact ho')
        have happ : grp ++ p :: rem = o :: l := by have := spanG_append j pol (o :: l); rw [hspan] at this; exact this
        rw [← happ]
        by_cases hx : x = pol
        ·have h1 := hy hx
         refine seqK_sound hs grp _ S _ hall h1 ?_ a w (hg.known (d := d) (x := one (.bool pol)) (by rw [hfx, hx]))
         rintro f' S' a' w' ⟨htop, htake, hb, hbnd, hgrp⟩ ⟨r', hR', hf', hN', hd'⟩
         subst hx
         have hS : S.length ≤ S'.length := by
          have := congrArg List.length htake
          simp at this; omega
         have hfd := onTop_agree (grp := grp) hfx htop hf' hbnd
         have hR2 : Rel w0 G S' r' w' := hR'
         have eb : a'.eval (.tmp b) = .bool y := by have := hf' b; rw [hb] at this; exact den_v this
         have ed : a'.eval (.tmp d) = .bool x := by
          have h2 := hf' d
          rw [onTop_get _ _ htop d hmem, get_cons_self] at h2
          exact den_v h2
         obtain ⟨hpg, hprun⟩ := pick_run (P := P) hpick (a := a') ed (fun _ => eb) w'
         refine step_do (wanted_none hpg _) (wp_of_value hprun ?_)
         refine opsK_sound n rem _ S K hrest hK _ _ ⟨r'.upto S.length, ?_, hfd.put (den_one _ _) (by rw [hN']; exact hpd), (put_size a' _ _).trans hN', (put_defers a' _ _).trans hd'⟩
         unfold grpOk at hgrp
         split at hgrp
         ·rename_i hG
          refine hR2.upto rfl hS (Nat.le_of_ble_eq_true hG) fun i o' ho' => ?_
          have hil : i < S.length := by
           rcases Nat.lt_or_ge i S.length with h1 | h1
           ·exact h1
           ·rw [List.getElem?_eq_none h1] at ho'; cases ho'
          have ho2 : S'[i]? = some o' := by rw [← htake, List.getElem?_take] at ho'; rw [if_pos hil] at ho'; exact ho'
          exact Ow.holds_agree (hR2.own i o' ho2) (Env.upto_agree _ _) (sbnd_get hgrp ho') hil (Env.upto_blk _ _)
         ·cases hgrp
        ·refine allDst_put grp hD hs hall hx hfx hmem hg fun a' hg' => ?_
         obtain ⟨r', hR', hf', hN', hd'⟩ := hg'
         have ed : a'.eval (.tmp d) = .bool x := by
          have h2 := hf' d
          rw [putsAny_far grp f d hmem, hfx] at h2
          exact den_v h2
         obtain ⟨hpg, hprun⟩ := pick_run (P := P) (y := y) hpick (a := a') ed (fun e => absurd e hx) w
         refine step_do (wanted_none hpg _) (wp_of_value hprun ?_)
         exact opsK_sound n rem _ S K hrest hK _ _ ⟨r', hR', hf'.put (den_one _ _) (by rw [hN']; exact hpd), (put_size a' _ _).trans hN', (put_defers a' _ _).trans hd'⟩
       ·exact h.elim
      ·exact hsplit hgd hs hfx h
     ·exact hsplit hgd hs hfx h
    ·exact h.elim
end
end Go.Proofs.YtnhdcclpjildjaaGreat
namespace Go.Proofs.YtnhdcclpjildjaaGreat
open Go.RowKit

def Inc (l : List Int) : Prop := l.Pairwise (· < ·)
def putP : List Int → Int → List Int
 | [], p => [p]
 | x :: l, p => if x = p then x :: l else if p < x then p :: x :: l else x :: putP l p
theorem mem_putP {l : List Int} {p x : Int} : x ∈ putP l p ↔ x = p ∨ x ∈ l := by
 induction l with
 | nil => simp [putP]
 | cons y l ih =>
  unfold putP
  split
  ·rename_i h; subst h; simp
  ·split
   ·simp
   ·simp only [List.mem_cons, ih]
    constructor
    ·rintro (h | h | h) <;> simp [h]
    ·rintro (h | h | h) <;> simp [h]
theorem putP_inc {l : List Int} {p : Int} (h : Inc l) : Inc (putP l p) := by
 induction l with
 | nil => simp [putP, Inc]
 | cons y l ih =>
  unfold Inc at h
  rw [List.pairwise_cons] at h
  unfold putP
  split
  ·unfold Inc; rw [List.pairwise_cons]; exact h
  ·split
   ·rename_i h1 h2
    unfold Inc
    rw [List.pairwise_cons, List.pairwise_cons]
    refine ⟨fun x hx => ?_, h⟩
    rcases List.mem_cons.1 hx with rfl | hx
    ·exact h2
    ·exact Int.lt_trans h2 (h.1 x hx)
   ·rename_i h1 h2
    unfold Inc
    rw [List.pairwise_cons]
    refine ⟨fun x hx => ?_, ih h.2⟩
    rcases mem_putP.1 hx with rfl | hx
    ·omega
    ·exact h.1 x hx
theorem inc_ext : ∀ {l m : List Int}, Inc l → Inc m → (∀ x, x ∈ l ↔ x ∈ m) → l = m
 | [], [], _, _, _ => rfl
 | [], y :: m, _, _, h => by have := (h y).2 (by simp); cases this
 | x :: l, [], _, _, h => by have := (h x).1 (by simp); cases this
 | x :: l, y :: m, hl, hm, h => by
  unfold Inc at hl hm
  rw [List.pairwise_cons] at hl hm
  have hxy : x = y := by
   have h1 := (h x).1 (by simp)
   have h2 := (h y).2 (by simp)
   rcases List.mem_cons.1 h1 with h1 | h1
   ·exact h1
   ·rcases List.mem_cons.1 h2 with h2 | h2
    ·exact h2.symm
    ·have a := hm.1 x h1
     have b := hl.1 y h2
     omega
  subst hxy
  congr 1
  refine inc_ext hl.2 hm.2 fun z => ⟨fun hz => ?_, fun hz => ?_⟩
  ·rcases List.mem_cons.1 ((h z).1 (List.mem_cons_of_mem _ hz)) with rfl | h1
   ·have := hl.1 z hz; omega
   ·exact h1
  ·rcases List.mem_cons.1 ((h z).2 (List.mem_cons_of_mem _ hz)) with rfl | h1
   ·have := hm.1 z hz; omega
   ·exact h1
theorem pagesFrom_inc : ∀ {l : List Int} {q : Option Int}, Inc l → (∀ x ∈ l, 0 ≤ x ∧ x < 4096) → (∀ p, q = some p → ∀ x ∈ l, p < x) → pagesFrom q l = true
 | [], _, _, _, _ => rfl
 | x :: l, q, hi, hr, hq => by
  unfold Inc at hi
  rw [List.pairwise_cons] at hi
  have h1 : decide (0 ≤ x ∧ x < 4096) = true := decide_eq_true (hr x (by simp))
  have h2 : (match q with | none => true | some q => decide (q < x)) = true := by
   cases q with
   | none => rfl
   | some p => exact decide_eq_true (hq p rfl x (by simp))
  have h3 : pagesFrom (some x) l = true := pagesFrom_inc hi.2 (fun y hy => hr y (by simp [hy])) (fun p hp y hy => by injection hp with hp; subst hp; exact hi.1 y hy)
  unfold pagesFrom
  rw [h1, h3]
  cases q with
  | none => rfl
  | some p => simpa using h2
def pageOf (a : Int) : Int := cut32 a / 256
def addPage (l : List Int) (a : Int) : List Int := if pageOf a < 4096 then putP l (pageOf a) else l
def addPages (l : List Int) (a : Int) : List Int := addPage (addPage (addPage (addPage l a) (a + 1)) (a + 2)) (a + 3)
def liftPages (pc : Int) : Nat → List Int
 | 0 => []
 | m + 1 => addPages (liftPages pc m) (qAddr pc m)
structure PagesIn (l : List Int) : Prop where
 inc : Inc l
 range : ∀ x ∈ l, 0 ≤ x ∧ x < 4096
theorem addPage_in {l : List Int} (h : PagesIn l) (a : Int) : PagesIn (addPage l a) := by
 unfold addPage
 split
 ·rename_i hp
  refine ⟨putP_inc h.inc, fun x hx => ?_⟩
  rcases mem_putP.1 hx with rfl | hx
  ·refine ⟨?_, hp⟩
   have := cut32_word a
   unfold word at this
   unfold pageOf
   omega
  ·exact h.range x hx
 ·exact h
theorem addPages_in {l : List Int} (h : PagesIn l) (a : Int) : PagesIn (addPages l a) := addPage_in (addPage_in (addPage_in (addPage_in h a) _) _) _
theorem liftPages_in (pc : Int) : ∀ m, PagesIn (liftPages pc m)
 | 0 => ⟨List.Pairwise.nil, nofun⟩
 | m + 1 => addPages_in (liftPages_in pc m) _
theorem mem_addPage {l : List Int} {a x : Int} : x ∈ addPage l a ↔ x ∈ l ∨ (x = pageOf a ∧ pageOf a < 4096) := by
 unfold addPage
 split
 ·rename_i h; rw [mem_putP]; constructor
  ·rintro (h1 | h1)
   ·exact .inr ⟨h1, h⟩
   ·exact .inl h1
  ·rintro (h1 | h1)
   ·exact .inr h1
   ·exact .inl h1.1
 ·rename_i h; constructor
  ·exact .inl
  ·rintro (h1 | h1)
   ·exact h1
   ·exact absurd h1.2 h
theorem putP_length (l : List Int) (p : Int) : (putP l p).length ≤ l.length + 1 := by
 induction l with
 | nil => simp [putP]
 | cons y l ih => unfold putP; split <;> (try split) <;> simp <;> omega
theorem addPage_length (l : List Int) (a : Int) : (addPage l a).length ≤ l.length + 1 := by
 unfold addPage; split
 ·exact putP_length _ _
 ·omega
theorem addPages_length (l : List Int) (a : Int) : (addPages l a).length ≤ l.length + 4 := by
 have h1 := addPage_length l a
 have h2 := addPage_length (addPage l a) (a + 1)
 have h3 := addPage_length (addPage (addPage l a) (a + 1)) (a + 2)
 have h4 := addPage_length (addPage (addPage (addPage l a) (a + 1)) (a + 2)) (a + 3)
 unfold addPages; omega
theorem liftPages_length (pc : Int) : ∀ m, (liftPages pc m).length ≤ 4 * m
 | 0 => by simp [liftPages]
 | m + 1 => by have := liftPages_length pc m; have := addPages_length (liftPages pc m) (qAddr pc m); unfold liftPages; omega
def liftQ (F : Int → Option QI) (pc : Int) (n : Nat) : Blk := liftB F pc n (liftPages pc (liftLen F pc n n 0))
theorem liftQ_valid {F : Int → Option QI} (hF : ∀ a i, F a = some i → i.ok) (pc : Int) {n : Nat} (h1 : 1 ≤ n) (hn : n ≤ 64) : (liftQ F pc n).ok ∧ validB (liftQ F pc n) = true ∧ ∀ o ∈ (liftQ F pc n).ops, clean o := by
 have hin := liftPages_in pc (liftLen F pc n n 0)
 have hlen := liftPages_length pc (liftLen F pc n n 0)
 obtain ⟨_, _, _, hhi, _⟩ := lift_run hF pc hn n 0 [] 0 false PreOk.nil (by omega) (by omega)
 obtain ⟨a, b, c, _⟩ := lift_valid hF pc h1 hn (pagesFrom_inc hin.inc hin.range nofun) (by omega)
 exact ⟨a, b, c⟩
theorem liftPages_is {pc : Int} {m : Nat} {l : List Int} (hi : Inc l) (h : ∀ x, x ∈ l ↔ x ∈ liftPages pc m) : l = liftPages pc m := inc_ext hi (liftPages_in pc m).inc h
end Go.Proofs.YtnhdcclpjildjaaGreat
namespace Go.Proofs.YtnhdcclpjildjaaGreat
open Go.RowKit

section
variable (ro : Option Nat) (P : Program) (w0 : World) (G : Gs) (N : Nd)
def PostK (K : Exit → Fr → List Ow → Prop) : Exit → Act → World → Prop := fun e a w => ∃ f S, K e f S ∧ Good w0 G N f S a w
structure Sat (c : Code) (f : Fr) (S : List Ow) (K : Exit → Fr → List Ow → Prop) : Prop where
 out : ∀ n a w, Good w0 G N f S a w → c.wpIn (fenceR ro) n P (PostK w0 G N K) a w
structure Ent (f : Fr) (S : List Ow) (f' : Fr) (S' : List Ow) : Prop where
 out : ∀ a w, Good w0 G N f S a w → Good w0 G N f' S' a w
def LoopS (vcb : Fr → List Ow → (Exit → Fr → List Ow → Prop) → Prop) (f : Fr) (S : List Ow) (K : Exit → Fr → List Ow → Prop) : Prop :=
 ∃ (α : Type) (T : α → Fr) (U : α → List Ow) (m : α → Nat), (∃ x, Ent w0 G N f S (T x) (U x)) ∧
  ∀ x, vcb (T x) (U x) fun e f' S' => match e with | .normal => ∃ y, Ent w0 G N f' S' (T y) (U y) ∧ m y < m x | e => ∃ f2 S2, Ent w0 G N f' S' f2 S2 ∧ K e f2 S2
def vc : Code → Fr → List Ow → (Exit → Fr → List Ow → Prop) → Prop
 | .skip, f, S, K => K .normal f S
 | .region id ops draw, f, S, K => (match draw with
  | false => opsK P w0 G N ops ops.toList.length ops.toList f S (K .normal)
  | true => Sat ro P w0 G N (.region id ops true) f S K)
 | .seq a b, f, S, K => vc a f S fun e f' S' => match e with | .normal => vc b f' S' K | e => K e f' S'
 | .cond c x y, f, S, K => (match f.ev c with
  | .p (.c (.v (.bool t))) => (t = true → vc x f S K) ∧ (t = false → vc y f S K)
  | _ => False)
 | .block id body, f, S, K => vc body f S fun e f' S' => match e with
  | .exit id' => (match Nat.beq id' id with | true => K .normal f' S' | false => K (.exit id') f' S')
  | e => K e f' S'
 | .loop body, f, S, K => LoopS w0 G N (vc body) f S K
 | .exit id, f, S, K => K (.exit id) f S
 | .ret, f, S, K => K .ret f S
 | c, f, S, K => Sat ro P w0 G N c f S K
end
section
variable {ro : Option Nat} {P : Program} {w0 : World} {G : Gs} {N : Nd}
theorem vc_sound : ∀ (c : Code) (f : Fr) (S : List Ow) (K : Exit → Fr → List Ow → Prop), vc ro P w0 G N c f S K → Sat ro P w0 G N c f S K
 | .skip, f, S, K, h => ⟨fun n a w hg => wpIn_skip ⟨f, S, h, hg⟩⟩
 | .region id ops draw, f, S, K, h => by
  cases draw with
  | false => exact ⟨fun n a w hg => wpIn_region_list (seL_wpIn ro n (opsK_sound _ _ f S _ h (fun f' S' a' w' hk hg' => ⟨f', S', hk, hg'⟩) a w hg))⟩
  | true => exact h
 | .seq x y, f, S, K, h => ⟨fun n a w hg => wpIn_seq (wpIn_mono ((vc_sound x f S _ h).out n a w hg) (fun e a' w' ⟨f', S', hk, hg'⟩ => by
   cases e with
   | normal => exact (vc_sound y f' S' K hk).out n a' w' hg'
   | exit id => exact ⟨f', S', hk, hg'⟩
   | goto l => exact ⟨f', S', hk, hg'⟩
   | ret => exact ⟨f', S', hk, hg'⟩
   | panic ch => exact ⟨f', S', hk, hg'⟩
   | outgrown => exact ⟨f', S', hk, hg'⟩))⟩
 | .cond c x y, f, S, K, h => ⟨fun n a w hg => by
   unfold vc at h
   split at h
   ·rename_i t ht
    obtain ⟨r, hR, hf, hN, hd⟩ := hg
    have hc := hf.ev c
    rw [ht] at hc
    have hc := den_v hc
    refine wpIn_cond_split hc (fun e => (vc_sound x f S K (h.1 e)).out n a w ⟨r, hR, hf, hN, hd⟩) (fun e => (vc_sound y f S K (h.2 e)).out n a w ⟨r, hR, hf, hN, hd⟩)
   ·exact h.elim⟩
 | .block id c, f, S, K, h => ⟨fun n a w hg => wpIn_block (wpIn_mono ((vc_sound c f S _ h).out n a w hg) (fun e a' w' ⟨f', S', hk, hg'⟩ => by
   cases e with
   | exit id' =>
    simp only [Exit.inBlock]
    by_cases hi : id' = id
    ·subst hi; simp only [Nat.beq_refl] at hk; rw [if_pos rfl]; exact ⟨f', S', hk, hg'⟩
    ·have hb : Nat.beq id' id = false := by
      cases h2 : Nat.beq id' id
      ·rfl
      ·exact absurd (Nat.eq_of_beq_eq_true h2) hi
     simp only [hb] at hk; rw [if_neg hi]; exact ⟨f', S', hk, hg'⟩
   | normal => exact ⟨f', S', hk, hg'⟩
   | goto l => exact ⟨f', S', hk, hg'⟩
   | ret => exact ⟨f', S', hk, hg'⟩
   | panic ch => exact ⟨f', S', hk, hg'⟩
   | outgrown => exact ⟨f', S', hk, hg'⟩))⟩
 | .loop c, f, S, K, h => ⟨fun nn a w hg => by
   obtain ⟨α, T, U, m, ⟨x0, h0⟩, hround⟩ := h
   intro b k cs hro hb hr
   have key : ∀ (n : Nat) (x : α), m x = n → ∀ a w, Good w0 G N (T x) (U x) a w → ∃ e a' w', PostK w0 G N K e a' w' ∧ ArrivesIn (Machine.fenced P (fenceR ro)) P (lone (b.atR a (.code c :: .inLoop c :: k)) cs w) b k cs e a' w' := by
    intro n
    induction n using Nat.strongRecOn with
    | _ n ih =>
     intro x hx a w hg
     obtain ⟨e, a', w', ⟨f', S', hk, hg'⟩, harr⟩ := (vc_sound c (T x) (U x) _ (hround x)).out nn a w hg b (.inLoop c :: k) cs hro hb hr
     cases e with
     | normal =>
      obtain ⟨y, hent, hlt⟩ := hk
      obtain ⟨e2, a2, w2, hq2, harr2⟩ := ih (m y) (by omega) y rfl a' w' (hent.out a' w' hg')
      exact ⟨e2, a2, w2, hq2, .of_steps (StepsIn.trans harr (.one (fenced_calm hb hr rfl) stepR_inLoop)) harr2⟩
     | exit id => obtain ⟨f2, S2, hent, hk2⟩ := hk; exact ⟨_, a', w', ⟨f2, S2, hk2, hent.out a' w' hg'⟩, .pass (x := .inLoop c) rfl (fun _ _ => .inl (by simp)) harr⟩
     | goto l => obtain ⟨f2, S2, hent, hk2⟩ := hk; exact ⟨_, a', w', ⟨f2, S2, hk2, hent.out a' w' hg'⟩, .pass (x := .inLoop c) rfl (fun _ _ => .inl (by simp)) harr⟩
     | ret => obtain ⟨f2, S2, hent, hk2⟩ := hk; exact ⟨_, a', w', ⟨f2, S2, hk2, hent.out a' w' hg'⟩, .pass (x := .inLoop c) rfl (fun _ _ => .inl (by simp)) harr⟩
     | panic ch => obtain ⟨f2, S2, hent, hk2⟩ := hk; exact ⟨_, a', w', ⟨f2, S2, hk2, hent.out a' w' hg'⟩, .pass (x := .inLoop c) rfl (fun _ _ => .inl (by simp)) harr⟩
     | outgrown => obtain ⟨f2, S2, hent, hk2⟩ := hk; exact ⟨_, a', w', ⟨f2, S2, hk2, hent.out a' w' hg'⟩, .pass (x := .inLoop c) rfl (fun _ _ => .inl (by simp)) harr⟩
   obtain ⟨e, a', w', hq, harr⟩ := key _ x0 rfl a w (h0.out a w hg)
   exact ⟨e, a', w', hq, .of_steps (.one (fenced_calm hb hr rfl) stepR_loop) harr⟩⟩
 | .exit id, f, S, K, h => ⟨fun n a w hg => wpIn_exit ⟨f, S, h, hg⟩⟩
 | .ret, f, S, K, h => ⟨fun n a w hg => wpIn_ret ⟨f, S, h, hg⟩⟩
 | .rangeFunc _ _ _ _, f, S, K, h => h
 | .scope _, f, S, K, h => h
 | .label _, f, S, K, h => h
 | .goto _, f, S, K, h => h
 | .refuse _, f, S, K, h => h
end
end Go.Proofs.YtnhdcclpjildjaaGreat
namespace Go.Proofs.YtnhdcclpjildjaaGreat
open Go.RowKit

def AVle (u : AV) : AV → Prop
 | .p (.c .any) => True
 | v => u = v
def FLe (f : Fr) : Fr → Prop
 | [] => True
 | (d, x) :: r => AVle (f.get d) x ∧ FLe f r
def CLp : List CV → List CV → Prop
 | [], [] => True
 | c :: l, d :: m => (match d with | .any => True | d => c = d) ∧ CLp l m
 | _, _ => False
def CLe (l m : List CV) : Prop := l = m ∨ CLp l m
def OLe : Ow → Ow → Prop
 | .cells t l, .cells t' l' => t = t' ∧ CLe l l'
 | .row e s n xs, .row e' s' n' xs' => e = e' ∧ s = s' ∧ n = n' ∧ xs = xs'
 | .view φ n xs, .view φ' n' xs' => φ = φ' ∧ n = n' ∧ xs = xs'
 | .ext φ, .ext ψ => ∀ b w, φ b w → ψ b w
 | _, .gone => True
 | _, _ => False
def SLe : List Ow → List Ow → Prop
 | _, [] => True
 | o :: S, o' :: S' => OLe o o' ∧ SLe S S'
 | [], _ :: _ => False
theorem AVle.den {r : Env} {u v : AV} {x : Value} (h : AVle u v) (hd : u.den r x) : v.den r x := by
 unfold AVle at h
 split at h
 ·simp [AV.den, Pc.den, CV.den]
 ·subst h; exact hd
theorem FLe.get {f : Fr} : ∀ {g : Fr} (k : Nat), FLe f g → g.get k = .p (.c .any) ∨ AVle (f.get k) (g.get k)
 | [], k, _ => .inl rfl
 | (d, x) :: r, k, h => by
  simp only [Fr.get]
  split
  ·rename_i hk; have := Nat.eq_of_beq_eq_true hk; subst this; exact .inr h.1
  ·exact FLe.get k h.2
theorem FLe.den {r : Env} {f g : Fr} {a : Act} (h : FLe f g) (hf : FDen r f a) : FDen r g a := fun k => by
 rcases h.get k with h1 | h1
 ·rw [h1]; simp [AV.den, Pc.den, CV.den]
 ·exact h1.den (hf k)
theorem CLp.den {r : Env} : ∀ {l m : List CV} {us : List Value}, CLp l m → denL r l us → denL r m us
 | [], [], us, _, hd => hd
 | c :: l, d :: m, us, h, hd => by
  simp only [denL] at hd ⊢
  obtain ⟨u, l', hu, hc, hl⟩ := hd
  refine ⟨u, l', hu, ?_, CLp.den h.2 hl⟩
  have h1 := h.1
  split at h1
  ·simp only [CV.den]
  ·subst h1; exact hc
 | [], _ :: _, _, h, _ => h.elim
 | _ :: _, [], _, h, _ => h.elim
theorem CLe.den {r : Env} {l m : List CV} {us : List Value} (h : CLe l m) (hd : denL r l us) : denL r m us := by
 rcases h with rfl | h
 ·exact hd
 ·exact h.den hd
theorem OLe.holds {r : Env} {w : World} {i : Nat} {o o' : Ow} (h : OLe o o') (ho : o.holds r w i) : o'.holds r w i := by
 cases o <;> cases o' <;> simp only [OLe] at h
 ·obtain ⟨rfl, hl⟩ := h; obtain ⟨b, us, h1, h2, h3⟩ := ho; exact ⟨b, us, h1, h2, hl.den h3⟩
 ·trivial
 ·obtain ⟨rfl, rfl, rfl, rfl⟩ := h; exact ho
 ·trivial
 ·obtain ⟨b, h1, h2, h3⟩ := ho; exact ⟨b, h1, h b w h2, fun w' hw => h b w' (h3 w' hw)⟩
 ·trivial
 ·obtain ⟨rfl, rfl, rfl⟩ := h; exact ho
 ·trivial
 ·trivial
theorem SLe.get : ∀ {S S' : List Ow} {i : Nat} {o' : Ow}, SLe S S' → S'[i]? = some o' → ∃ o, S[i]? = some o ∧ OLe o o'
 | _, [], i, o', _, h => by simp at h
 | [], _ :: _, _, _, h, _ => h.elim
 | o :: S, o1 :: S', 0, o', h, hi => by simp at hi; subst hi; exact ⟨o, by simp, h.1⟩
 | o :: S, o1 :: S', i + 1, o', h, hi => by simpa using SLe.get h.2 (by simpa using hi)
theorem SLe.length : ∀ {S S' : List Ow}, SLe S S' → S'.length ≤ S.length
 | _, [], _ => by simp
 | [], _ :: _, h => h.elim
 | o :: S, o1 :: S', h => by simp; exact SLe.length h.2

section
variable {P : Program} {w0 : World} {G : Gs} {N : Nd} {f f' : Fr} {S S' : List Ow}
theorem ent_refl : Ent w0 G N f S f S := ⟨fun _ _ h => h⟩
theorem ent_same (hl : S.length = S'.length) (hf : FLe f f') (hS : SLe S S') : Ent w0 G N f S f' S' := ⟨fun a w ⟨r, hR, hd, hN, hdf⟩ =>
 ⟨r, ⟨hR.os, hR.tape, hR.output, hR.size, hR.old, fun i o' hi => by obtain ⟨o, ho, hle⟩ := hS.get hi; exact hle.holds (hR.own i o ho), hR.inj, hR.new, fun i hi => hR.outB i (by omega), fun i hi => hR.outV i (by omega), hR.first⟩, hf.den hd, hN, hdf⟩⟩
theorem ent_drop (hf : FLe f f') (hS : SLe S S') (hb : Fr.bnd S'.length f' = true) (hg : grpOk G S' = true) : Ent w0 G N f S f' S' := ⟨fun a w ⟨r, hR, hd, hN, hdf⟩ => by
 unfold grpOk at hg
 split at hg
 ·rename_i hG
  refine ⟨r.upto S'.length, hR.upto rfl hS.length (Nat.le_of_ble_eq_true hG) fun i o' hi => ?_, (hf.den hd).agree (Env.upto_agree _ _) hb, hN, hdf⟩
  have hil : i < S'.length := by
   rcases Nat.lt_or_ge i S'.length with h1 | h1
   ·exact h1
   ·rw [List.getElem?_eq_none h1] at hi; cases hi
  obtain ⟨o, ho, hle⟩ := hS.get hi
  exact Ow.holds_agree (hle.holds (hR.own i o ho)) (Env.upto_agree _ _) (sbnd_get hg hi) hil (Env.upto_blk _ _)
 ·cases hg⟩
end

/-! Functions. -/
def argFr : List AV → Nat → Fr
 | [], _ => []
 | x :: l, k => (k, x) :: argFr l (k + 1)
def resV (P : Program) (w0 : World) (G : Gs) (S : List Ow) (f : Fr) : ResultVar → (AV → Prop) → Prop
 | .tmp t, K => forceAV (f.get t) K
 | .cell t ty, K => loadK P w0 G S ty (f.get t) K
def resL (P : Program) (w0 : World) (G : Gs) (S : List Ow) (f : Fr) : List ResultVar → (List AV → Prop) → Prop
 | [], K => K []
 | x :: l, K => resV P w0 G S f x fun v => resL P w0 G S f l fun vs => K (v :: vs)
def toPcs : List AV → Option (List Pc)
 | [] => some []
 | .p x :: l => (match toPcs l with | some m => some (x :: m) | none => none)
 | _ => none
def resK (P : Program) (w0 : World) (G : Gs) (S : List Ow) (f : Fr) (rs : List ResultVar) (K : AV → Prop) : Prop :=
 resL P w0 G S f rs fun vs => match vs with
  | [v] => K v
  | vs => (match toPcs vs with | some m => K (.tup m) | none => False)
structure Fin (w0 : World) (G : Gs) (S : List Ow) (v : AV) (R : Ending → World → Prop) : Prop where
 out : ∀ r w u, Rel w0 G S r w → v.den r u → R (.returned u) w
def RetK (P : Program) (w0 : World) (G : Gs) (rs : List ResultVar) (R : Ending → World → Prop) : Exit → Fr → List Ow → Prop := fun e f S => match e with
 | .normal => resK P w0 G S f rs fun v => Fin w0 G S v R
 | .ret => resK P w0 G S f rs fun v => Fin w0 G S v R
 | _ => False
def resS (a : Act) (x : ResultVar) : Sem Value := match x with | .tmp t => pure (a.tmps.getD t undef) | .cell t ty => do loadVar ty (← asAddr (a.tmps.getD t undef))
theorem resV_sound {P : Program} {w0 : World} {G : Gs} {S : List Ow} {f : Fr} {x : ResultVar} {K : AV → Prop} (h : resV P w0 G S f x K) {r : Env} {w : World} (hR : Rel w0 G S r w) {a : Act} (hf : FDen r f a) :
  ∃ v u, K v ∧ v.den r u ∧ (resS a x).run P w = .ok u w := by
 cases x with
 | tmp t => exact ⟨_, _, forceAV_iff.1 h, hf t, rfl⟩
 | cell t ty =>
  obtain ⟨v, u, hK, hd, hrun⟩ := loadK_sound h hR (hf t)
  refine ⟨v, u, hK, hd, ?_⟩
  show (asAddr (a.tmps.getD t undef) >>= fun x => loadVar ty x).run P w = _
  have := hrun w (Below.refl _ _)
  simp only [Instr.loadAt] at this
  generalize a.tmps.getD t undef = x at this ⊢
  cases x with
  | pointer p =>
   cases p with
   | none => simp [Instr.sureAddr] at this
   | some p => simpa [Instr.sureAddr, asAddr] using this
  | _ => simp [Instr.sureAddr] at this
theorem resL_sound {P : Program} {w0 : World} {G : Gs} {S : List Ow} {f : Fr} {r : Env} {w : World} (hR : Rel w0 G S r w) {a : Act} (hf : FDen r f a) : ∀ {xs : List ResultVar} {K : List AV → Prop}, resL P w0 G S f xs K →
  ∃ vs us, K vs ∧ avdenL r vs us ∧ (xs.mapM (resS a)).run P w = .ok us w
 | [], K, h => ⟨[], [], h, rfl, by simp⟩
 | x :: xs, K, h => by
  obtain ⟨v, u, h1, hd, hrun⟩ := resV_sound h hR hf
  obtain ⟨vs, us, hK, hds, hruns⟩ := resL_sound hR hf h1
  exact ⟨v :: vs, u :: us, hK, ⟨u, us, rfl, hd, hds⟩, by simp only [List.mapM_cons, Sem.run_bind, hrun, hruns, Result.andThen_ok, Sem.run_pure]⟩
theorem toPcs_den {r : Env} : ∀ {vs : List AV} {m : List Pc} {us : List Value}, toPcs vs = some m → avdenL r vs us → pdenL r m us
 | [], m, us, h, hd => by injection h with h; subst h; exact hd
 | v :: vs, m, us, h, hd => by
  cases v with
  | tup l => simp [toPcs] at h
  | p x =>
   simp only [toPcs] at h
   split at h
   ·rename_i m' hm
    injection h with h; subst h
    obtain ⟨u, l, rfl, h1, h2⟩ := hd
    exact ⟨u, l, rfl, h1, toPcs_den hm h2⟩
   ·cases h
theorem avdenL_length {r : Env} : ∀ {l : List AV} {us : List Value}, avdenL r l us → us.length = l.length
 | [], us, h => by rw [show us = [] from h]; rfl
 | c :: l, us, h => by obtain ⟨u, l', rfl, _, h2⟩ := h; simp [avdenL_length h2]
theorem resK_sound {P : Program} {w0 : World} {G : Gs} {S : List Ow} {f : Fr} {fn : Func} {K : AV → Prop} (h : resK P w0 G S f fn.results.toList K) {r : Env} {w : World} (hR : Rel w0 G S r w) {a : Act} (hf : FDen r f a) :
  ∃ v u, K v ∧ v.den r u ∧ (results fn a.tmps).run P w = .ok u w := by
 obtain ⟨vs, us, hK, hd, hrun⟩ := resL_sound hR hf h
 have hres : (results fn a.tmps).run P w = .ok (if h : us.toArray.size = 1 then us.toArray[0] else .tuple us.toArray) w := by
  unfold results
  rw [Array.mapM_eq_mapM_toList]
  simp only [Sem.run_bind, Sem.run_map]
  erw [hrun]
  simp
 split at hK
 ·rename_i v
  obtain ⟨u, l, rfl, h1, h2⟩ := hd
  have : l = [] := h2
  subst this
  exact ⟨v, u, hK, h1, by rw [hres]; simp⟩
 ·rename_i hne
  split at hK
  ·rename_i m hm
   refine ⟨_, .tuple us.toArray, hK, ⟨us, rfl, toPcs_den hm hd⟩, ?_⟩
   rw [hres, dif_neg]
   intro h1
   obtain ⟨v, hv⟩ := List.length_eq_one_iff.1 ((avdenL_length hd).symm.trans (by simpa using h1))
   exact hne v hv
  ·exact hK.elim
theorem argFr_get {r : Env} {tmps : Array Value} : ∀ (avs : List AV) (us : List Value) (k : Nat), avdenL r avs us → (∀ j u, us[j]? = some u → tmps.getD (k + j) undef = u) → ∀ i, ((argFr avs k).get i).den r (tmps.getD i undef)
 | [], us, k, _, _, i => by simp [argFr, Fr.get, AV.den, Pc.den, CV.den]
 | v :: avs, us, k, hd, h, i => by
  obtain ⟨u, l, rfl, h1, h2⟩ := hd
  simp only [argFr, Fr.get]
  split
  ·rename_i hk; have := Nat.eq_of_beq_eq_true hk; subst this
   have := h 0 u rfl
   rw [Nat.add_zero] at this
   rw [this]; exact h1
  ·exact argFr_get avs l (k + 1) h2 (fun j u hj => by have := h (j + 1) u (by simpa using hj); rw [← this]; congr 1; omega) i
theorem calls_vc {P : Program} {fid : FuncId} {fn : Func} {c : Code} {N : Nat} (hf : P.funcs[fid]? = some fn) (hN : fn.ntmps = N) (hb : fn.body = some c) {w0 : World} {G : Gs} {S0 : List Ow} {r0 : Env} (hR : Rel w0 G S0 r0 w0)
  {avs : List AV} {args : List Value} (hargs : avdenL r0 avs args) (hle : args.length ≤ N) {R : Ending → World → Prop} (h : vc none P w0 G ⟨N, []⟩ c (argFr avs 0) S0 (RetK P w0 G fn.results.toList R)) : Calls P fid args.toArray w0 R := by
 refine calls_of_wp hf hb (Code.wp_mono ?_ (wpIn_wide.1 ((vc_sound c _ _ _ h).out 20 _ w0 ⟨r0, hR, ?_, ?_, rfl⟩)))
 ·rintro e a w ⟨f, S, hk, r, hR', hf', hN', hd'⟩
  cases e with
  | normal =>
   obtain ⟨v, u, hK, hd, hrun⟩ := resK_sound hk hR' hf'
   exact ⟨hd', u, hrun, hK.out r w u hR' hd⟩
  | ret =>
   obtain ⟨v, u, hK, hd, hrun⟩ := resK_sound hk hR' hf'
   exact ⟨hd', u, hrun, hK.out r w u hR' hd⟩
  | exit id => exact hk.elim
  | goto l => exact hk.elim
  | panic ch => exact hk.elim
  | outgrown => exact hk.elim
 ·intro i
  refine argFr_get avs args 0 hargs (fun j u hj => ?_) i
  rw [Nat.zero_add, Array.getD_eq_getD_getElem?, Array.getElem?_append_left (by simp; rcases Nat.lt_or_ge j args.length with h1 | h1; exact h1; rw [List.getElem?_eq_none h1] at hj; cases hj)]
  simp [hj]
 ·simp; omega
def Env.none : Env := ⟨fun _ => Option.none, fun _ => Option.none⟩
theorem rel_none (w : World) : Rel w Gs.nil [] Env.none w :=
 ⟨rfl, rfl, rfl, Nat.le_refl _, fun _ _ _ => rfl, by simp, nofun, nofun, fun _ _ => rfl, fun _ _ => rfl, (by intro i g h; simp [Gs.nil] at h)⟩
theorem Rel.toBelow {w0 w : World} {S : List Ow} {r : Env} (h : Rel w0 Gs.nil S r w) : Below w0.heap.size w0 w := ⟨h.os, h.tape, h.output, h.size, fun k hk => h.old k hk (by simp)⟩
theorem callS_val {P : Program} {w0 : World} {G : Gs} {fid : FuncId} {args : List AV} {S : List Ow} {K : AV → List Ow → Prop} (x : Value) (hok : fnOk P fid = true)
  (h : ∀ r w us, Rel w0 G S r w → avdenL r args us → Calls P fid us.toArray w fun e w' => e = .returned x ∧ Below w.heap.size w w') (hK : K (AV.of x) S) : CallS P w0 G fid args S K :=
 ⟨hok, fun r w us hR hd => (h r w us hR hd).mono fun _e _w' ⟨he, hb⟩ => ⟨_, x, S, r, he, AV.of_den r x, hR.below hb, Env.le.refl r, hK⟩⟩
def CV.val : CV → Option Value
 | .v x => some x
 | .clo f [] => some (.func f #[] #[])
 | _ => none
def valL : List CV → Option (List Value)
 | [] => some []
 | c :: l => match c.val with | some x => (match valL l with | some m => some (x :: m) | none => none) | none => none
def Pc.val : Pc → Option Value
 | .c x => x.val
 | .agg l => (match valL l with | some m => some (.agg m.toArray) | none => none)
def pvalL : List Pc → Option (List Value)
 | [] => some []
 | c :: l => match c.val with | some x => (match pvalL l with | some m => some (x :: m) | none => none) | none => none
def AV.val : AV → Option Value
 | .p x => x.val
 | .tup l => (match pvalL l with | some m => some (.tuple m.toArray) | none => none)
def avals : List AV → Option (List Value)
 | [] => some []
 | c :: l => match c.val with | some x => (match avals l with | some m => some (x :: m) | none => none) | none => none
theorem CV.val_den {r : Env} {c : CV} {x u : Value} (h : c.val = some x) (hd : c.den r u) : u = x := by
 unfold CV.val at h
 split at h
 ·injection h with h; subst h; simpa only [CV.den] using hd
 ·injection h with h; subst h
  simp only [CV.den, denL] at hd; obtain ⟨us, rfl, rfl⟩ := hd; rfl
 ·cases h
theorem valL_den {r : Env} : ∀ {l : List CV} {xs us : List Value}, valL l = some xs → denL r l us → us = xs
 | [], xs, us, h, hd => by injection h with h; subst h; simpa only [denL] using hd
 | c :: l, xs, us, h, hd => by
  simp only [denL] at hd; obtain ⟨u, m, rfl, h1, h2⟩ := hd
  simp only [valL] at h
  split at h
  ·rename_i x hx
   split at h
   ·rename_i m' hm
    injection h with h; subst h
    rw [CV.val_den hx h1, valL_den hm h2]
   ·cases h
  ·cases h
theorem Pc.val_den {r : Env} {c : Pc} {x u : Value} (h : c.val = some x) (hd : c.den r u) : u = x := by
 unfold Pc.val at h
 split at h
 ·exact CV.val_den h hd
 ·split at h
  ·rename_i m hm
   injection h with h; subst h
   obtain ⟨us, rfl, hl⟩ := hd
   rw [valL_den hm hl]
  ·cases h
theorem pvalL_den {r : Env} : ∀ {l : List Pc} {xs us : List Value}, pvalL l = some xs → pdenL r l us → us = xs
 | [], xs, us, h, hd => by injection h with h; subst h; exact hd
 | c :: l, xs, us, h, hd => by
  obtain ⟨u, m, rfl, h1, h2⟩ := hd
  simp only [pvalL] at h
  split at h
  ·rename_i x hx
   split at h
   ·rename_i m' hm
    injection h with h; subst h
    rw [Pc.val_den hx h1, pvalL_den hm h2]
   ·cases h
  ·cases h
theorem AV.val_den {r : Env} {c : AV} {x u : Value} (h : c.val = some x) (hd : c.den r u) : u = x := by
 unfold AV.val at h
 split at h
 ·exact Pc.val_den h hd
 ·split at h
  ·rename_i m hm
   injection h with h; subst h
   obtain ⟨us, rfl, hl⟩ := hd
   rw [pvalL_den hm hl]
  ·cases h
theorem avals_den {r : Env} : ∀ {l : List AV} {xs us : List Value}, avals l = some xs → avdenL r l us → us = xs
 | [], xs, us, h, hd => by injection h with h; subst h; exact hd
 | c :: l, xs, us, h, hd => by
  obtain ⟨u, m, rfl, h1, h2⟩ := hd
  simp only [avals] at h
  split at h
  ·rename_i x hx
   split at h
   ·rename_i m' hm
    injection h with h; subst h
    rw [AV.val_den hx h1, avals_den hm h2]
   ·cases h
  ·cases h
section
variable {P : Program} {w0 : World} {G : Gs} {fid : FuncId} {args : List AV} {S : List Ow} {K : AV → List Ow → Prop} {xs : List Value} {x : Value}
theorem call_con (hx : avals args = some xs) (hok : fnOk P fid = true) (h : ∀ r w, Rel w0 G S r w → Calls P fid xs.toArray w fun e w' => e = .returned x ∧ Below w.heap.size w w') (hK : K (AV.of x) S) : CallS P w0 G fid args S K :=
 callS_val x hok (fun r w us hR hd => by rw [avals_den hx hd]; exact h r w hR) hK
theorem fin_val {v : AV} {R : Ending → World → Prop} (hv : v.val = some x) (h : ∀ w, Below w0.heap.size w0 w → R (.returned x) w) : Fin w0 Gs.nil S v R := ⟨fun r w u hR hd => by rw [AV.val_den hv hd]; exact h w hR.toBelow⟩
end
end Go.Proofs.YtnhdcclpjildjaaGreat
namespace Go.Proofs.YtnhdcclpjildjaaGreat
open Go.RowKit

theorem comp_inv {d : Array Int} (hs : ∀ i j, i ≤ j → j < d.size → d[i]! ≤ d[j]!) : ∀ m, m ≤ d.size → Inc (Lib.compactUpTo d m) ∧ ∀ x, x ∈ Lib.compactUpTo d m ↔ ∃ j, j < m ∧ d[j]! = x
 | 0, _ => ⟨List.Pairwise.nil, fun x => by simp [Lib.compactUpTo]⟩
 | m + 1, hm => by
  obtain ⟨h1, h2⟩ := comp_inv hs m (by omega)
  rw [Lib.compactUpTo_succ]
  cases hk : Lib.keeps d m with
  | true =>
   rw [if_pos rfl]
   refine ⟨?_, fun x => ?_⟩
   ·unfold Inc at h1 ⊢
    rw [List.pairwise_append]
    refine ⟨h1, by simp, fun x hx y hy => ?_⟩
    obtain rfl : y = d[m]! := by simpa using hy
    obtain ⟨j, hj, rfl⟩ := (h2 x).1 hx
    have h3 := hs j (m - 1) (by omega) (by omega)
    have h4 := hs (m - 1) m (by omega) (by omega)
    have h5 : d[m]! ≠ d[m - 1]! := by
     unfold Lib.keeps at hk
     have := of_decide_eq_true hk
     rcases this with h6 | h6
     ·omega
     ·exact h6
    omega
   ·rw [List.mem_append, h2]
    constructor
    ·rintro (⟨j, hj, rfl⟩ | hx)
     ·exact ⟨j, by omega, rfl⟩
     ·exact ⟨m, by omega, by simpa using (List.mem_singleton.1 hx).symm⟩
    ·rintro ⟨j, hj, rfl⟩
     rcases Nat.lt_or_ge j m with h3 | h3
     ·exact .inl ⟨j, h3, rfl⟩
     ·obtain rfl : j = m := by omega
      exact .inr (by simp)
  | false =>
   have h5 : m ≠ 0 ∧ d[m]! = d[m - 1]! := by
    unfold Lib.keeps at hk
    have := of_decide_eq_false hk
    refine ⟨fun h => this (.inl h), ?_⟩
    rcases Classical.em (d[m]! = d[m - 1]!) with h6 | h6
    ·exact h6
    ·exact absurd (.inr h6) this
   simp only [Bool.false_eq_true, if_false, List.append_nil]
   refine ⟨h1, fun x => ?_⟩
   rw [h2]
   constructor
   ·rintro ⟨j, hj, rfl⟩; exact ⟨j, by omega, rfl⟩
   ·rintro ⟨j, hj, rfl⟩
    rcases Nat.lt_or_ge j m with h3 | h3
    ·exact ⟨j, h3, rfl⟩
    ·obtain rfl : j = m := by omega
     exact ⟨j - 1, by omega, h5.2.symm⟩
def uniqL (zs : List Int) : List Int := Lib.compact (zs.mergeSort fun x y => decide (x ≤ y))
theorem uniqL_is (zs : List Int) : Inc (uniqL zs) ∧ ∀ x, x ∈ uniqL zs ↔ x ∈ zs := by
 have hp : (zs.mergeSort fun x y => decide (x ≤ y)).Pairwise (fun x y => decide (x ≤ y) = true) := List.pairwise_mergeSort (by intro a b c; simp; omega) (by intro a b; simp; omega) zs
 have hm : ∀ x, x ∈ (zs.mergeSort fun x y => decide (x ≤ y)) ↔ x ∈ zs := fun x => List.mem_mergeSort
 unfold uniqL Lib.compact
 generalize (zs.mergeSort fun x y => decide (x ≤ y)) = l at hp hm
 obtain ⟨h1, h2⟩ := comp_inv (d := l.toArray) (fun i j hij hj => by
  have hj : j < l.length := by simpa using hj
  rw [getElem!_pos _ i (by simp; omega), getElem!_pos _ j (by simpa using hj)]
  rcases Nat.lt_or_ge i j with h | h
  ·have := List.pairwise_iff_getElem.1 hp i j (by omega) hj h
   simpa using this
  ·obtain rfl : i = j := by omega
   exact Int.le_refl _) l.length (by simp)
 refine ⟨h1, fun x => ?_⟩
 rw [h2, ← hm]
 constructor
 ·rintro ⟨j, hj, rfl⟩
  rw [getElem!_pos _ j (by simpa using hj)]
  simp
 ·intro hx
  obtain ⟨j, hj, rfl⟩ := List.mem_iff_getElem.1 hx
  exact ⟨j, hj, by rw [getElem!_pos _ j (by simpa using hj)]; simp⟩
theorem uniqL_length (zs : List Int) : (uniqL zs).length ≤ zs.length := by
 have h : ∀ (d : Array Int) m, (Lib.compactUpTo d m).length ≤ m := fun d m => by
  unfold Lib.compactUpTo; rw [List.length_map]
  exact Nat.le_trans (List.length_filter_le _ _) (by simp)
 have := h (zs.mergeSort fun x y => decide (x ≤ y)).toArray (zs.mergeSort fun x y => decide (x ≤ y)).length
 rw [List.length_mergeSort] at this
 unfold uniqL Lib.compact
 rw [List.length_mergeSort]
 exact this
end Go.Proofs.YtnhdcclpjildjaaGreat
namespace Go.Proofs.YtnhdcclpjildjaaGreat
open Go.RowKit

theorem run_append_src {P : Program} {w : World} (base : Nat) (t ty e : TypeId) (i : TypeInfo) (z : Value) (ht : P.underlying t = some (.slice e)) (hi : P.info? e = some i) (hz : i.zero = some z)
  (hzs : z.cells.size = i.size) (hsz : 0 < i.size) (v : Value) (n : Nat) (xs : List Value) (hown : w.ownsRow base e i.size v n xs)
  (A : Option Addr) (m c : Nat) (news : List Value) (hl : news.length = m * i.size) (hnews : ∀ j u, news[j]? = some u → ∃ b off, A = some ⟨b, off, none⟩ ∧ w.cell? ⟨b, off + j, none⟩ = some u) (h1 : ∀ u ∈ news, u.oneCell' = true)
  (h63 : n + m ≤ 1000000000) (hbytes : i.bytes ≤ 100000) (hbase : base ≤ w.heap.size) :
  ∃ v' w', (Builtin.append_ #[t, t] ty #[v, .slice A m c]).run P w = .ok v' w' ∧ w'.ownsRow base e i.size v' (n + m) (xs ++ news) ∧ w.grownBy w' v.ownBlock ∧ (v'.ownBlock = v.ownBlock ∨ v'.ownBlock = some w.heap.size) := by
 have hm : (n + m) * i.bytes ≤ 1000000000 * 100000 := Nat.mul_le_mul h63 hbytes
 cases A with
 | some ad =>
  obtain ⟨v', w', h2, h3, h4, _, h5⟩ := run_append_own_at (P := P) w base t ty e i z i.size i.bytes ht hi hz rfl rfl hzs hsz v n xs hown ad m c news hl (fun j u hj => by
   obtain ⟨b, off, hA, hc⟩ := hnews j u hj
   injection hA with hA; subst hA; rw [addr_add]; exact hc) h1 (by unfold maxLen; omega) (by omega) hbase
  exact ⟨v', w', h2, h3, h4, h5⟩
 | none =>
  have hnil : news = [] := by
   cases news with
   | nil => rfl
   | cons u l => obtain ⟨b, off, hA, _⟩ := hnews 0 u rfl; cases hA
  subst hnil
  have hm0 : m = 0 := by
   rcases Nat.eq_zero_or_pos m with h | h
   ·exact h
   ·have := Nat.mul_le_mul h hsz; simp at hl; omega
  subst hm0
  obtain ⟨A', c', hv, _, hc, _⟩ := own_slice hown
  refine ⟨v, w, ?_, by simpa using hown, World.grownBy.refl _ _, .inl rfl⟩
  subst hv
  have hut : ∀ w : World, (underlying t).run P w = .ok (.slice e) w := fun w => by simp [underlying, ht]
  simp [Builtin.append_, hut, run_sizeOf P e w hi, Builtin.lenOf, Builtin.firstCells, hc]
  cases A' <;> simp [storeCells]

theorem Rel.append {w0 : World} {G : Gs} {S : List Ow} {r : Env} {w w' : World} (h : Rel w0 G S r w) {i : Nat} {e : TypeId} {size n n' : Nat} {xs xs' : List Value} {v v' : Value} (hS : S[i]? = some (.row e size n xs)) (hG : G.fix.length ≤ i) (hv : r.val i = some v)
  (hown : w'.ownsRow 0 e size v' n' xs') (hg : w.grownBy w' v.ownBlock) (hb : v'.ownBlock = v.ownBlock ∨ v'.ownBlock = some w.heap.size) :
  Rel w0 G ((killS i S).set i (.row e size n' xs')) (r.set i v'.ownBlock (some v')) w' ∧ But i r (r.set i v'.ownBlock (some v')) := by
 have hbut : But i r (r.set i v'.ownBlock (some v')) := fun j hj => by simp [Env.set, hj]
 have hil : i < S.length := by
  rcases Nat.lt_or_ge i S.length with h1 | h1
  ·exact h1
  ·rw [List.getElem?_eq_none h1] at hS; cases hS
 obtain ⟨v2, hv2, hob, _⟩ := h.own i _ hS
 rw [hv] at hv2; injection hv2 with hv2; subst hv2
 have hnewlt : ∀ x, v'.ownBlock = some x → x < w'.heap.size := fun x hx => by
  rcases hown.2 with ⟨h1, _⟩ | ⟨g, cap, cur, h1, _, hh, _⟩
  ·rw [h1] at hx; cases hx
  ·rw [h1] at hx; simp [Value.ownBlock] at hx; subst hx
   rcases Nat.lt_or_ge g w'.heap.size with h2 | h2
   ·exact h2
   ·rw [Array.getElem?_eq_none h2] at hh; cases hh
 have hblk : ∀ j x, r.blk j = some x → j ≠ i → w'.heap[x]? = w.heap[x]? := fun j x hx hj => hg.block x (h.new j x hx).1 (fun e => hj (h.inj j i x hx (by rw [← hob]; exact e.symm)))
 refine ⟨⟨hg.os.trans h.os, hg.tape.trans h.tape, hg.output.trans h.output, Nat.le_trans h.size hg.size, fun k hk hkG => ?_, fun j o hj => ?_, fun a b x ha hb' => ?_, fun j x hj => ?_, fun j hj => ?_, fun j hj => ?_, fun j g hj => ?_⟩, hbut⟩
 ·rw [hg.block k (Nat.lt_of_lt_of_le hk h.size) (fun e => hkG ((h.new i k (by rw [← hob]; exact e.symm)).2 hk))]
  exact h.old k hk hkG
 ·by_cases hij : i = j
  ·subst hij
   rw [List.getElem?_set_self (by rw [killS_length]; exact hil)] at hj
   injection hj with hj; subst hj
   exact ⟨v', by simp [Env.set], by simp [Env.set], hown⟩
  ·rw [List.getElem?_set_ne hij, killS_get] at hj
   cases hSj : S[j]? with
   | none => rw [hSj] at hj; cases hj
   | some o' =>
    rw [hSj] at hj
    simp at hj; subst hj
    have h1 := Ow.holds_block (h.own j o' hSj) (fun x hx => hblk j x hx (Ne.symm hij)) hg.size (fun x hx hno => hg.block x hx (fun e => hno i (by rw [← hob]; exact e.symm)))
    cases o' with
    | view φ m ys =>
     obtain ⟨A, c, h2, h3, h4, h5, h6⟩ := h.own j _ hSj
     refine ⟨A, c, by rw [← (hbut j (Ne.symm hij)).2]; exact h2, h3, h4, by rw [← (hbut j (Ne.symm hij)).1]; exact h5, fun k u hk => ?_⟩
     obtain ⟨b, off, h7, h8, h9, h10⟩ := h6 k u hk
     refine ⟨b, off, h7, Nat.lt_of_lt_of_le h8 hg.size, fun q hq => ?_, (World.cell?_of_block (w := w) (a := ⟨b, off + k, none⟩) (hg.block b h8 (fun e => h9 i (by rw [← hob]; exact e.symm)))).trans h10⟩
     by_cases hqi : q = i
     ·subst hqi
      simp [Env.set] at hq
      rcases hb with hb | hb
      ·rw [hb, hob] at hq; exact h9 q hq
      ·rw [hb] at hq; injection hq with hq; omega
     ·exact h9 q (by rw [(hbut q hqi).1]; exact hq)
    | cells t l => obtain ⟨b, us, h2, h3, h4⟩ := h1; exact ⟨b, us, by rw [← (hbut j (Ne.symm hij)).1]; exact h2, h3, killL_den hbut h4⟩
    | row e s n xs => obtain ⟨v, h2, h3, h4⟩ := h1; exact ⟨v, by rw [← (hbut j (Ne.symm hij)).2]; exact h2, by rw [← (hbut j (Ne.symm hij)).1]; exact h3, h4⟩
    | ext φ => obtain ⟨b, h2, h3⟩ := h1; exact ⟨b, by rw [← (hbut j (Ne.symm hij)).1]; exact h2, h3⟩
    | gone => trivial
 ·have fresh : ∀ j x, j ≠ i → r.blk j = some x → v'.ownBlock = some x → False := fun j x hj hx he => by
   rcases hb with hb | hb
   ·rw [hb, hob] at he; exact hj (h.inj j i x hx he)
   ·rw [hb] at he; injection he with he; have := (h.new j x hx).1; omega
  simp only [Env.set] at ha hb'
  split at ha <;> split at hb'
  ·omega
  ·exact (fresh b x (by assumption) hb' ha).elim
  ·exact (fresh a x (by assumption) ha hb').elim
  ·exact h.inj a b x ha hb'
 ·simp only [Env.set] at hj
  split at hj
  ·refine ⟨hnewlt x hj, fun hlt => ?_⟩
   rcases hb with hb | hb
   ·rw [hb, hob] at hj; exact (h.new i x hj).2 hlt
   ·rw [hb] at hj; injection hj with hj; have := h.size; omega
  ·exact ⟨Nat.lt_of_lt_of_le (h.new j x hj).1 hg.size, (h.new j x hj).2⟩
 ·have hj' : S.length ≤ j := by simpa [killS_length] using hj
  simp only [Env.set]; rw [if_neg (by omega)]; exact h.outB j hj'
 ·have hj' : S.length ≤ j := by simpa [killS_length] using hj
  simp only [Env.set]; rw [if_neg (by omega)]; exact h.outV j hj'
 ·have : j < G.fix.length := by
   rcases Nat.lt_or_ge j G.fix.length with h1 | h1
   ·exact h1
   ·rw [List.getElem?_eq_none h1] at hj; cases hj
  simp only [Env.set]; rw [if_neg (by omega)]; exact h.first j g hj

def SlOld (w0 : World) (G : Gs) (A : Option Addr) (xs : List Value) : Prop := ∀ j u, xs[j]? = some u → ∃ b off, A = some ⟨b, off, none⟩ ∧ b < w0.heap.size ∧ b ∉ G ∧ w0.cell? ⟨b, off + j, none⟩ = some u
def srcK (w0 : World) (G : Gs) (S : List Ow) (size i : Nat) (x : AV) (K : Nat → List Value → Prop) : Prop :=
 match x with
 | .p (.c (.sl j off m _)) => (match S[j]? with
  | some (.cells _ l) => (match cut l off (m * size) with
   | some cs => (match onesL S cs with
    | true => (match valsOf cs with | some us => K m us | none => False)
    | false => False)
   | none => False)
  | _ => False)
 | .p (.c (.v (.slice A m _))) => ∃ xs : List Value, SlOld w0 G A xs ∧ xs.length = m * size ∧ (∀ u ∈ xs, u.oneCell' = true) ∧ K m xs
 | .p (.c (.row j)) => (match Nat.beq i j with
  | true => False
  | false => (match S[j]? with
   | some (.row _ size' n xs) => size' = size ∧ (∀ u ∈ xs, u.oneCell' = true) ∧ K n xs
   | _ => False))
 | _ => False
def fillF (i : Nat) : Fr → (Fr → Prop) → Prop
 | [], K => K []
 | (d, x) :: f, K => forceAV (x.kill i) fun x' => fillF i f fun f' => K ((d, x') :: f')
theorem fillF_iff {i : Nat} : ∀ {f : Fr} {K : Fr → Prop}, fillF i f K ↔ K (Fr.kill i f)
 | [], _ => Iff.rfl
 | (d, x) :: f, K => by unfold fillF; rw [forceAV_iff, fillF_iff]; rfl
def appK (P : Program) (w0 : World) (G : Gs) (o : Oper) (f : Fr) (S : List Ow) (s x : Operand) (t : TypeId) (K : Fr → List Ow → Prop) : Prop :=
 match P.underlying t with
 | some (.slice e) => (match P.info? e with
  | some inf => (match inf.zero with
   | some z => (match Nat.beq z.cells.size inf.size, Nat.blt 0 inf.size, Nat.ble inf.bytes 100000 with
    | true, true, true => (match f.ev s with
     | .p (.c (.row i)) => (match S[i]? with
      | some (.row e' size' n xs) => (match Nat.beq e' e, Nat.beq size' inf.size, Nat.ble G.fix.length i with
       | true, true, true => srcK w0 G S inf.size i (f.ev x) fun m news => n + m ≤ 1000000000 ∧ forceL ((killS i S).set i (.row e inf.size (n + m) (xs ++ news))) fun S' => fillF i f fun f' => f'.putK o.dst (.p (.c (.row i))) fun f' => K f' S'
       | _, _, _ => False)
      | _ => False)
     | .p (.c (.v (.slice none 0 0))) => lenK S fun i => (match Nat.ble G.fix.length i with
      | true => srcK w0 G S inf.size i (f.ev x) fun m news => m ≤ 1000000000 ∧ forceL (killS i S ++ [.row e inf.size m news]) fun S' => fillF i f fun f' => f'.putK o.dst (.p (.c (.row i))) fun f' => K f' S'
      | false => False)
     | _ => False)
    | _, _, _ => False)
   | none => False)
  | none => False)
 | _ => False
theorem oneCell_of {u : Value} (h : (∀ x, u ≠ .agg x) ∧ (∀ x, u ≠ .tuple x)) : u.oneCell' = true := by
 cases u <;> first | rfl | exact absurd rfl (h.1 _) | exact absurd rfl (h.2 _)
theorem srcK_sound {w0 : World} {G : Gs} {S : List Ow} {size i : Nat} {x : AV} {K : Nat → List Value → Prop} (h : srcK w0 G S size i x K) {r : Env} {w : World} (hR : Rel w0 G S r w) {u : Value} (hd : x.den r u) :
  ∃ A m c news, u = .slice A m c ∧ K m news ∧ news.length = m * size ∧ (∀ j x, news[j]? = some x → ∃ b off, A = some ⟨b, off, none⟩ ∧ w.cell? ⟨b, off + j, none⟩ = some x) ∧ ∀ x ∈ news, x.oneCell' = true := by
 unfold srcK at h
 split at h
 ·rename_i j off m c
  have hux : ∃ b, r.blk j = some b ∧ u = .slice (some ⟨b, off, none⟩) m c := by simpa only [AV.den, Pc.den, CV.den] using hd
  obtain ⟨b, hb, rfl⟩ := hux
  split at h
  ·rename_i t l hS
   split at h
   ·rename_i cs hcs
    split at h
    ·rename_i hones
     split at h
     ·rename_i us hus
      obtain ⟨hle, rfl⟩ := cut_spec hcs
      obtain ⟨b', vs, h1, h2, h3⟩ := hR.own j _ hS
      rw [hb] at h1; injection h1 with h1; subst h1
      have hdc := denL_take (m * size) (denL_drop off h3)
      have hvs := valsOf_spec hus hdc
      have hlen := denL_length hdc
      refine ⟨_, m, c, us, rfl, h, ?_, fun k x hk => ⟨b, off, rfl, ?_⟩, fun x hx => oneCell_of (onesL_one hR hones hdc x (by rw [hvs]; exact hx))⟩
      ·rw [← hvs, hlen]; simp; omega
      ·rw [← hvs, List.getElem?_take] at hk
       split at hk
       ·rw [List.getElem?_drop] at hk; simp [World.cell?, h2, hk]
       ·cases hk
     ·exact h.elim
    ·exact h.elim
   ·exact h.elim
  ·exact h.elim
 ·rename_i A m c
  have hu : u = .slice A m c := by simpa only [AV.den, Pc.den, CV.den] using hd
  subst hu
  obtain ⟨xs, h1, h2, h3, hK⟩ := h
  refine ⟨A, m, c, xs, rfl, hK, h2, fun j x hj => ?_, h3⟩
  obtain ⟨b, off, hA, hlt, hG, hc⟩ := h1 j x hj
  exact ⟨b, off, hA, by rw [hR.oldCell hlt hG]; exact hc⟩
 ·rename_i j
  split at h
  ·exact h.elim
  ·split at h
   ·rename_i e size' n xs hS
    obtain ⟨rfl, h3, hK⟩ := h
    obtain ⟨v, hv, hob, hown⟩ := hR.own j _ hS
    have hux : r.val j = some u := by simpa only [AV.den, Pc.den, CV.den] using hd
    rw [hux] at hv; injection hv with hv; subst hv
    obtain ⟨A, c, hs, hsl, _, _, hl⟩ := own_slice hown
    subst hs
    refine ⟨A, n, c, xs, rfl, hK, hl, fun k x hk => ?_, h3⟩
    obtain ⟨b, off, hA, _, hc⟩ := hsl k x hk
    exact ⟨b, off, hA, hc⟩
   ·exact h.elim
 ·exact h.elim
theorem appK_sound {P : Program} {w0 : World} {G : Gs} {N : Nd} {o : Oper} {f : Fr} {S : List Ow} {K : Fr → List Ow → Prop} {s x : Operand} {t : TypeId} (hop : o.op = .call ⟨.builtin .append, #[s, x], #[t, t]⟩) (h : appK P w0 G o f S s x t K) (hdst : dstOk N.n o.dst = true) : OpS P w0 G N o f S K := by
 refine ⟨fun r a w hR hf hN hd next Q hK => ?_⟩
 have hs := hf.ev s
 have hx := hf.ev x
 unfold appK at h
 split at h
 ·rename_i e ht
  split at h
  ·rename_i inf hi
   split at h
   ·rename_i z hz
    split at h
    ·rename_i hzs hpos hbytes
     have hzs := Nat.eq_of_beq_eq_true hzs
     have hpos : 0 < inf.size := by simpa [Nat.blt_eq] using hpos
     have hbytes := Nat.le_of_ble_eq_true hbytes
     split at h
     ·rename_i i he
      rw [he] at hs
      split at h
      ·rename_i e' size' n xs hS
       split at h
       ·rename_i h1 h2 hG
        have h1 := Nat.eq_of_beq_eq_true h1
        have h2 := Nat.eq_of_beq_eq_true h2
        have hG := Nat.le_of_ble_eq_true hG
        subst h1; subst h2
        obtain ⟨A, m, c, news, hu, ⟨hle, hKK⟩, hl, hcells, hone⟩ := srcK_sound h hR hx
        rw [forceL_iff, fillF_iff, putK_iff] at hKK
        obtain ⟨v, hv, hob, hown⟩ := hR.own i _ hS
        have hux : r.val i = some (a.eval s) := by simpa only [AV.den, Pc.den, CV.den] using hs
        rw [hux] at hv; injection hv with hv
        obtain ⟨v', w', hrun, hown', hg, hb⟩ := run_append_src (P := P) 0 t o.type _ inf z ht hi hz hzs hpos v n xs hown A m c news hl hcells hone hle hbytes (Nat.zero_le _)
        obtain ⟨hR', hbut⟩ := hR.append hS hG (hux.trans (by rw [hv])) hown' hg hb
        have hex : (execOp a.eval o).run P w = .ok (.value v') w' := by
         simp [execOp, hop, resolve, invoke, builtin, hv, hu, hrun]
        exact wp_of_value hex (hK _ _ _ _ hKK ⟨_, hR', (hf.kill hbut).put (by simp [AV.den, Pc.den, CV.den, Env.set]) (by rw [hN]; exact hdst), (put_size a _ _).trans hN, (put_defers a _ _).trans hd⟩)
       ·exact h.elim
      ·exact h.elim
     ·rename_i he
      rw [he] at hs
      have hv := den_v hs
      rw [lenK_iff] at h
      split at h
      ·rename_i hG
       have hG := Nat.le_of_ble_eq_true hG
       obtain ⟨A, m, c, news, hu, ⟨hle, hKK⟩, hl, hcells, hone⟩ := srcK_sound h hR hx
       rw [forceL_iff, fillF_iff, putK_iff] at hKK
       have hle2 := hR.le_new none (some (.slice none 0 0))
       have hown : w.ownsRow 0 e inf.size (.slice none 0 0) 0 [] := ⟨by simp, .inl ⟨rfl, rfl⟩⟩
       have hR2 := hR.snoc (Below.refl _ _) (b := none) (v := some (.slice none 0 0)) (o := .row e inf.size 0 []) nofun ⟨.slice none 0 0, by simp [Env.set], by simp [Env.set, Value.ownBlock], hown⟩
       obtain ⟨v', w', hrun, hown', hg, hb⟩ := run_append_src (P := P) 0 t o.type _ inf z ht hi hz hzs hpos (.slice none 0 0) 0 [] hown A m c news hl hcells hone (by omega) hbytes (Nat.zero_le _)
       obtain ⟨hR', hbut⟩ := hR2.append (i := S.length) (e := e) (size := inf.size) (n := 0) (xs := []) (by simp) hG (by simp [Env.set]) hown' hg hb
       have hex : (execOp a.eval o).run P w = .ok (.value v') w' := by
        simp [execOp, hop, resolve, invoke, builtin, hv, hu, hrun]
       have e1 : (killS S.length (S ++ [.row e inf.size 0 []])).set S.length (.row e inf.size (0 + m) ([] ++ news)) = killS S.length S ++ [.row e inf.size m news] := by
        have : ∀ (S : List Ow) (o : Ow) (n : Nat), killS n (S ++ [o]) = killS n S ++ [o.kill n] := fun S => by
         induction S with
         | nil => intro o n; rfl
         | cons x S ih => intro o n; simp [killS, ih]
        rw [this]
        simp [List.set_append_right, killS_length]
       rw [e1] at hR'
       exact wp_of_value hex (hK _ _ _ _ hKK ⟨_, hR', ((hf.mono hle2).kill hbut).put (by simp [AV.den, Pc.den, CV.den, Env.set]) (by rw [hN]; exact hdst), (put_size a _ _).trans hN, (put_defers a _ _).trans hd⟩)
      ·exact h.elim
     ·exact h.elim
    ·exact h.elim
   ·exact h.elim
  ·exact h.elim
 ·exact h.elim
end Go.Proofs.YtnhdcclpjildjaaGreat
