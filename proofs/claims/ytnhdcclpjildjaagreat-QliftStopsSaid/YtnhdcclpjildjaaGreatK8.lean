/- Plain: the block that a lifter of Q makes is valid, and writes neither variable 0 nor the variables . -/
import Derived.Test.YtnhdcclpjildjaaGreatK7
namespace Go.Proofs.YtnhdcclpjildjaaGreat
open Go.RowKit

def qAt (F : Int → Option QI) (a : Int) : QI := (F a).getD ⟨0, 0, 0, 0, 0⟩
def qAddr (pc : Int) (k : Nat) : Int := cut32 (pc + 4 * k)
def liftOps (F : Int → Option QI) (pc : Int) (n : Nat) : Nat → Nat → List BOp
 | 0, _ => []
 | fuel + 1, k =>
  ⟨20, 0, 0, 0, (k : Int)⟩ :: (qBody (qAt F (qAddr pc k)) (qAddr pc k) ++
   (match qTail (qAt F (qAddr pc k)) (qAddr pc k) with
    | some t => t
    | none => if k + 1 = n then [⟨24, 0, 0, 0, cut32 (qAddr pc k + 4)⟩] else liftOps F pc n fuel (k + 1)))
def liftLen (F : Int → Option QI) (pc : Int) (n : Nat) : Nat → Nat → Nat
 | 0, k => k
 | fuel + 1, k =>
  (match qTail (qAt F (qAddr pc k)) (qAddr pc k) with
   | some _ => k + 1
   | none => if k + 1 = n then k + 1 else liftLen F pc n fuel (k + 1))
theorem liftOps_succ (F : Int → Option QI) (pc : Int) (n fuel k : Nat) : liftOps F pc n (fuel + 1) k = ⟨20, 0, 0, 0, (k : Int)⟩ :: (qBody (qAt F (qAddr pc k)) (qAddr pc k) ++
   (match qTail (qAt F (qAddr pc k)) (qAddr pc k) with
    | some t => t
    | none => if k + 1 = n then [⟨24, 0, 0, 0, cut32 (qAddr pc k + 4)⟩] else liftOps F pc n fuel (k + 1))) := rfl
theorem liftLen_succ (F : Int → Option QI) (pc : Int) (n fuel k : Nat) : liftLen F pc n (fuel + 1) k = (match qTail (qAt F (qAddr pc k)) (qAddr pc k) with
   | some _ => k + 1
   | none => if k + 1 = n then k + 1 else liftLen F pc n fuel (k + 1)) := rfl
theorem qAt_ok {F : Int → Option QI} (hF : ∀ a i, F a = some i → i.ok) (a : Int) : (qAt F a).ok := by
 unfold qAt
 cases h : F a with
 | none => exact ⟨by constructor <;> decide, by constructor <;> decide, by constructor <;> decide, by constructor <;> decide, by unfold word; constructor <;> decide⟩
 | some i => exact hF a i h
theorem qBody_length (i : QI) (a : Int) : (qBody i a).length ≤ 5 := by
 have hs : ∀ d n, (qSet d n).length ≤ 1 := fun d n => by unfold qSet; split <;> simp
 have ha : (qArith i).length ≤ 5 := by unfold qArith; split <;> split <;> (try split) <;> simp
 have ht : (qTest i).length ≤ 5 := by unfold qTest; split <;> simp
 have h1 := hs i.d (cut32 (i.imm * 1024))
 have h2 := hs i.d (cut32 (a + 4))
 unfold qBody
 repeat' split
 all_goals first | assumption | omega | simp [h2]
theorem qTail_length {i : QI} {a : Int} {t : List BOp} (h : qTail i a = some t) : t.length ≤ 2 := by
 unfold qTail at h
 repeat' split at h
 all_goals (cases h <;> simp)
theorem lift_run {F : Int → Option QI} (hF : ∀ a i, F a = some i → i.ok) (pc : Int) {n : Nat} (hn : n ≤ 64) : ∀ (fuel k : Nat) (pre : List BOp) (W : Nat) (ch : Bool), PreOk pre k W ch → k < n → n ≤ k + fuel →
  (∃ W' ch', ckRun ⟨0, 0, false⟩ (pre ++ liftOps F pc n fuel k) = some ⟨liftLen F pc n fuel k, W', ch'⟩) ∧ (∀ o ∈ liftOps F pc n fuel k, o.ok ∧ clean o) ∧ k < liftLen F pc n fuel k ∧ liftLen F pc n fuel k ≤ n ∧ (liftOps F pc n fuel k).length ≤ 8 * (n - k) ∧ ∃ l, liftOps F pc n fuel k = ⟨20, 0, 0, 0, (k : Int)⟩ :: l
 | 0, k, pre, W, ch, h, hk, hf => by omega
 | fuel + 1, k, pre, W, ch, h, hk, hf => by
  have hi := qAt_ok hF (qAddr pc k)
  obtain ⟨i, hi0⟩ : ∃ i, qAt F (qAddr pc k) = i := ⟨_, rfl⟩
  rw [liftOps_succ, liftLen_succ]
  rw [hi0] at hi ⊢
  obtain ⟨W1, ch1, hb, ht⟩ := qins_ok hi (qAddr pc k)
  have hm : mid 0 := mid0
  have hmark := h.mark (by omega)
  have hpre := hmark.body hb.body (by omega)
  have hbl := qBody_length i (qAddr pc k)
  have hmok : BOp.ok ⟨20, 0, 0, 0, (k : Int)⟩ ∧ clean ⟨20, 0, 0, 0, (k : Int)⟩ := ⟨⟨mid_small (by dsimp only; omega), mid0, mid0, mid0, by unfold word; dsimp only; omega⟩, clean_none (by omega)⟩
  have hbo : ∀ o ∈ qBody i (qAddr pc k), o.ok ∧ clean o := fun o ho => ⟨(hb.body.all o ho).1, hb.clean o ho⟩
  have fin : ∀ t, TailW t W1 ch1 → t.length ≤ 2 → (∃ W' ch', ckRun ⟨0, 0, false⟩ (pre ++ (⟨20, 0, 0, 0, (k : Int)⟩ :: (qBody i (qAddr pc k) ++ t))) = some ⟨k + 1, W', ch'⟩) ∧ (∀ o ∈ (⟨20, 0, 0, 0, (k : Int)⟩ : BOp) :: (qBody i (qAddr pc k) ++ t), o.ok ∧ clean o) ∧ k < k + 1 ∧ k + 1 ≤ n ∧ ((⟨20, 0, 0, 0, (k : Int)⟩ : BOp) :: (qBody i (qAddr pc k) ++ t)).length ≤ 8 * (n - k) ∧ ∃ l, (⟨20, 0, 0, 0, (k : Int)⟩ : BOp) :: (qBody i (qAddr pc k) ++ t) = ⟨20, 0, 0, 0, (k : Int)⟩ :: l := by
   intro t htw htl
   obtain ⟨W', ch', hr⟩ := htw.run (k + 1)
   refine ⟨⟨W', ch', ?_⟩, fun o ho => ?_, by omega, by omega, by simp; omega, _, rfl⟩
   ·rw [show pre ++ ((⟨20, 0, 0, 0, (k : Int)⟩ : BOp) :: (qBody i (qAddr pc k) ++ t)) = (pre ++ [⟨20, 0, 0, 0, (k : Int)⟩] ++ qBody i (qAddr pc k)) ++ t by simp]
    rw [ckRun_pre hpre.run (fun o ho => (hpre.all o ho).2) htw.ne]
    exact hr
   ·rcases List.mem_cons.1 ho with rfl | ho
    ·exact hmok
    ·rcases List.mem_append.1 ho with ho | ho
     ·exact hbo o ho
     ·exact htw.all o ho
  cases hq : qTail i (qAddr pc k) with
  | some t => exact fin t (ht t hq) (qTail_length hq)
  | none =>
   by_cases hkn : k + 1 = n
   ·simp only [if_pos hkn]
    exact fin _ (tailW_exit (cut32_word _) W1 ch1) (by simp)
   ·simp only [if_neg hkn]
    obtain ⟨⟨W', ch', r1⟩, r2, r3, r4, r5, _⟩ := lift_run hF pc hn fuel (k + 1) _ W1 ch1 hpre (by omega) (by omega)
    refine ⟨⟨W', ch', ?_⟩, fun o ho => ?_, by omega, r4, ?_, _, rfl⟩
    ·rw [← r1]
     congr 1
     simp
    ·rcases List.mem_cons.1 ho with rfl | ho
     ·exact hmok
     ·rcases List.mem_append.1 ho with ho | ho
      ·exact hbo o ho
      ·exact r2 o ho
    ·simp only [List.length_cons, List.length_append]
     omega
def liftAts (pc : Int) (m : Nat) : List Int := (List.range m).map (qAddr pc)
def liftB (F : Int → Option QI) (pc : Int) (n : Nat) (pages : List Int) : Blk := ⟨liftAts pc (liftLen F pc n n 0), pages, liftOps F pc n n 0⟩
theorem pages_small : ∀ {l : List Int} {q : Option Int}, pagesFrom q l = true → ∀ x ∈ l, 0 ≤ x ∧ x < 4096
 | [], _, _, x, hx => by cases hx
 | p :: l, q, h, x, hx => by
  simp only [pagesFrom, Bool.and_eq_true] at h
  rcases List.mem_cons.1 hx with rfl | hx
  ·simpa using h.1.1
  ·exact pages_small h.2 x hx
theorem lift_valid {F : Int → Option QI} (hF : ∀ a i, F a = some i → i.ok) (pc : Int) {n : Nat} (h1 : 1 ≤ n) (hn : n ≤ 64) {pages : List Int} (hp : pagesFrom none pages = true) (hpl : pages.length ≤ 1000) :
  (liftB F pc n pages).ok ∧ validB (liftB F pc n pages) = true ∧ (∀ o ∈ (liftB F pc n pages).ops, clean o) ∧ 1 ≤ (liftB F pc n pages).at_.length ∧ (liftB F pc n pages).at_.length ≤ n ∧ (liftB F pc n pages).ops.length ≤ 512 := by
 obtain ⟨⟨W, ch, hr⟩, hall, hlo, hhi, hlen, l, hl⟩ := lift_run hF pc hn n 0 [] 0 false PreOk.nil (by omega) (by omega)
 have hal : (liftAts pc (liftLen F pc n n 0)).length = liftLen F pc n n 0 := by simp [liftAts]
 have hops : (liftOps F pc n n 0).length ≤ 512 := by omega
 rw [List.nil_append] at hr
 refine ⟨⟨fun x hx => ?_, fun x hx => ?_, fun o ho => (hall o ho).1, ?_, ?_, ?_⟩, ?_, fun o ho => (hall o ho).2, ?_, ?_, hops⟩
 ·obtain ⟨k, _, rfl⟩ := List.mem_map.1 hx
  exact cut32_word _
 ·have := pages_small hp x hx
  unfold mid; omega
 ·show (liftAts _ _).length ≤ _; omega
 ·show pages.length ≤ _; omega
 ·show (liftOps _ _ _ _ _).length ≤ _; omega
 ·unfold validB liftB
  dsimp only
  rw [hr]
  have e2 : decide (1 ≤ (liftAts pc (liftLen F pc n n 0)).length ∧ (liftAts pc (liftLen F pc n n 0)).length ≤ 64) = true := by rw [decide_eq_true_eq]; omega
  have e3 : decide (1 ≤ (liftOps F pc n n 0).length ∧ (liftOps F pc n n 0).length ≤ 2000) = true := by rw [decide_eq_true_eq]; rw [hl] at hops ⊢; simp at hops ⊢; omega
  have hh : headerB ⟨liftAts pc (liftLen F pc n n 0), pages, liftOps F pc n n 0⟩ = true := by
   unfold headerB
   dsimp only
   rw [hp, e2, e3, hl]
   rfl
  rw [hh]
  simp [hal]
 ·show 1 ≤ (liftAts _ _).length; omega
 ·show (liftAts _ _).length ≤ n; omega
end Go.Proofs.YtnhdcclpjildjaaGreat
namespace Go.Proofs.YtnhdcclpjildjaaGreat
open Go.RowKit

def sgnW (n : Int) (bits : Nat) : Int := if 2 ^ (bits - 1) ≤ n % 2 ^ bits then n % 2 ^ bits + (4294967296 - 2 ^ bits) else n % 2 ^ bits
structure QForm where
 is : Bool
 d : Bool
 a : Bool
 b : Bool
 signed : Bool
 bits : Nat
 most : Int
def qForm (op : Int) : QForm :=
 if 1 ≤ op ∧ op ≤ 12 then ⟨true, true, true, true, false, 0, 0⟩
 else if 17 ≤ op ∧ op ≤ 19 then ⟨true, true, true, false, false, 18, 0⟩
 else if (16 ≤ op ∧ op ≤ 27) ∨ (32 ≤ op ∧ op ≤ 37) then ⟨true, true, true, false, true, 18, 0⟩
 else if op = 40 then ⟨true, true, false, false, true, 22, 0⟩
 else if op = 41 then ⟨true, true, false, false, false, 22, 0⟩
 else if op = 48 then ⟨true, false, false, false, false, 18, 0⟩
 else if 49 ≤ op ∧ op ≤ 51 then ⟨true, false, false, false, false, 0, 0⟩
 else if op = 52 then ⟨true, false, true, false, false, 0, 0⟩
 else if op = 53 then ⟨true, true, false, false, false, 18, 3⟩
 else if op = 54 then ⟨true, false, true, false, false, 18, 4⟩
 else ⟨false, false, false, false, false, 0, 0⟩
theorem qForm_cases (op : Int) : ((qForm op).bits = 0 ∨ (qForm op).bits = 18 ∨ (qForm op).bits = 22) ∧ 0 ≤ (qForm op).most ∧ (qForm op).most ≤ 4 ∧ ((qForm op).signed = true → 0 < (qForm op).bits ∧ (qForm op).most = 0) ∧ ((qForm op).is = true → 1 ≤ op ∧ op ≤ 54) ∧ ((qForm op).b = true → (qForm op).bits = 0) ∧ ((qForm op).bits = 22 → (qForm op).a = false) ∧ (0 < (qForm op).most → (qForm op).bits = 18) := by
 unfold qForm
 repeat' split
 all_goals refine ⟨?_, ?_, ?_, ?_, ?_, ?_, ?_, ?_⟩
 all_goals first | omega | (intro h; cases h; done) | (dsimp only; omega) | simp | (intro h; first | cases h | omega | (dsimp only at h ⊢; omega))
def regB (n : Int) (used : Bool) : Bool := decide (n = 0) || (used && decide (0 < n) && decide (n < 16))
def immB (f : QForm) (n : Int) : Bool :=
 if f.bits = 0 then decide (n = 0) else if f.signed then decide (sgnW n f.bits = n) else if 0 < f.most then decide (n ≤ f.most) else decide (n < 2 ^ f.bits)
def validQ (i : QI) : Bool := (qForm i.op).is && regB i.d (qForm i.op).d && regB i.a (qForm i.op).a && regB i.b (qForm i.op).b && immB (qForm i.op) i.imm
def wordQ (i : QI) : Int := i.op * 67108864 + i.d * 4194304 + i.a * 262144 + i.b * 16384 + i.imm % 2 ^ (qForm i.op).bits
def encQ (i : QI) : Option Int := if validQ i then some (wordQ i) else none
def fieldsQ (w : Int) : QI :=
 ⟨w / 67108864, if (qForm (w / 67108864)).d then w / 4194304 % 16 else 0, if (qForm (w / 67108864)).a then w / 262144 % 16 else 0, if (qForm (w / 67108864)).b then w / 16384 % 16 else 0,
  if (qForm (w / 67108864)).signed then sgnW (w % 2 ^ (qForm (w / 67108864)).bits) (qForm (w / 67108864)).bits else w % 2 ^ (qForm (w / 67108864)).bits⟩
def decQ (w : Int) : Option QI := if encQ (fieldsQ w) = some w then some (fieldsQ w) else none
theorem sgn18 (n : Int) : sgnW n 18 = if 131072 ≤ n % 262144 then n % 262144 + 4294705152 else n % 262144 := rfl
theorem sgn22 (n : Int) : sgnW n 22 = if 2097152 ≤ n % 4194304 then n % 4194304 + 4290772992 else n % 4194304 := rfl
theorem sgnW_word (n : Int) {bits : Nat} (h : bits = 0 ∨ bits = 18 ∨ bits = 22) (h0 : 0 < bits) : word (sgnW n bits) := by
 unfold word
 rcases h with rfl | rfl | rfl
 ·omega
 ·rw [sgn18]; split <;> omega
 ·rw [sgn22]; split <;> omega
theorem sgnW_low (n : Int) {bits : Nat} (_h : bits = 0 ∨ bits = 18 ∨ bits = 22) (_h0 : 0 < bits) : sgnW (n % 2 ^ bits) bits = sgnW n bits := by
 unfold sgnW
 rw [Int.emod_emod_of_dvd n (Int.dvd_refl _)]
theorem low_range (n : Int) {bits : Nat} (h : bits = 0 ∨ bits = 18 ∨ bits = 22) : 0 ≤ n % 2 ^ bits ∧ n % 2 ^ bits < 2 ^ bits := by
 rcases h with rfl | rfl | rfl
 ·exact ⟨by show 0 ≤ n % 1; omega, by show n % 1 < 1; omega⟩
 ·exact ⟨by show 0 ≤ n % 262144; omega, by show n % 262144 < 262144; omega⟩
 ·exact ⟨by show 0 ≤ n % 4194304; omega, by show n % 4194304 < 4194304; omega⟩
theorem decQ_fields {w : Int} {i : QI} (h : decQ w = some i) : i = fieldsQ w ∧ encQ i = some w := by
 unfold decQ at h
 split at h
 ·rename_i he
  injection h with h
  subst h
  exact ⟨rfl, he⟩
 ·cases h
theorem decQ_valid {w : Int} {i : QI} (h : decQ w = some i) : validQ i = true ∧ wordQ i = w := by
 have h2 := (decQ_fields h).2
 unfold encQ at h2
 split at h2
 ·rename_i hv
  injection h2 with h2
  exact ⟨hv, h2⟩
 ·cases h2
theorem regB_range {n : Int} {u : Bool} (h : regB n u = true) : 0 ≤ n ∧ n < 16 ∧ (u = false → n = 0) := by
 unfold regB at h
 cases u <;> simp at h <;> (refine ⟨by omega, by omega, fun hu => ?_⟩) <;> first | omega | cases hu
theorem validQ_parts {i : QI} (h : validQ i = true) : (qForm i.op).is = true ∧ regB i.d (qForm i.op).d = true ∧ regB i.a (qForm i.op).a = true ∧ regB i.b (qForm i.op).b = true ∧ immB (qForm i.op) i.imm = true := by
 unfold validQ at h
 simp only [Bool.and_eq_true] at h
 exact ⟨h.1.1.1.1, h.1.1.1.2, h.1.1.2, h.1.2, h.2⟩
theorem decQ_ok {w : Int} {i : QI} (_hw : word w) (h : decQ w = some i) : i.ok := by
 obtain ⟨hv, _⟩ := decQ_valid h
 obtain ⟨he, _⟩ := decQ_fields h
 obtain ⟨h1, h2, h3, h4, h5⟩ := validQ_parts hv
 obtain ⟨q1, q2, q3, q4, q5, _⟩ := qForm_cases i.op
 have r2 := regB_range h2
 have r3 := regB_range h3
 have r4 := regB_range h4
 have r1 := q5 h1
 refine ⟨by omega, ⟨r2.1, r2.2.1⟩, ⟨r3.1, r3.2.1⟩, ⟨r4.1, r4.2.1⟩, ?_⟩
 have hop : i.op = w / 67108864 := by rw [he]; rfl
 have himm : i.imm = if (qForm (w / 67108864)).signed then sgnW (w % 2 ^ (qForm (w / 67108864)).bits) (qForm (w / 67108864)).bits else w % 2 ^ (qForm (w / 67108864)).bits := by rw [he]; rfl
 rw [← hop] at himm
 rw [himm]
 split
 ·rename_i hs
  exact sgnW_word _ q1 (q4 hs).1
 ·have := low_range w q1
  unfold word
  rcases q1 with q | q | q
  ·rw [q] at this ⊢; have h2 : (2 : Int) ^ 0 = 1 := rfl; omega
  ·rw [q] at this ⊢; have h2 : (2 : Int) ^ 18 = 262144 := rfl; omega
  ·rw [q] at this ⊢; have h2 : (2 : Int) ^ 22 = 4194304 := rfl; omega
theorem decQ_word {i : QI} (hv : validQ i = true) (him : word i.imm) : decQ (wordQ i) = some i ∧ word (wordQ i) := by
 obtain ⟨h1, h2, h3, h4, h5⟩ := validQ_parts hv
 obtain ⟨q1, q2, q2', q4, q5, q6, q7, q8⟩ := qForm_cases i.op
 have r2 := regB_range h2
 have r3 := regB_range h3
 have r4 := regB_range h4
 have r1 := q5 h1
 have lo := low_range i.imm q1
 have hw0 : wordQ i = i.op * 67108864 + i.d * 4194304 + i.a * 262144 + i.b * 16384 + i.imm % 2 ^ (qForm i.op).bits := rfl
 have key : wordQ i / 67108864 = i.op ∧ word (wordQ i) ∧ ((qForm i.op).d = true → wordQ i / 4194304 % 16 = i.d) ∧ ((qForm i.op).a = true → wordQ i / 262144 % 16 = i.a) ∧ ((qForm i.op).b = true → wordQ i / 16384 % 16 = i.b) ∧ wordQ i % 2 ^ (qForm i.op).bits = i.imm % 2 ^ (qForm i.op).bits := by
  rw [hw0]
  unfold word
  rcases q1 with q | q | q
  ·rw [q] at lo ⊢
   have e : (2 : Int) ^ 0 = 1 := rfl
   rw [e] at lo ⊢
   refine ⟨by omega, by omega, fun _ => by omega, fun _ => by omega, fun _ => by omega, by omega⟩
  ·have hb := r4.2.2 (by cases hb : (qForm i.op).b with | false => rfl | true => rw [q6 hb] at q; cases q)
   rw [q] at lo ⊢
   have e : (2 : Int) ^ 18 = 262144 := rfl
   rw [e] at lo ⊢
   refine ⟨by omega, by omega, fun _ => by omega, fun _ => by omega, fun h => ?_, by omega⟩
   have := q6 h; omega
  ·have hb := r4.2.2 (by cases hb : (qForm i.op).b with | false => rfl | true => rw [q6 hb] at q; cases q)
   have ha := r3.2.2 (q7 q)
   have ha2 := q7 q
   rw [q] at lo ⊢
   have e : (2 : Int) ^ 22 = 4194304 := rfl
   rw [e] at lo ⊢
   refine ⟨by omega, by omega, fun _ => by omega, fun h => ?_, fun h => ?_, by omega⟩
   ·rw [ha2] at h; cases h
   ·have := q6 h; omega
 obtain ⟨k1, k2, k3, k4, k5, k6⟩ := key
 have hf : fieldsQ (wordQ i) = i := by
  unfold fieldsQ
  rw [k1, k6]
  have e1 : (if (qForm i.op).d then wordQ i / 4194304 % 16 else 0) = i.d := by
   cases hd : (qForm i.op).d with
   | true => exact k3 hd
   | false => exact (r2.2.2 hd).symm
  have e2 : (if (qForm i.op).a then wordQ i / 262144 % 16 else 0) = i.a := by
   cases hd : (qForm i.op).a with
   | true => exact k4 hd
   | false => exact (r3.2.2 hd).symm
  have e3 : (if (qForm i.op).b then wordQ i / 16384 % 16 else 0) = i.b := by
   cases hd : (qForm i.op).b with
   | true => exact k5 hd
   | false => exact (r4.2.2 hd).symm
  have e4 : (if (qForm i.op).signed then sgnW (i.imm % 2 ^ (qForm i.op).bits) (qForm i.op).bits else i.imm % 2 ^ (qForm i.op).bits) = i.imm := by
   unfold immB at h5
   cases hs : (qForm i.op).signed with
   | true =>
    have hpos := (q4 hs).1
    rw [hs, if_neg (by omega)] at h5
    rw [if_pos rfl, sgnW_low _ q1 hpos]
    simpa using h5
   | false =>
    rw [hs] at h5
    rw [if_neg (by decide)]
    unfold word at him
    rcases q1 with q | q | q
    ·rw [q] at h5 ⊢
     have h0 : i.imm = 0 := by simpa using h5
     rw [h0]; rfl
    ·rw [q, if_neg (by decide), if_neg (by decide)] at h5
     rw [q]
     have e : (2 : Int) ^ 18 = 262144 := rfl
     rw [e] at h5 ⊢
     split at h5
     ·have := of_decide_eq_true h5; omega
     ·have := of_decide_eq_true h5; omega
    ·rw [q, if_neg (by decide), if_neg (by decide)] at h5
     rw [q]
     have e : (2 : Int) ^ 22 = 4194304 := rfl
     rw [e] at h5 ⊢
     split at h5
     ·have := of_decide_eq_true h5; omega
     ·have := of_decide_eq_true h5; omega
  rw [e1, e2, e3, e4]
 refine ⟨?_, k2⟩
 unfold decQ
 rw [hf]
 unfold encQ
 rw [if_pos hv, if_pos rfl]
end Go.Proofs.YtnhdcclpjildjaaGreat
namespace Go.Proofs.YtnhdcclpjildjaaGreat
open Go.RowKit

section
variable {P : Program} {w0 : World} {G : Gs} {N : Nd} {ops : Array Oper}
theorem onTop_agree {n : Nat} {r : Env} {f f' : Fr} {grp : List Oper} {d : Nat} {x : Bool} {a : Act} (hfx : f.get d = one (.bool x)) (htop : onTop (dstsOf grp) ((d, one (.bool x)) :: f) (putN grp) f') (hf : FDen r f' a) (hb : f.bnd n = true) : FDen (r.upto n) (putsAny grp f) a := by
 intro k
 rcases putsAny_get grp f k with h | ⟨h1, h2⟩
 ·rw [h]; simp [AV.den, Pc.den, CV.den]
 ·rw [h1]
  have e1 := onTop_get _ _ htop k h2
  have e2 := hf k
  rw [e1] at e2
  simp only [Fr.get] at e2
  split at e2
  ·rename_i hk
   have := Nat.eq_of_beq_eq_true hk; subst this
   rw [hfx]
   exact AV.den_agree (Env.upto_agree n r) _ _ rfl e2
  ·exact AV.den_agree (Env.upto_agree n r) _ _ (Fr.bnd_get k hb) e2
end
theorem sbnd_get {n : Nat} : ∀ {S : List Ow} {i : Nat} {o : Ow}, sbnd n S = true → S[i]? = some o → o.bnd n = true
 | [], i, o, _, h => by simp at h
 | x :: S, i, o, hb, h => by
  simp only [sbnd] at hb
  split at hb
  ·rename_i hx
   cases i with
   | zero => simp at h; subst h; exact hx
   | succ i => exact sbnd_get hb (by simpa using h)
  ·cases hb
section
variable {P : Program} {w0 : World} {G : Gs} {N : Nd} {ops : Array Oper}
theorem opsK_sound {Q : Act → World → Prop} : ∀ (n : Nat) (l : List Oper) (f : Fr) (S : List Ow) (K : Fr → List Ow → Prop), opsK P w0 G N ops n l f S K → (∀ f' S' a' w', K f' S' → Good w0 G N f' S' a' w' → Q a' w') →
  ∀ a w, Good w0 G N f S a w → seL P ops Q l a w
 | _, [], f, S, K, h, hK, a, w, hg => by cases ‹Nat› <;> exact hK _ _ _ _ h hg
 | 0, o :: l, f, S, K, h, hK, a, w, hg => h.elim
 | n + 1, o :: l, f, S, K, h, hK, a, w, hg => by
  unfold opsK at h
  have hsplit : ∀ {j d : Nat} {pol x : Bool}, o.guard = some (j, pol) → slotOf ops j = some d → f.get d = one (.bool x) →
    ((x = pol → opK P w0 G N o ((d, one (.bool pol)) :: f) S fun f' S' => opsK P w0 G N ops n l f' S' K) ∧
     (x = (!pol) → match dstOk N.n o.dst with | true => (Fr.putK ((d, one (.bool (!pol))) :: f) o.dst (.p (.c .any)) fun f' => opsK P w0 G N ops n l f' S K) | false => False)) → seL P ops Q (o :: l) a w := by
   intro j d pol x hg' hs hfx ⟨h1, h2⟩
   by_cases hx : x = pol
   ·obtain ⟨r, hR, hf, hN, hd⟩ := hg.known (d := d) (x := one (.bool pol)) (by rw [hfx, hx])
    refine step_do ?_ ((opK_sound (h1 hx)).out r a w hR hf hN hd _ (fun _ _ _ => True) fun f' S' a' w' hk hgd => opsK_sound n l f' S' K hk hK a' w' hgd)
    rw [wanted_some hg', yielded_of hf hs (get_cons_self d _ f)]; simp
   ·have hx' : x = !pol := by cases x <;> cases pol <;> simp_all
    have h2 := h2 hx'
    obtain ⟨r, hR, hf, hN, hd⟩ := hg.known (d := d) (x := one (.bool (!pol))) (by rw [hfx, hx'])
    split at h2
    ·rename_i hdst
     refine step_not ?_ (opsK_sound n l _ S K (putK_iff.1 h2) hK _ _ ⟨r, hR, hf.putAny undef (by rw [hN]; exact hdst), (put_size a _ _).trans hN, (put_defers a _ _).trans hd⟩)
     rw [wanted_some hg', yielded_of hf hs (get_cons_self d _ f)]; cases pol <;> simp
    ·exact h2.elim
  split at h
  ·rename_i hgd
   obtain ⟨r, hR, hf, hN, hd⟩ := hg
   exact step_do (wanted_none hgd _) ((opK_sound h).out r a w hR hf hN hd _ (fun _ _ _ => True) fun f' S' a' w' hk hg' => opsK_sound n l f' S' K hk hK a' w' hg')
  ·rename_i j pol hgd
   split at h
   ·exact h.elim
   ·rename_i d hs
    split at h
    ·rename_i x hfx
     split at h
     ·rename_i grp p rem hspan
      split at h
      ·rename_i b hpick
       split at h
       ·rename_i hD hpd hmem
        have hmem := memN_not hmem
        obtain ⟨y, hy, hrest⟩ := h
        rw [putsAnyK_iff, putK_iff] at hrest
        have hall : ∀ o ∈ grp, o.guard = some (j, pol) := fun o' ho' => spanG_all j pol (o :: l) o' (by rw [hspan]; exact ho')
        have happ : grp ++ p :: rem = o :: l := by have := spanG_append j pol (o :: l); rw [hspan] at this; exact this
        rw [← happ]
        by_cases hx : x = pol
        ·have h1 := hy hx
         refine seqK_sound hs grp _ S _ hall h1 ?_ a w (hg.known (d := d) (x := one (.bool pol)) (by rw [hfx, hx]))
         rintro f' S' a' w' ⟨htop, htake, hb, hbnd, hgrp⟩ ⟨r', hR', hf', hN', hd'⟩
         subst hx
         have hS : S.length ≤ S'.length := by
          have := congrArg List.length htake
          simp at this; omega
         have hfd := onTop_agree (grp := grp) hfx htop hf' hbnd
         have hR2 : Rel w0 G S' r' w' := hR'
         have eb : a'.eval (.tmp b) = .bool y := by have := hf' b; rw [hb] at this; exact den_v this
         have ed : a'.eval (.tmp d) = .bool x := by
          have h2 := hf' d
          rw [onTop_get _ _ htop d hmem, get_cons_self] at h2
          exact den_v h2
         obtain ⟨hpg, hprun⟩ := pick_run (P := P) hpick (a := a') ed (fun _ => eb) w'
         refine step_do (wanted_none hpg _) (wp_of_value hprun ?_)
         refine opsK_sound n rem _ S K hrest hK _ _ ⟨r'.upto S.length, ?_, hfd.put (den_one _ _) (by rw [hN']; exact hpd), (put_size a' _ _).trans hN', (put_defers a' _ _).trans hd'⟩
         unfold grpOk at hgrp
         split at hgrp
         ·rename_i hG
          refine hR2.upto rfl hS (Nat.le_of_ble_eq_true hG) fun i o' ho' => ?_
          have hil : i < S.length := by
           rcases Nat.lt_or_ge i S.length with h1 | h1
           ·exact h1
           ·rw [List.getElem?_eq_none h1] at ho'; cases ho'
          have ho2 : S'[i]? = some o' := by rw [← htake, List.getElem?_take] at ho'; rw [if_pos hil] at ho'; exact ho'
          exact Ow.holds_agree (hR2.own i o' ho2) (Env.upto_agree _ _) (sbnd_get hgrp ho') hil (Env.upto_blk _ _)
         ·cases hgrp
        ·refine allDst_put grp hD hs hall hx hfx hmem hg fun a' hg' => ?_
         obtain ⟨r', hR', hf', hN', hd'⟩ := hg'
         have ed : a'.eval (.tmp d) = .bool x := by
          have h2 := hf' d
          rw [putsAny_far grp f d hmem, hfx] at h2
          exact den_v h2
         obtain ⟨hpg, hprun⟩ := pick_run (P := P) (y := y) hpick (a := a') ed (fun e => absurd e hx) w
         refine step_do (wanted_none hpg _) (wp_of_value hprun ?_)
         exact opsK_sound n rem _ S K hrest hK _ _ ⟨r', hR', hf'.put (den_one _ _) (by rw [hN']; exact hpd), (put_size a' _ _).trans hN', (put_defers a' _ _).trans hd'⟩
       ·exact h.elim
      ·exact hsplit hgd hs hfx h
     ·exact hsplit hgd hs hfx h
    ·exact h.elim
end
end Go.Proofs.YtnhdcclpjildjaaGreat
namespace Go.Proofs.YtnhdcclpjildjaaGreat
open Go.RowKit

def Inc (l : List Int) : Prop := l.Pairwise (· < ·)
def putP : List Int → Int → List Int
 | [], p => [p]
 | x :: l, p => if x = p then x :: l else if p < x then p :: x :: l else x :: putP l p
theorem mem_putP {l : List Int} {p x : Int} : x ∈ putP l p ↔ x = p ∨ x ∈ l := by
 induction l with
 | nil => simp [putP]
 | cons y l ih =>
  unfold putP
  split
  ·rename_i h; subst h; simp
  ·split
   ·simp
   ·simp only [List.mem_cons, ih]
    constructor
    ·rintro (h | h | h) <;> simp [h]
    ·rintro (h | h | h) <;> simp [h]
theorem putP_inc {l : List Int} {p : Int} (h : Inc l) : Inc (putP l p) := by
 induction l with
 | nil => simp [putP, Inc]
 | cons y l ih =>
  unfold Inc at h
  rw [List.pairwise_cons] at h
  unfold putP
  split
  ·unfold Inc; rw [List.pairwise_cons]; exact h
  ·split
   ·rename_i h1 h2
    unfold Inc
    rw [List.pairwise_cons, List.pairwise_cons]
    refine ⟨fun x hx => ?_, h⟩
    rcases List.mem_cons.1 hx with rfl | hx
    ·exact h2
    ·exact Int.lt_trans h2 (h.1 x hx)
   ·rename_i h1 h2
    unfold Inc
    rw [List.pairwise_cons]
    refine ⟨fun x hx => ?_, ih h.2⟩
    rcases mem_putP.1 hx with rfl | hx
    ·omega
    ·exact h.1 x hx
theorem pagesFrom_inc : ∀ {l : List Int} {q : Option Int}, Inc l → (∀ x ∈ l, 0 ≤ x ∧ x < 4096) → (∀ p, q = some p → ∀ x ∈ l, p < x) → pagesFrom q l = true
 | [], _, _, _, _ => rfl
 | x :: l, q, hi, hr, hq => by
  unfold Inc at hi
  rw [List.pairwise_cons] at hi
  have h1 : decide (0 ≤ x ∧ x < 4096) = true := decide_eq_true (hr x (by simp))
  have h2 : (match q with | none => true | some q => decide (q < x)) = true := by
   cases q with
   | none => rfl
   | some p => exact decide_eq_true (hq p rfl x (by simp))
  have h3 : pagesFrom (some x) l = true := pagesFrom_inc hi.2 (fun y hy => hr y (by simp [hy])) (fun p hp y hy => by injection hp with hp; subst hp; exact hi.1 y hy)
  unfold pagesFrom
  rw [h1, h3]
  cases q with
  | none => rfl
  | some p => simpa using h2
def pageOf (a : Int) : Int := cut32 a / 256
def addPage (l : List Int) (a : Int) : List Int := if pageOf a < 4096 then putP l (pageOf a) else l
def addPages (l : List Int) (a : Int) : List Int := addPage (addPage (addPage (addPage l a) (a + 1)) (a + 2)) (a + 3)
def liftPages (pc : Int) : Nat → List Int
 | 0 => []
 | m + 1 => addPages (liftPages pc m) (qAddr pc m)
structure PagesIn (l : List Int) : Prop where
 inc : Inc l
 range : ∀ x ∈ l, 0 ≤ x ∧ x < 4096
theorem addPage_in {l : List Int} (h : PagesIn l) (a : Int) : PagesIn (addPage l a) := by
 unfold addPage
 split
 ·rename_i hp
  refine ⟨putP_inc h.inc, fun x hx => ?_⟩
  rcases mem_putP.1 hx with rfl | hx
  ·refine ⟨?_, hp⟩
   have := cut32_word a
   unfold word at this
   unfold pageOf
   omega
  ·exact h.range x hx
 ·exact h
theorem addPages_in {l : List Int} (h : PagesIn l) (a : Int) : PagesIn (addPages l a) := addPage_in (addPage_in (addPage_in (addPage_in h a) _) _) _
theorem liftPages_in (pc : Int) : ∀ m, PagesIn (liftPages pc m)
 | 0 => ⟨List.Pairwise.nil, nofun⟩
 | m + 1 => addPages_in (liftPages_in pc m) _
theorem putP_length (l : List Int) (p : Int) : (putP l p).length ≤ l.length + 1 := by
 induction l with
 | nil => simp [putP]
 | cons y l ih => unfold putP; split <;> (try split) <;> simp <;> omega
theorem addPage_length (l : List Int) (a : Int) : (addPage l a).length ≤ l.length + 1 := by
 unfold addPage; split
 ·exact putP_length _ _
 ·omega
theorem addPages_length (l : List Int) (a : Int) : (addPages l a).length ≤ l.length + 4 := by
 have h1 := addPage_length l a
 have h2 := addPage_length (addPage l a) (a + 1)
 have h3 := addPage_length (addPage (addPage l a) (a + 1)) (a + 2)
 have h4 := addPage_length (addPage (addPage (addPage l a) (a + 1)) (a + 2)) (a + 3)
 unfold addPages; omega
theorem liftPages_length (pc : Int) : ∀ m, (liftPages pc m).length ≤ 4 * m
 | 0 => by simp [liftPages]
 | m + 1 => by have := liftPages_length pc m; have := addPages_length (liftPages pc m) (qAddr pc m); unfold liftPages; omega
def liftQ (F : Int → Option QI) (pc : Int) (n : Nat) : Blk := liftB F pc n (liftPages pc (liftLen F pc n n 0))
theorem liftQ_valid {F : Int → Option QI} (hF : ∀ a i, F a = some i → i.ok) (pc : Int) {n : Nat} (h1 : 1 ≤ n) (hn : n ≤ 64) : (liftQ F pc n).ok ∧ validB (liftQ F pc n) = true ∧ ∀ o ∈ (liftQ F pc n).ops, clean o := by
 have hin := liftPages_in pc (liftLen F pc n n 0)
 have hlen := liftPages_length pc (liftLen F pc n n 0)
 obtain ⟨_, _, _, hhi, _⟩ := lift_run hF pc hn n 0 [] 0 false PreOk.nil (by omega) (by omega)
 obtain ⟨a, b, c, _⟩ := lift_valid hF pc h1 hn (pagesFrom_inc hin.inc hin.range nofun) (by omega)
 exact ⟨a, b, c⟩
end Go.Proofs.YtnhdcclpjildjaaGreat
namespace Go.Proofs.YtnhdcclpjildjaaGreat
open Go.RowKit

section
variable (ro : Option Nat) (P : Program) (w0 : World) (G : Gs) (N : Nd)
def PostK (K : Exit → Fr → List Ow → Prop) : Exit → Act → World → Prop := fun e a w => ∃ f S, K e f S ∧ Good w0 G N f S a w
structure Sat (c : Code) (f : Fr) (S : List Ow) (K : Exit → Fr → List Ow → Prop) : Prop where
 out : ∀ n a w, Good w0 G N f S a w → c.wpIn (fenceR ro) n P (PostK w0 G N K) a w
structure Ent (f : Fr) (S : List Ow) (f' : Fr) (S' : List Ow) : Prop where
 out : ∀ a w, Good w0 G N f S a w → Good w0 G N f' S' a w
def LoopS (vcb : Fr → List Ow → (Exit → Fr → List Ow → Prop) → Prop) (f : Fr) (S : List Ow) (K : Exit → Fr → List Ow → Prop) : Prop :=
 ∃ (α : Type) (T : α → Fr) (U : α → List Ow) (m : α → Nat), (∃ x, Ent w0 G N f S (T x) (U x)) ∧
  ∀ x, vcb (T x) (U x) fun e f' S' => match e with | .normal => ∃ y, Ent w0 G N f' S' (T y) (U y) ∧ m y < m x | e => ∃ f2 S2, Ent w0 G N f' S' f2 S2 ∧ K e f2 S2
def vc : Code → Fr → List Ow → (Exit → Fr → List Ow → Prop) → Prop
 | .skip, f, S, K => K .normal f S
 | .region id ops draw, f, S, K => (match draw with
  | false => opsK P w0 G N ops ops.toList.length ops.toList f S (K .normal)
  | true => Sat ro P w0 G N (.region id ops true) f S K)
 | .seq a b, f, S, K => vc a f S fun e f' S' => match e with | .normal => vc b f' S' K | e => K e f' S'
 | .cond c x y, f, S, K => (match f.ev c with
  | .p (.c (.v (.bool t))) => (t = true → vc x f S K) ∧ (t = false → vc y f S K)
  | _ => False)
 | .block id body, f, S, K => vc body f S fun e f' S' => match e with
  | .exit id' => (match Nat.beq id' id with | true => K .normal f' S' | false => K (.exit id') f' S')
  | e => K e f' S'
 | .loop body, f, S, K => LoopS w0 G N (vc body) f S K
 | .exit id, f, S, K => K (.exit id) f S
 | .ret, f, S, K => K .ret f S
 | c, f, S, K => Sat ro P w0 G N c f S K
end
section
variable {ro : Option Nat} {P : Program} {w0 : World} {G : Gs} {N : Nd}
theorem vc_sound : ∀ (c : Code) (f : Fr) (S : List Ow) (K : Exit → Fr → List Ow → Prop), vc ro P w0 G N c f S K → Sat ro P w0 G N c f S K
 | .skip, f, S, K, h => ⟨fun n a w hg => wpIn_skip ⟨f, S, h, hg⟩⟩
 | .region id ops draw, f, S, K, h => by
  cases draw with
  | false => exact ⟨fun n a w hg => wpIn_region_list (seL_wpIn ro n (opsK_sound _ _ f S _ h (fun f' S' a' w' hk hg' => ⟨f', S', hk, hg'⟩) a w hg))⟩
  | true => exact h
 | .seq x y, f, S, K, h => ⟨fun n a w hg => wpIn_seq (wpIn_mono ((vc_sound x f S _ h).out n a w hg) (fun e a' w' ⟨f', S', hk, hg'⟩ => by
   cases e with
   | normal => exact (vc_sound y f' S' K hk).out n a' w' hg'
   | exit id => exact ⟨f', S', hk, hg'⟩
   | goto l => exact ⟨f', S', hk, hg'⟩
   | ret => exact ⟨f', S', hk, hg'⟩
   | panic ch => exact ⟨f', S', hk, hg'⟩
   | outgrown => exact ⟨f', S', hk, hg'⟩))⟩
 | .cond c x y, f, S, K, h => ⟨fun n a w hg => by
   unfold vc at h
   split at h
   ·rename_i t ht
    obtain ⟨r, hR, hf, hN, hd⟩ := hg
    have hc := hf.ev c
    rw [ht] at hc
    have hc := den_v hc
    refine wpIn_cond_split hc (fun e => (vc_sound x f S K (h.1 e)).out n a w ⟨r, hR, hf, hN, hd⟩) (fun e => (vc_sound y f S K (h.2 e)).out n a w ⟨r, hR, hf, hN, hd⟩)
   ·exact h.elim⟩
 | .block id c, f, S, K, h => ⟨fun n a w hg => wpIn_block (wpIn_mono ((vc_sound c f S _ h).out n a w hg) (fun e a' w' ⟨f', S', hk, hg'⟩ => by
   cases e with
   | exit id' =>
    simp only [Exit.inBlock]
    by_cases hi : id' = id
    ·subst hi; simp only [Nat.beq_refl] at hk; rw [if_pos rfl]; exact ⟨f', S', hk, hg'⟩
    ·have hb : Nat.beq id' id = false := by
      cases h2 : Nat.beq id' id
      ·rfl
      ·exact absurd (Nat.eq_of_beq_eq_true h2) hi
     simp only [hb] at hk; rw [if_neg hi]; exact ⟨f', S', hk, hg'⟩
   | normal => exact ⟨f', S', hk, hg'⟩
   | goto l => exact ⟨f', S', hk, hg'⟩
   | ret => exact ⟨f', S', hk, hg'⟩
   | panic ch => exact ⟨f', S', hk, hg'⟩
   | outgrown => exact ⟨f', S', hk, hg'⟩))⟩
 | .loop c, f, S, K, h => ⟨fun nn a w hg => by
   obtain ⟨α, T, U, m, ⟨x0, h0⟩, hround⟩ := h
   intro b k cs hro hb hr
   have key : ∀ (n : Nat) (x : α), m x = n → ∀ a w, Good w0 G N (T x) (U x) a w → ∃ e a' w', PostK w0 G N K e a' w' ∧ ArrivesIn (Machine.fenced P (fenceR ro)) P (lone (b.atR a (.code c :: .inLoop c :: k)) cs w) b k cs e a' w' := by
    intro n
    induction n using Nat.strongRecOn with
    | _ n ih =>
     intro x hx a w hg
     obtain ⟨e, a', w', ⟨f', S', hk, hg'⟩, harr⟩ := (vc_sound c (T x) (U x) _ (hround x)).out nn a w hg b (.inLoop c :: k) cs hro hb hr
     cases e with
     | normal =>
      obtain ⟨y, hent, hlt⟩ := hk
      obtain ⟨e2, a2, w2, hq2, harr2⟩ := ih (m y) (by omega) y rfl a' w' (hent.out a' w' hg')
      exact ⟨e2, a2, w2, hq2, .of_steps (StepsIn.trans harr (.one (fenced_calm hb hr rfl) stepR_inLoop)) harr2⟩
     | exit id => obtain ⟨f2, S2, hent, hk2⟩ := hk; exact ⟨_, a', w', ⟨f2, S2, hk2, hent.out a' w' hg'⟩, .pass (x := .inLoop c) rfl (fun _ _ => .inl (by simp)) harr⟩
     | goto l => obtain ⟨f2, S2, hent, hk2⟩ := hk; exact ⟨_, a', w', ⟨f2, S2, hk2, hent.out a' w' hg'⟩, .pass (x := .inLoop c) rfl (fun _ _ => .inl (by simp)) harr⟩
     | ret => obtain ⟨f2, S2, hent, hk2⟩ := hk; exact ⟨_, a', w', ⟨f2, S2, hk2, hent.out a' w' hg'⟩, .pass (x := .inLoop c) rfl (fun _ _ => .inl (by simp)) harr⟩
     | panic ch => obtain ⟨f2, S2, hent, hk2⟩ := hk; exact ⟨_, a', w', ⟨f2, S2, hk2, hent.out a' w' hg'⟩, .pass (x := .inLoop c) rfl (fun _ _ => .inl (by simp)) harr⟩
     | outgrown => obtain ⟨f2, S2, hent, hk2⟩ := hk; exact ⟨_, a', w', ⟨f2, S2, hk2, hent.out a' w' hg'⟩, .pass (x := .inLoop c) rfl (fun _ _ => .inl (by simp)) harr⟩
   obtain ⟨e, a', w', hq, harr⟩ := key _ x0 rfl a w (h0.out a w hg)
   exact ⟨e, a', w', hq, .of_steps (.one (fenced_calm hb hr rfl) stepR_loop) harr⟩⟩
 | .exit id, f, S, K, h => ⟨fun n a w hg => wpIn_exit ⟨f, S, h, hg⟩⟩
 | .ret, f, S, K, h => ⟨fun n a w hg => wpIn_ret ⟨f, S, h, hg⟩⟩
 | .rangeFunc _ _ _ _, f, S, K, h => h
 | .scope _, f, S, K, h => h
 | .label _, f, S, K, h => h
 | .goto _, f, S, K, h => h
 | .refuse _, f, S, K, h => h
end
end Go.Proofs.YtnhdcclpjildjaaGreat
namespace Go.Proofs.YtnhdcclpjildjaaGreat
open Go.RowKit

def AVle (u : AV) : AV → Prop
 | .p (.c .any) => True
 | v => u = v
def FLe (f : Fr) : Fr → Prop
 | [] => True
 | (d, x) :: r => AVle (f.get d) x ∧ FLe f r
def CLp : List CV → List CV → Prop
 | [], [] => True
 | c :: l, d :: m => (match d with | .any => True | d => c = d) ∧ CLp l m
 | _, _ => False
def CLe (l m : List CV) : Prop := l = m ∨ CLp l m
def OLe : Ow → Ow → Prop
 | .cells t l, .cells t' l' => t = t' ∧ CLe l l'
 | .row e s n xs, .row e' s' n' xs' => e = e' ∧ s = s' ∧ n = n' ∧ xs = xs'
 | .view φ n xs, .view φ' n' xs' => φ = φ' ∧ n = n' ∧ xs = xs'
 | .ext φ, .ext ψ => ∀ b w, φ b w → ψ b w
 | _, .gone => True
 | _, _ => False
def SLe : List Ow → List Ow → Prop
 | _, [] => True
 | o :: S, o' :: S' => OLe o o' ∧ SLe S S'
 | [], _ :: _ => False
theorem AVle.den {r : Env} {u v : AV} {x : Value} (h : AVle u v) (hd : u.den r x) : v.den r x := by
 unfold AVle at h
 split at h
 ·simp [AV.den, Pc.den, CV.den]
 ·subst h; exact hd
theorem FLe.get {f : Fr} : ∀ {g : Fr} (k : Nat), FLe f g → g.get k = .p (.c .any) ∨ AVle (f.get k) (g.get k)
 | [], k, _ => .inl rfl
 | (d, x) :: r, k, h => by
  simp only [Fr.get]
  split
  ·rename_i hk; have := Nat.eq_of_beq_eq_true hk; subst this; exact .inr h.1
  ·exact FLe.get k h.2
theorem FLe.den {r : Env} {f g : Fr} {a : Act} (h : FLe f g) (hf : FDen r f a) : FDen r g a := fun k => by
 rcases h.get k with h1 | h1
 ·rw [h1]; simp [AV.den, Pc.den, CV.den]
 ·exact h1.den (hf k)
theorem CLp.den {r : Env} : ∀ {l m : List CV} {us : List Value}, CLp l m → denL r l us → denL r m us
 | [], [], us, _, hd => hd
 | c :: l, d :: m, us, h, hd => by
  simp only [denL] at hd ⊢
  obtain ⟨u, l', hu, hc, hl⟩ := hd
  refine ⟨u, l', hu, ?_, CLp.den h.2 hl⟩
  have h1 := h.1
  split at h1
  ·simp only [CV.den]
  ·subst h1; exact hc
 | [], _ :: _, _, h, _ => h.elim
 | _ :: _, [], _, h, _ => h.elim
theorem CLe.den {r : Env} {l m : List CV} {us : List Value} (h : CLe l m) (hd : denL r l us) : denL r m us := by
 rcases h with rfl | h
 ·exact hd
 ·exact h.den hd
theorem OLe.holds {r : Env} {w : World} {i : Nat} {o o' : Ow} (h : OLe o o') (ho : o.holds r w i) : o'.holds r w i := by
 cases o <;> cases o' <;> simp only [OLe] at h
 ·obtain ⟨rfl, hl⟩ := h; obtain ⟨b, us, h1, h2, h3⟩ := ho; exact ⟨b, us, h1, h2, hl.den h3⟩
 ·trivial
 ·obtain ⟨rfl, rfl, rfl, rfl⟩ := h; exact ho
 ·trivial
 ·obtain ⟨b, h1, h2, h3⟩ := ho; exact ⟨b, h1, h b w h2, fun w' hw => h b w' (h3 w' hw)⟩
 ·trivial
 ·obtain ⟨rfl, rfl, rfl⟩ := h; exact ho
 ·trivial
 ·trivial
theorem SLe.get : ∀ {S S' : List Ow} {i : Nat} {o' : Ow}, SLe S S' → S'[i]? = some o' → ∃ o, S[i]? = some o ∧ OLe o o'
 | _, [], i, o', _, h => by simp at h
 | [], _ :: _, _, _, h, _ => h.elim
 | o :: S, o1 :: S', 0, o', h, hi => by simp at hi; subst hi; exact ⟨o, by simp, h.1⟩
 | o :: S, o1 :: S', i + 1, o', h, hi => by simpa using SLe.get h.2 (by simpa using hi)
theorem SLe.length : ∀ {S S' : List Ow}, SLe S S' → S'.length ≤ S.length
 | _, [], _ => by simp
 | [], _ :: _, h => h.elim
 | o :: S, o1 :: S', h => by simp; exact SLe.length h.2

section
variable {P : Program} {w0 : World} {G : Gs} {N : Nd} {f f' : Fr} {S S' : List Ow}
theorem ent_refl : Ent w0 G N f S f S := ⟨fun _ _ h => h⟩
theorem ent_trans {f2 : Fr} {S2 : List Ow} (h : Ent w0 G N f S f' S') (k : Ent w0 G N f' S' f2 S2) : Ent w0 G N f S f2 S2 := ⟨fun a w hg => k.out a w (h.out a w hg)⟩
theorem ent_same (hl : S.length = S'.length) (hf : FLe f f') (hS : SLe S S') : Ent w0 G N f S f' S' := ⟨fun a w ⟨r, hR, hd, hN, hdf⟩ =>
 ⟨r, ⟨hR.os, hR.tape, hR.output, hR.size, hR.old, fun i o' hi => by obtain ⟨o, ho, hle⟩ := hS.get hi; exact hle.holds (hR.own i o ho), hR.inj, hR.new, fun i hi => hR.outB i (by omega), fun i hi => hR.outV i (by omega), hR.first⟩, hf.den hd, hN, hdf⟩⟩
theorem ent_drop (hf : FLe f f') (hS : SLe S S') (hb : Fr.bnd S'.length f' = true) (hg : grpOk G S' = true) : Ent w0 G N f S f' S' := ⟨fun a w ⟨r, hR, hd, hN, hdf⟩ => by
 unfold grpOk at hg
 split at hg
 ·rename_i hG
  refine ⟨r.upto S'.length, hR.upto rfl hS.length (Nat.le_of_ble_eq_true hG) fun i o' hi => ?_, (hf.den hd).agree (Env.upto_agree _ _) hb, hN, hdf⟩
  have hil : i < S'.length := by
   rcases Nat.lt_or_ge i S'.length with h1 | h1
   ·exact h1
   ·rw [List.getElem?_eq_none h1] at hi; cases hi
  obtain ⟨o, ho, hle⟩ := hS.get hi
  exact Ow.holds_agree (hle.holds (hR.own i o ho)) (Env.upto_agree _ _) (sbnd_get hg hi) hil (Env.upto_blk _ _)
 ·cases hg⟩
end

/-! Functions. -/
def argFr : List AV → Nat → Fr
 | [], _ => []
 | x :: l, k => (k, x) :: argFr l (k + 1)
def resV (P : Program) (w0 : World) (G : Gs) (S : List Ow) (f : Fr) : ResultVar → (AV → Prop) → Prop
 | .tmp t, K => forceAV (f.get t) K
 | .cell t ty, K => loadK P w0 G S ty (f.get t) K
def resL (P : Program) (w0 : World) (G : Gs) (S : List Ow) (f : Fr) : List ResultVar → (List AV → Prop) → Prop
 | [], K => K []
 | x :: l, K => resV P w0 G S f x fun v => resL P w0 G S f l fun vs => K (v :: vs)
def toPcs : List AV → Option (List Pc)
 | [] => some []
 | .p x :: l => (match toPcs l with | some m => some (x :: m) | none => none)
 | _ => none
def resK (P : Program) (w0 : World) (G : Gs) (S : List Ow) (f : Fr) (rs : List ResultVar) (K : AV → Prop) : Prop :=
 resL P w0 G S f rs fun vs => match vs with
  | [v] => K v
  | vs => (match toPcs vs with | some m => K (.tup m) | none => False)
structure Fin (w0 : World) (G : Gs) (S : List Ow) (v : AV) (R : Ending → World → Prop) : Prop where
 out : ∀ r w u, Rel w0 G S r w → v.den r u → R (.returned u) w
def RetK (P : Program) (w0 : World) (G : Gs) (rs : List ResultVar) (R : Ending → World → Prop) : Exit → Fr → List Ow → Prop := fun e f S => match e with
 | .normal => resK P w0 G S f rs fun v => Fin w0 G S v R
 | .ret => resK P w0 G S f rs fun v => Fin w0 G S v R
 | _ => False
def resS (a : Act) (x : ResultVar) : Sem Value := match x with | .tmp t => pure (a.tmps.getD t undef) | .cell t ty => do loadVar ty (← asAddr (a.tmps.getD t undef))
theorem resV_sound {P : Program} {w0 : World} {G : Gs} {S : List Ow} {f : Fr} {x : ResultVar} {K : AV → Prop} (h : resV P w0 G S f x K) {r : Env} {w : World} (hR : Rel w0 G S r w) {a : Act} (hf : FDen r f a) :
  ∃ v u, K v ∧ v.den r u ∧ (resS a x).run P w = .ok u w := by
 cases x with
 | tmp t => exact ⟨_, _, forceAV_iff.1 h, hf t, rfl⟩
 | cell t ty =>
  obtain ⟨v, u, hK, hd, hrun⟩ := loadK_sound h hR (hf t)
  refine ⟨v, u, hK, hd, ?_⟩
  show (asAddr (a.tmps.getD t undef) >>= fun x => loadVar ty x).run P w = _
  have := hrun w (Below.refl _ _)
  simp only [Instr.loadAt] at this
  generalize a.tmps.getD t undef = x at this ⊢
  cases x with
  | pointer p =>
   cases p with
   | none => simp [Instr.sureAddr] at this
   | some p => simpa [Instr.sureAddr, asAddr] using this
  | _ => simp [Instr.sureAddr] at this
theorem resL_sound {P : Program} {w0 : World} {G : Gs} {S : List Ow} {f : Fr} {r : Env} {w : World} (hR : Rel w0 G S r w) {a : Act} (hf : FDen r f a) : ∀ {xs : List ResultVar} {K : List AV → Prop}, resL P w0 G S f xs K →
  ∃ vs us, K vs ∧ avdenL r vs us ∧ (xs.mapM (resS a)).run P w = .ok us w
 | [], K, h => ⟨[], [], h, rfl, by simp⟩
 | x :: xs, K, h => by
  obtain ⟨v, u, h1, hd, hrun⟩ := resV_sound h hR hf
  obtain ⟨vs, us, hK, hds, hruns⟩ := resL_sound hR hf h1
  exact ⟨v :: vs, u :: us, hK, ⟨u, us, rfl, hd, hds⟩, by simp only [List.mapM_cons, Sem.run_bind, hrun, hruns, Result.andThen_ok, Sem.run_pure]⟩
theorem toPcs_den {r : Env} : ∀ {vs : List AV} {m : List Pc} {us : List Value}, toPcs vs = some m → avdenL r vs us → pdenL r m us
 | [], m, us, h, hd => by injection h with h; subst h; exact hd
 | v :: vs, m, us, h, hd => by
  cases v with
  | tup l => simp [toPcs] at h
  | p x =>
   simp only [toPcs] at h
   split at h
   ·rename_i m' hm
    injection h with h; subst h
    obtain ⟨u, l, rfl, h1, h2⟩ := hd
    exact ⟨u, l, rfl, h1, toPcs_den hm h2⟩
   ·cases h
theorem avdenL_length {r : Env} : ∀ {l : List AV} {us : List Value}, avdenL r l us → us.length = l.length
 | [], us, h => by rw [show us = [] from h]; rfl
 | c :: l, us, h => by obtain ⟨u, l', rfl, _, h2⟩ := h; simp [avdenL_length h2]
theorem resK_sound {P : Program} {w0 : World} {G : Gs} {S : List Ow} {f : Fr} {fn : Func} {K : AV → Prop} (h : resK P w0 G S f fn.results.toList K) {r : Env} {w : World} (hR : Rel w0 G S r w) {a : Act} (hf : FDen r f a) :
  ∃ v u, K v ∧ v.den r u ∧ (results fn a.tmps).run P w = .ok u w := by
 obtain ⟨vs, us, hK, hd, hrun⟩ := resL_sound hR hf h
 have hres : (results fn a.tmps).run P w = .ok (if h : us.toArray.size = 1 then us.toArray[0] else .tuple us.toArray) w := by
  unfold results
  rw [Array.mapM_eq_mapM_toList]
  simp only [Sem.run_bind, Sem.run_map]
  erw [hrun]
  simp
 split at hK
 ·rename_i v
  obtain ⟨u, l, rfl, h1, h2⟩ := hd
  have : l = [] := h2
  subst this
  exact ⟨v, u, hK, h1, by rw [hres]; simp⟩
 ·rename_i hne
  split at hK
  ·rename_i m hm
   refine ⟨_, .tuple us.toArray, hK, ⟨us, rfl, toPcs_den hm hd⟩, ?_⟩
   rw [hres, dif_neg]
   intro h1
   obtain ⟨v, hv⟩ := List.length_eq_one_iff.1 ((avdenL_length hd).symm.trans (by simpa using h1))
   exact hne v hv
  ·exact hK.elim
theorem argFr_get {r : Env} {tmps : Array Value} : ∀ (avs : List AV) (us : List Value) (k : Nat), avdenL r avs us → (∀ j u, us[j]? = some u → tmps.getD (k + j) undef = u) → ∀ i, ((argFr avs k).get i).den r (tmps.getD i undef)
 | [], us, k, _, _, i => by simp [argFr, Fr.get, AV.den, Pc.den, CV.den]
 | v :: avs, us, k, hd, h, i => by
  obtain ⟨u, l, rfl, h1, h2⟩ := hd
  simp only [argFr, Fr.get]
  split
  ·rename_i hk; have := Nat.eq_of_beq_eq_true hk; subst this
   have := h 0 u rfl
   rw [Nat.add_zero] at this
   rw [this]; exact h1
  ·exact argFr_get avs l (k + 1) h2 (fun j u hj => by have := h (j + 1) u (by simpa using hj); rw [← this]; congr 1; omega) i
theorem calls_vc {P : Program} {fid : FuncId} {fn : Func} {c : Code} {N : Nat} (hf : P.funcs[fid]? = some fn) (hN : fn.ntmps = N) (hb : fn.body = some c) {w0 : World} {G : Gs} {S0 : List Ow} {r0 : Env} (hR : Rel w0 G S0 r0 w0)
  {avs : List AV} {args : List Value} (hargs : avdenL r0 avs args) (hle : args.length ≤ N) {R : Ending → World → Prop} (h : vc none P w0 G ⟨N, []⟩ c (argFr avs 0) S0 (RetK P w0 G fn.results.toList R)) : Calls P fid args.toArray w0 R := by
 refine calls_of_wp hf hb (Code.wp_mono ?_ (wpIn_wide.1 ((vc_sound c _ _ _ h).out 20 _ w0 ⟨r0, hR, ?_, ?_, rfl⟩)))
 ·rintro e a w ⟨f, S, hk, r, hR', hf', hN', hd'⟩
  cases e with
  | normal =>
   obtain ⟨v, u, hK, hd, hrun⟩ := resK_sound hk hR' hf'
   exact ⟨hd', u, hrun, hK.out r w u hR' hd⟩
  | ret =>
   obtain ⟨v, u, hK, hd, hrun⟩ := resK_sound hk hR' hf'
   exact ⟨hd', u, hrun, hK.out r w u hR' hd⟩
  | exit id => exact hk.elim
  | goto l => exact hk.elim
  | panic ch => exact hk.elim
  | outgrown => exact hk.elim
 ·intro i
  refine argFr_get avs args 0 hargs (fun j u hj => ?_) i
  rw [Nat.zero_add, Array.getD_eq_getD_getElem?, Array.getElem?_append_left (by simp; rcases Nat.lt_or_ge j args.length with h1 | h1; exact h1; rw [List.getElem?_eq_none h1] at hj; cases hj)]
  simp [hj]
 ·simp; omega
def Env.none : Env := ⟨fun _ => Option.none, fun _ => Option.none⟩
theorem rel_none (w : World) : Rel w Gs.nil [] Env.none w :=
 ⟨rfl, rfl, rfl, Nat.le_refl _, fun _ _ _ => rfl, by simp, nofun, nofun, fun _ _ => rfl, fun _ _ => rfl, (by intro i g h; simp [Gs.nil] at h)⟩
theorem Rel.toBelow {w0 w : World} {S : List Ow} {r : Env} (h : Rel w0 Gs.nil S r w) : Below w0.heap.size w0 w := ⟨h.os, h.tape, h.output, h.size, fun k hk => h.old k hk (by simp)⟩
theorem callS_val {P : Program} {w0 : World} {G : Gs} {fid : FuncId} {args : List AV} {S : List Ow} {K : AV → List Ow → Prop} (x : Value) (hok : fnOk P fid = true)
  (h : ∀ r w us, Rel w0 G S r w → avdenL r args us → Calls P fid us.toArray w fun e w' => e = .returned x ∧ Below w.heap.size w w') (hK : K (AV.of x) S) : CallS P w0 G fid args S K :=
 ⟨hok, fun r w us hR hd => (h r w us hR hd).mono fun _e _w' ⟨he, hb⟩ => ⟨_, x, S, r, he, AV.of_den r x, hR.below hb, Env.le.refl r, hK⟩⟩
def CV.val : CV → Option Value
 | .v x => some x
 | .clo f [] => some (.func f #[] #[])
 | _ => none
def valL : List CV → Option (List Value)
 | [] => some []
 | c :: l => match c.val with | some x => (match valL l with | some m => some (x :: m) | none => none) | none => none
def Pc.val : Pc → Option Value
 | .c x => x.val
 | .agg l => (match valL l with | some m => some (.agg m.toArray) | none => none)
def pvalL : List Pc → Option (List Value)
 | [] => some []
 | c :: l => match c.val with | some x => (match pvalL l with | some m => some (x :: m) | none => none) | none => none
def AV.val : AV → Option Value
 | .p x => x.val
 | .tup l => (match pvalL l with | some m => some (.tuple m.toArray) | none => none)
def avals : List AV → Option (List Value)
 | [] => some []
 | c :: l => match c.val with | some x => (match avals l with | some m => some (x :: m) | none => none) | none => none
theorem CV.val_den {r : Env} {c : CV} {x u : Value} (h : c.val = some x) (hd : c.den r u) : u = x := by
 unfold CV.val at h
 split at h
 ·injection h with h; subst h; simpa only [CV.den] using hd
 ·injection h with h; subst h
  simp only [CV.den, denL] at hd; obtain ⟨us, rfl, rfl⟩ := hd; rfl
 ·cases h
theorem valL_den {r : Env} : ∀ {l : List CV} {xs us : List Value}, valL l = some xs → denL r l us → us = xs
 | [], xs, us, h, hd => by injection h with h; subst h; simpa only [denL] using hd
 | c :: l, xs, us, h, hd => by
  simp only [denL] at hd; obtain ⟨u, m, rfl, h1, h2⟩ := hd
  simp only [valL] at h
  split at h
  ·rename_i x hx
   split at h
   ·rename_i m' hm
    injection h with h; subst h
    rw [CV.val_den hx h1, valL_den hm h2]
   ·cases h
  ·cases h
theorem Pc.val_den {r : Env} {c : Pc} {x u : Value} (h : c.val = some x) (hd : c.den r u) : u = x := by
 unfold Pc.val at h
 split at h
 ·exact CV.val_den h hd
 ·split at h
  ·rename_i m hm
   injection h with h; subst h
   obtain ⟨us, rfl, hl⟩ := hd
   rw [valL_den hm hl]
  ·cases h
theorem pvalL_den {r : Env} : ∀ {l : List Pc} {xs us : List Value}, pvalL l = some xs → pdenL r l us → us = xs
 | [], xs, us, h, hd => by injection h with h; subst h; exact hd
 | c :: l, xs, us, h, hd => by
  obtain ⟨u, m, rfl, h1, h2⟩ := hd
  simp only [pvalL] at h
  split at h
  ·rename_i x hx
   split at h
   ·rename_i m' hm
    injection h with h; subst h
    rw [Pc.val_den hx h1, pvalL_den hm h2]
   ·cases h
  ·cases h
theorem AV.val_den {r : Env} {c : AV} {x u : Value} (h : c.val = some x) (hd : c.den r u) : u = x := by
 unfold AV.val at h
 split at h
 ·exact Pc.val_den h hd
 ·split at h
  ·rename_i m hm
   injection h with h; subst h
   obtain ⟨us, rfl, hl⟩ := hd
   rw [pvalL_den hm hl]
  ·cases h
theorem avals_den {r : Env} : ∀ {l : List AV} {xs us : List Value}, avals l = some xs → avdenL r l us → us = xs
 | [], xs, us, h, hd => by injection h with h; subst h; exact hd
 | c :: l, xs, us, h, hd => by
  obtain ⟨u, m, rfl, h1, h2⟩ := hd
  simp only [avals] at h
  split at h
  ·rename_i x hx
   split at h
   ·rename_i m' hm
    injection h with h; subst h
    rw [AV.val_den hx h1, avals_den hm h2]
   ·cases h
  ·cases h
section
variable {P : Program} {w0 : World} {G : Gs} {fid : FuncId} {args : List AV} {S : List Ow} {K : AV → List Ow → Prop} {xs : List Value} {x : Value}
theorem call_con (hx : avals args = some xs) (hok : fnOk P fid = true) (h : ∀ r w, Rel w0 G S r w → Calls P fid xs.toArray w fun e w' => e = .returned x ∧ Below w.heap.size w w') (hK : K (AV.of x) S) : CallS P w0 G fid args S K :=
 callS_val x hok (fun r w us hR hd => by rw [avals_den hx hd]; exact h r w hR) hK
theorem call_same (hx : avals args = some xs) (hok : fnOk P fid = true) (h : ∀ r w, Rel w0 G S r w → Calls P fid xs.toArray w fun e w' => e = .returned x ∧ w = w') (hK : K (AV.of x) S) : CallS P w0 G fid args S K :=
 call_con hx hok (fun r w hR => (h r w hR).mono fun e w' ⟨h1, h2⟩ => ⟨h1, by subst h2; exact Below.refl _ _⟩) hK
theorem fin_val {v : AV} {R : Ending → World → Prop} (hv : v.val = some x) (h : ∀ w, Below w0.heap.size w0 w → R (.returned x) w) : Fin w0 Gs.nil S v R := ⟨fun r w u hR hd => by rw [AV.val_den hv hd]; exact h w hR.toBelow⟩
end
end Go.Proofs.YtnhdcclpjildjaaGreat
