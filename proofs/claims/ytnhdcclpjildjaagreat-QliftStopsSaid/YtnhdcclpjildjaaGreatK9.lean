/- 'append' onto a row of the call's own, over states that are known part by part. -/
import Derived.RangeFuncBound
import Derived.RangeFuncLeaves
import Derived.Conc.MuLone
import Derived.Shelf.SlicesQ.Reverse
import Derived.Ground.SlgnProg
import Derived.OrdersHeld
import Derived.Test.YtnhdcclpjildjaaGreatK8
namespace Go.Proofs.YtnhdcclpjildjaaGreat
open Go.RowKit

theorem run_append_src {P : Program} {w : World} (base : Nat) (t ty e : TypeId) (i : TypeInfo) (z : Value) (ht : P.underlying t = some (.slice e)) (hi : P.info? e = some i) (hz : i.zero = some z)
  (hzs : z.cells.size = i.size) (hsz : 0 < i.size) (v : Value) (n : Nat) (xs : List Value) (hown : w.ownsRow base e i.size v n xs)
  (A : Option Addr) (m c : Nat) (news : List Value) (hl : news.length = m * i.size) (hnews : ∀ j u, news[j]? = some u → ∃ b off, A = some ⟨b, off, none⟩ ∧ w.cell? ⟨b, off + j, none⟩ = some u) (h1 : ∀ u ∈ news, u.oneCell' = true)
  (h63 : n + m ≤ 1000000000) (hbytes : i.bytes ≤ 100000) (hbase : base ≤ w.heap.size) :
  ∃ v' w', (Builtin.append_ #[t, t] ty #[v, .slice A m c]).run P w = .ok v' w' ∧ w'.ownsRow base e i.size v' (n + m) (xs ++ news) ∧ w.grownBy w' v.ownBlock ∧ (v'.ownBlock = v.ownBlock ∨ v'.ownBlock = some w.heap.size) := by
 have hm : (n + m) * i.bytes ≤ 1000000000 * 100000 := Nat.mul_le_mul h63 hbytes
 cases A with
 | some ad =>
  obtain ⟨v', w', h2, h3, h4, _, h5⟩ := run_append_own_at (P := P) w base t ty e i z i.size i.bytes ht hi hz rfl rfl hzs hsz v n xs hown ad m c news hl (fun j u hj => by
   obtain ⟨b, off, hA, hc⟩ := hnews j u hj
   injection hA with hA; subst hA; rw [addr_add]; exact hc) h1 (by unfold maxLen; omega) (by omega) hbase
  exact ⟨v', w', h2, h3, h4, h5⟩
 | none =>
  have hnil : news = [] := by
   cases news with
   | nil => rfl
   | cons u l => obtain ⟨b, off, hA, _⟩ := hnews 0 u rfl; cases hA
  subst hnil
  have hm0 : m = 0 := by
   rcases Nat.eq_zero_or_pos m with h | h
   ·exact h
   ·have := Nat.mul_le_mul h hsz; simp at hl; omega
  subst hm0
  obtain ⟨A', c', hv, _, hc, _⟩ := own_slice hown
  refine ⟨v, w, ?_, by simpa using hown, World.grownBy.refl _ _, .inl rfl⟩
  subst hv
  have hut : ∀ w : World, (underlying t).run P w = .ok (.slice e) w := fun w => by simp [underlying, ht]
  simp [Builtin.append_, hut, run_sizeOf P e w hi, Builtin.lenOf, Builtin.firstCells, hc]
  cases A' <;> simp [storeCells]

theorem Rel.append {w0 : World} {G : Gs} {S : List Ow} {r : Env} {w w' : World} (h : Rel w0 G S r w) {i : Nat} {e : TypeId} {size n n' : Nat} {xs xs' : List Value} {v v' : Value} (hS : S[i]? = some (.row e size n xs)) (hG : G.fix.length ≤ i) (hv : r.val i = some v)
  (hown : w'.ownsRow 0 e size v' n' xs') (hg : w.grownBy w' v.ownBlock) (hb : v'.ownBlock = v.ownBlock ∨ v'.ownBlock = some w.heap.size) :
  Rel w0 G ((killS i S).set i (.row e size n' xs')) (r.set i v'.ownBlock (some v')) w' ∧ But i r (r.set i v'.ownBlock (some v')) := by
 have hbut : But i r (r.set i v'.ownBlock (some v')) := fun j hj => by simp [Env.set, hj]
 have hil : i < S.length := by
  rcases Nat.lt_or_ge i S.length with h1 | h1
  ·exact h1
  ·rw [List.getElem?_eq_none h1] at hS; cases hS
 obtain ⟨v2, hv2, hob, _⟩ := h.own i _ hS
 rw [hv] at hv2; injection hv2 with hv2; subst hv2
 have hnewlt : ∀ x, v'.ownBlock = some x → x < w'.heap.size := fun x hx => by
  rcases hown.2 with ⟨h1, _⟩ | ⟨g, cap, cur, h1, _, hh, _⟩
  ·rw [h1] at hx; cases hx
  ·rw [h1] at hx; simp [Value.ownBlock] at hx; subst hx
   rcases Nat.lt_or_ge g w'.heap.size with h2 | h2
   ·exact h2
   ·rw [Array.getElem?_eq_none h2] at hh; cases hh
 have hblk : ∀ j x, r.blk j = some x → j ≠ i → w'.heap[x]? = w.heap[x]? := fun j x hx hj => hg.block x (h.new j x hx).1 (fun e => hj (h.inj j i x hx (by rw [← hob]; exact e.symm)))
 refine ⟨⟨hg.os.trans h.os, hg.tape.trans h.tape, hg.output.trans h.output, Nat.le_trans h.size hg.size, fun k hk hkG => ?_, fun j o hj => ?_, fun a b x ha hb' => ?_, fun j x hj => ?_, fun j hj => ?_, fun j hj => ?_, fun j g hj => ?_⟩, hbut⟩
 ·rw [hg.block k (Nat.lt_of_lt_of_le hk h.size) (fun e => hkG ((h.new i k (by rw [← hob]; exact e.symm)).2 hk))]
  exact h.old k hk hkG
 ·by_cases hij : i = j
  ·subst hij
   rw [List.getElem?_set_self (by rw [killS_length]; exact hil)] at hj
   injection hj with hj; subst hj
   exact ⟨v', by simp [Env.set], by simp [Env.set], hown⟩
  ·rw [List.getElem?_set_ne hij, killS_get] at hj
   cases hSj : S[j]? with
   | none => rw [hSj] at hj; cases hj
   | some o' =>
    rw [hSj] at hj
    simp at hj; subst hj
    have h1 := Ow.holds_block (h.own j o' hSj) (fun x hx => hblk j x hx (Ne.symm hij)) hg.size (fun x hx hno => hg.block x hx (fun e => hno i (by rw [← hob]; exact e.symm)))
    cases o' with
    | view φ m ys =>
     obtain ⟨A, c, h2, h3, h4, h5, h6⟩ := h.own j _ hSj
     refine ⟨A, c, by rw [← (hbut j (Ne.symm hij)).2]; exact h2, h3, h4, by rw [← (hbut j (Ne.symm hij)).1]; exact h5, fun k u hk => ?_⟩
     obtain ⟨b, off, h7, h8, h9, h10⟩ := h6 k u hk
     refine ⟨b, off, h7, Nat.lt_of_lt_of_le h8 hg.size, fun q hq => ?_, (World.cell?_of_block (w := w) (a := ⟨b, off + k, none⟩) (hg.block b h8 (fun e => h9 i (by rw [← hob]; exact e.symm)))).trans h10⟩
     by_cases hqi : q = i
     ·subst hqi
      simp [Env.set] at hq
      rcases hb with hb | hb
      ·rw [hb, hob] at hq; exact h9 q hq
      ·rw [hb] at hq; injection hq with hq; omega
     ·exact h9 q (by rw [(hbut q hqi).1]; exact hq)
    | cells t l => obtain ⟨b, us, h2, h3, h4⟩ := h1; exact ⟨b, us, by rw [← (hbut j (Ne.symm hij)).1]; exact h2, h3, killL_den hbut h4⟩
    | row e s n xs => obtain ⟨v, h2, h3, h4⟩ := h1; exact ⟨v, by rw [← (hbut j (Ne.symm hij)).2]; exact h2, by rw [← (hbut j (Ne.symm hij)).1]; exact h3, h4⟩
    | ext φ => obtain ⟨b, h2, h3⟩ := h1; exact ⟨b, by rw [← (hbut j (Ne.symm hij)).1]; exact h2, h3⟩
    | gone => trivial
 ·have fresh : ∀ j x, j ≠ i → r.blk j = some x → v'.ownBlock = some x → False := fun j x hj hx he => by
   rcases hb with hb | hb
   ·rw [hb, hob] at he; exact hj (h.inj j i x hx he)
   ·rw [hb] at he; injection he with he; have := (h.new j x hx).1; omega
  simp only [Env.set] at ha hb'
  split at ha <;> split at hb'
  ·omega
  ·exact (fresh b x (by assumption) hb' ha).elim
  ·exact (fresh a x (by assumption) ha hb').elim
  ·exact h.inj a b x ha hb'
 ·simp only [Env.set] at hj
  split at hj
  ·refine ⟨hnewlt x hj, fun hlt => ?_⟩
   rcases hb with hb | hb
   ·rw [hb, hob] at hj; exact (h.new i x hj).2 hlt
   ·rw [hb] at hj; injection hj with hj; have := h.size; omega
  ·exact ⟨Nat.lt_of_lt_of_le (h.new j x hj).1 hg.size, (h.new j x hj).2⟩
 ·have hj' : S.length ≤ j := by simpa [killS_length] using hj
  simp only [Env.set]; rw [if_neg (by omega)]; exact h.outB j hj'
 ·have hj' : S.length ≤ j := by simpa [killS_length] using hj
  simp only [Env.set]; rw [if_neg (by omega)]; exact h.outV j hj'
 ·have : j < G.fix.length := by
   rcases Nat.lt_or_ge j G.fix.length with h1 | h1
   ·exact h1
   ·rw [List.getElem?_eq_none h1] at hj; cases hj
  simp only [Env.set]; rw [if_neg (by omega)]; exact h.first j g hj

def SlOld (w0 : World) (G : Gs) (A : Option Addr) (xs : List Value) : Prop := ∀ j u, xs[j]? = some u → ∃ b off, A = some ⟨b, off, none⟩ ∧ b < w0.heap.size ∧ b ∉ G ∧ w0.cell? ⟨b, off + j, none⟩ = some u
def srcK (w0 : World) (G : Gs) (S : List Ow) (size i : Nat) (x : AV) (K : Nat → List Value → Prop) : Prop :=
 match x with
 | .p (.c (.sl j off m _)) => (match S[j]? with
  | some (.cells _ l) => (match cut l off (m * size) with
   | some cs => (match onesL S cs with
    | true => (match valsOf cs with | some us => K m us | none => False)
    | false => False)
   | none => False)
  | _ => False)
 | .p (.c (.v (.slice A m _))) => ∃ xs : List Value, SlOld w0 G A xs ∧ xs.length = m * size ∧ (∀ u ∈ xs, u.oneCell' = true) ∧ K m xs
 | .p (.c (.row j)) => (match Nat.beq i j with
  | true => False
  | false => (match S[j]? with
   | some (.row _ size' n xs) => size' = size ∧ (∀ u ∈ xs, u.oneCell' = true) ∧ K n xs
   | _ => False))
 | _ => False
def fillF (i : Nat) : Fr → (Fr → Prop) → Prop
 | [], K => K []
 | (d, x) :: f, K => forceAV (x.kill i) fun x' => fillF i f fun f' => K ((d, x') :: f')
theorem fillF_iff {i : Nat} : ∀ {f : Fr} {K : Fr → Prop}, fillF i f K ↔ K (Fr.kill i f)
 | [], _ => Iff.rfl
 | (d, x) :: f, K => by unfold fillF; rw [forceAV_iff, fillF_iff]; rfl
def appK (P : Program) (w0 : World) (G : Gs) (o : Oper) (f : Fr) (S : List Ow) (s x : Operand) (t : TypeId) (K : Fr → List Ow → Prop) : Prop :=
 match P.underlying t with
 | some (.slice e) => (match P.info? e with
  | some inf => (match inf.zero with
   | some z => (match Nat.beq z.cells.size inf.size, Nat.blt 0 inf.size, Nat.ble inf.bytes 100000 with
    | true, true, true => (match f.ev s with
     | .p (.c (.row i)) => (match S[i]? with
      | some (.row e' size' n xs) => (match Nat.beq e' e, Nat.beq size' inf.size, Nat.ble G.fix.length i with
       | true, true, true => srcK w0 G S inf.size i (f.ev x) fun m news => n + m ≤ 1000000000 ∧ forceL ((killS i S).set i (.row e inf.size (n + m) (xs ++ news))) fun S' => fillF i f fun f' => f'.putK o.dst (.p (.c (.row i))) fun f' => K f' S'
       | _, _, _ => False)
      | _ => False)
     | .p (.c (.v (.slice none 0 0))) => lenK S fun i => (match Nat.ble G.fix.length i with
      | true => srcK w0 G S inf.size i (f.ev x) fun m news => m ≤ 1000000000 ∧ forceL (killS i S ++ [.row e inf.size m news]) fun S' => fillF i f fun f' => f'.putK o.dst (.p (.c (.row i))) fun f' => K f' S'
      | false => False)
     | _ => False)
    | _, _, _ => False)
   | none => False)
  | none => False)
 | _ => False
theorem oneCell_of {u : Value} (h : (∀ x, u ≠ .agg x) ∧ (∀ x, u ≠ .tuple x)) : u.oneCell' = true := by
 cases u <;> first | rfl | exact absurd rfl (h.1 _) | exact absurd rfl (h.2 _)
theorem srcK_sound {w0 : World} {G : Gs} {S : List Ow} {size i : Nat} {x : AV} {K : Nat → List Value → Prop} (h : srcK w0 G S size i x K) {r : Env} {w : World} (hR : Rel w0 G S r w) {u : Value} (hd : x.den r u) :
  ∃ A m c news, u = .slice A m c ∧ K m news ∧ news.length = m * size ∧ (∀ j x, news[j]? = some x → ∃ b off, A = some ⟨b, off, none⟩ ∧ w.cell? ⟨b, off + j, none⟩ = some x) ∧ ∀ x ∈ news, x.oneCell' = true := by
 unfold srcK at h
 split at h
 ·rename_i j off m c
  have hux : ∃ b, r.blk j = some b ∧ u = .slice (some ⟨b, off, none⟩) m c := by simpa only [AV.den, Pc.den, CV.den] using hd
  obtain ⟨b, hb, rfl⟩ := hux
  split at h
  ·rename_i t l hS
   split at h
   ·rename_i cs hcs
    split at h
    ·rename_i hones
     split at h
     ·rename_i us hus
      obtain ⟨hle, rfl⟩ := cut_spec hcs
      obtain ⟨b', vs, h1, h2, h3⟩ := hR.own j _ hS
      rw [hb] at h1; injection h1 with h1; subst h1
      have hdc := denL_take (m * size) (denL_drop off h3)
      have hvs := valsOf_spec hus hdc
      have hlen := denL_length hdc
      refine ⟨_, m, c, us, rfl, h, ?_, fun k x hk => ⟨b, off, rfl, ?_⟩, fun x hx => oneCell_of (onesL_one hR hones hdc x (by rw [hvs]; exact hx))⟩
      ·rw [← hvs, hlen]; simp; omega
      ·rw [← hvs, List.getElem?_take] at hk
       split at hk
       ·rw [List.getElem?_drop] at hk; simp [World.cell?, h2, hk]
       ·cases hk
     ·exact h.elim
    ·exact h.elim
   ·exact h.elim
  ·exact h.elim
 ·rename_i A m c
  have hu : u = .slice A m c := by simpa only [AV.den, Pc.den, CV.den] using hd
  subst hu
  obtain ⟨xs, h1, h2, h3, hK⟩ := h
  refine ⟨A, m, c, xs, rfl, hK, h2, fun j x hj => ?_, h3⟩
  obtain ⟨b, off, hA, hlt, hG, hc⟩ := h1 j x hj
  exact ⟨b, off, hA, by rw [hR.oldCell hlt hG]; exact hc⟩
 ·rename_i j
  split at h
  ·exact h.elim
  ·split at h
   ·rename_i e size' n xs hS
    obtain ⟨rfl, h3, hK⟩ := h
    obtain ⟨v, hv, hob, hown⟩ := hR.own j _ hS
    have hux : r.val j = some u := by simpa only [AV.den, Pc.den, CV.den] using hd
    rw [hux] at hv; injection hv with hv; subst hv
    obtain ⟨A, c, hs, hsl, _, _, hl⟩ := own_slice hown
    subst hs
    refine ⟨A, n, c, xs, rfl, hK, hl, fun k x hk => ?_, h3⟩
    obtain ⟨b, off, hA, _, hc⟩ := hsl k x hk
    exact ⟨b, off, hA, hc⟩
   ·exact h.elim
 ·exact h.elim
theorem appK_sound {P : Program} {w0 : World} {G : Gs} {N : Nd} {o : Oper} {f : Fr} {S : List Ow} {K : Fr → List Ow → Prop} {s x : Operand} {t : TypeId} (hop : o.op = .call ⟨.builtin .append, #[s, x], #[t, t]⟩) (h : appK P w0 G o f S s x t K) (hdst : dstOk N.n o.dst = true) : OpS P w0 G N o f S K := by
 refine ⟨fun r a w hR hf hN hd next Q hK => ?_⟩
 have hs := hf.ev s
 have hx := hf.ev x
 unfold appK at h
 split at h
 ·rename_i e ht
  split at h
  ·rename_i inf hi
   split at h
   ·rename_i z hz
    split at h
    ·rename_i hzs hpos hbytes
     have hzs := Nat.eq_of_beq_eq_true hzs
     have hpos : 0 < inf.size := by simpa [Nat.blt_eq] using hpos
     have hbytes := Nat.le_of_ble_eq_true hbytes
     split at h
     ·rename_i i he
      rw [he] at hs
      split at h
      ·rename_i e' size' n xs hS
       split at h
       ·rename_i h1 h2 hG
        have h1 := Nat.eq_of_beq_eq_true h1
        have h2 := Nat.eq_of_beq_eq_true h2
        have hG := Nat.le_of_ble_eq_true hG
        subst h1; subst h2
        obtain ⟨A, m, c, news, hu, ⟨hle, hKK⟩, hl, hcells, hone⟩ := srcK_sound h hR hx
        rw [forceL_iff, fillF_iff, putK_iff] at hKK
        obtain ⟨v, hv, hob, hown⟩ := hR.own i _ hS
        have hux : r.val i = some (a.eval s) := by simpa only [AV.den, Pc.den, CV.den] using hs
        rw [hux] at hv; injection hv with hv
        obtain ⟨v', w', hrun, hown', hg, hb⟩ := run_append_src (P := P) 0 t o.type _ inf z ht hi hz hzs hpos v n xs hown A m c news hl hcells hone hle hbytes (Nat.zero_le _)
        obtain ⟨hR', hbut⟩ := hR.append hS hG (hux.trans (by rw [hv])) hown' hg hb
        have hex : (execOp a.eval o).run P w = .ok (.value v') w' := by
         simp [execOp, hop, resolve, invoke, builtin, hv, hu, hrun]
        exact wp_of_value hex (hK _ _ _ _ hKK ⟨_, hR', (hf.kill hbut).put (by simp [AV.den, Pc.den, CV.den, Env.set]) (by rw [hN]; exact hdst), (put_size a _ _).trans hN, (put_defers a _ _).trans hd⟩)
       ·exact h.elim
      ·exact h.elim
     ·rename_i he
      rw [he] at hs
      have hv := den_v hs
      rw [lenK_iff] at h
      split at h
      ·rename_i hG
       have hG := Nat.le_of_ble_eq_true hG
       obtain ⟨A, m, c, news, hu, ⟨hle, hKK⟩, hl, hcells, hone⟩ := srcK_sound h hR hx
       rw [forceL_iff, fillF_iff, putK_iff] at hKK
       have hle2 := hR.le_new none (some (.slice none 0 0))
       have hown : w.ownsRow 0 e inf.size (.slice none 0 0) 0 [] := ⟨by simp, .inl ⟨rfl, rfl⟩⟩
       have hR2 := hR.snoc (Below.refl _ _) (b := none) (v := some (.slice none 0 0)) (o := .row e inf.size 0 []) nofun ⟨.slice none 0 0, by simp [Env.set], by simp [Env.set, Value.ownBlock], hown⟩
       obtain ⟨v', w', hrun, hown', hg, hb⟩ := run_append_src (P := P) 0 t o.type _ inf z ht hi hz hzs hpos (.slice none 0 0) 0 [] hown A m c news hl hcells hone (by omega) hbytes (Nat.zero_le _)
       obtain ⟨hR', hbut⟩ := hR2.append (i := S.length) (e := e) (size := inf.size) (n := 0) (xs := []) (by simp) hG (by simp [Env.set]) hown' hg hb
       have hex : (execOp a.eval o).run P w = .ok (.value v') w' := by
        simp [execOp, hop, resolve, invoke, builtin, hv, hu, hrun]
       have e1 : (killS S.length (S ++ [.row e inf.size 0 []])).set S.length (.row e inf.size (0 + m) ([] ++ news)) = killS S.length S ++ [.row e inf.size m news] := by
        have : ∀ (S : List Ow) (o : Ow) (n : Nat), killS n (S ++ [o]) = killS n S ++ [o.kill n] := fun S => by
         induction S with
         | nil => intro o n; rfl
         | cons x S ih => intro o n; simp [killS, ih]
        rw [this]
        simp [List.set_append_right, killS_length]
       rw [e1] at hR'
       exact wp_of_value hex (hK _ _ _ _ hKK ⟨_, hR', ((hf.mono hle2).kill hbut).put (by simp [AV.den, Pc.den, CV.den, Env.set]) (by rw [hN]; exact hdst), (put_size a _ _).trans hN, (put_defers a _ _).trans hd⟩)
      ·exact h.elim
     ·exact h.elim
    ·exact h.elim
   ·exact h.elim
  ·exact h.elim
 ·exact h.elim
end Go.Proofs.YtnhdcclpjildjaaGreat
namespace Go.Proofs.YtnhdcclpjildjaaGreat
open Go.RowKit

section
variable {P : Program} {ops : Array Oper} {md : Region.Mode} {C : World → Prop}
def headAny (P : Program) (md : Region.Mode) (ops : Array Oper) (C : World → Prop) (n : Nat) (L : Array Bool → Act → Prop) : Nat → Array Bool → Act → Prop
 | 0, listed, a => L listed a
 | f + 1, listed, a => Region.ready md ops listed ≠ [] ∧ ∀ i ∈ Region.ready md ops listed, i < n ∧ qOp P ops C i (headAny P md ops C n L f (listed.setIfInBounds i true)) a
theorem headAny_any {n g : Nat} {L : Array Bool → Act → Prop} {Q' : Exit → Act → World → Prop} (hL : ∀ listed a w, C w → L listed a → wpAny P md ops Q' g listed a w) :
  ∀ (f : Nat) (listed : Array Bool) (a : Act) (w : World), C w → headAny P md ops C n L f listed a → wpAny P md ops Q' (f + g) listed a w
 | 0, listed, a, w, hw, h => by rw [Nat.zero_add]; exact hL _ _ _ hw h
 | f + 1, listed, a, w, hw, h => by
  rw [show f + 1 + g = (f + g) + 1 by omega]
  exact ⟨fun h0 => absurd h0 h.1, fun i hi => wpOp_of_qOp hw (fun a' w' hw' h' => headAny_any hL f _ a' w' hw' h') (h.2 i hi).2⟩
theorem headAny_take {n i : Nat} {oi : Oper} {v : Value} {L : Array Bool → Act → Prop} (hi : ops[i]? = some oi) (hns : Region.noSelect ops = true) (hs : Region.sinkB md ops n = true) (hc : Region.chainB md ops n = true) (hn : n < ops.size) (hin : i < n)
  (hdone : ∀ listed a, L listed a → ∀ j ∈ Region.ready md ops listed, n ≤ j) :
  ∀ (f : Nat) (listed : Array Bool) (a : Act), HeadInv md ops n listed → (∀ j oj, ops[j]? = some oj → j ≠ i → listed.getD j true = false → (∀ e ∈ oj.after, Region.binds md e = true → e.on ≠ i) → oi.apart ops oj = true) →
   i ∈ Region.ready md ops listed → YieldsIn P ops C oi v a → headAny P md ops C n L f (listed.setIfInBounds i true) (a.put oi.dst v) → headAny P md ops C n L (f + 1) listed a := by
 have hsel := Region.noSelect_spec hns
 intro f
 induction f with
 | zero =>
  intro listed a inv hfree hr hy H
  have hun := (mem_ready.1 hr).1
  refine ⟨(fun h => by rw [h] at hr; cases hr), fun j hj => ?_⟩
  have hjn : j < n := Nat.lt_of_not_le fun h => tail_waits hs hc hn inv _ i rfl hin hun j h hj
  by_cases hji : j = i
  ·subst hji; exact ⟨hjn, hy.qOp hi H⟩
  ·have := hdone _ _ H j (ready_mono hj hji); omega
 | succ f ih =>
  intro listed a inv hfree hr hy H
  have hun := (mem_ready.1 hr).1
  refine ⟨(fun h => by rw [h] at hr; cases hr), fun j hj => ?_⟩
  have hjn : j < n := Nat.lt_of_not_le fun h => tail_waits hs hc hn inv _ i rfl hin hun j h hj
  refine ⟨hjn, ?_⟩
  by_cases hji : j = i
  ·subst hji; exact hy.qOp hi H
  ·obtain ⟨hjun, oj, hoj, hall⟩ := mem_ready.1 hj
   have hnot : ∀ e ∈ oj.after, Region.binds md e = true → e.on ≠ i := fun e he hb heq => by
    have h1 := hall e he hb
    rw [heq, getD_both hun] at h1; cases h1
   have hq := qOp_put hoj (hfree j oj hoj hji hjun hnot) (fun cs b => hsel i oi cs b hi) (fun cs b => hsel j oj cs b hoj) hy (H.2 j (ready_mono hj hji)).2
   refine qOp_mono (fun a' h3 => ih (listed.setIfInBounds j true) a' (inv.set hj hjn) (fun k ok hk hki hku hno => hfree k ok hk hki ?_ hno) (ready_mono hr (Ne.symm hji)) h3.1 ?_) hq
   ·by_cases hjk : j = k
    ·subst hjk; exact hjun
    ·rwa [getD_set_ne true hjk] at hku
   ·rw [Array.setIfInBounds_comm _ _ hji]; exact h3.2
theorem headAny_lex {n g : Nat} {Lq : Act → Prop} (hns : Region.noSelect ops = true) (hs : Region.sinkB md ops n = true) (hc : Region.chainB md ops n = true) (hn : n < ops.size) :
  ∀ (l : List Oper) (k : Nat) (listed : Array Bool) (a : Act), (∀ j, j < l.length → l[j]? = ops[k + j]?) → k + l.length = n → HeadInv md ops n listed → Region.lexHead md ops g l.length k listed = true → wpQuiet P ops C Lq l a →
   headAny P md ops C n (fun listed' a' => Region.seqB md ops g n listed' = true ∧ Lq a') l.length listed a
 | [], k, listed, a, _, hk, _, hB, h => by
  have hkn : k = n := by simpa using hk
  subst hkn
  exact ⟨by simpa [Region.lexHead] using hB, h⟩
 | o :: l, k, listed, a, hl, hk, inv, hB, h => by
  have h0 : ops[k]? = some o := by simpa using (hl 0 (by simp)).symm
  simp only [List.length_cons, Region.lexHead, Bool.and_eq_true] at hB
  have hkn : k < n := by simp only [List.length_cons] at hk; omega
  have hr : k ∈ Region.ready md ops listed := by simpa using hB.1.1
  have hq : qOp P ops C k (wpQuiet P ops C Lq l) a := by unfold qOp; simp only [h0]; exact h
  obtain ⟨v, hy, hK⟩ := yieldsIn_of_qOp h0 hq
  exact headAny_take h0 hns hs hc hn hkn (fun listed' a' hL => seqB_ready hL.1) l.length listed a inv (Region.free_spec h0 hB.1.2) hr hy
   (headAny_lex hns hs hc hn l (k + 1) _ _ (fun j hj => by have := hl (j + 1) (by simp; omega); simpa [Nat.add_assoc, Nat.add_comm 1 j] using this) (by simp only [List.length_cons] at hk; omega) (inv.set hr hkn) hB.2 hK)
theorem region_quiet_tail {id : Nat} {Q : Exit → Act → World → Prop} {a : Act} {w : World} {l : List Oper} (n : Nat) (hm : P.follows .mixedOrders = true) (hB : Region.lexTailB .any l.toArray n = true) (hC : C w.drew)
  (h : wpQuiet P l.toArray C (fun a' => ∀ w', C w' → wpList P l.toArray Q (l.drop n) a' w') (l.take n) a) : (Code.region id l.toArray true).wp P Q a w := by
 simp only [Region.lexTailB, Bool.and_eq_true, decide_eq_true_eq] at hB
 obtain ⟨⟨⟨⟨hns, hn⟩, hs⟩, hc⟩, hlex⟩ := hB
 have hnl : n < l.length := by simpa using hn
 have htl : (l.take n).length = n := by simp; omega
 have hdl : (l.drop n).length = l.toArray.size - n := by simp
 have inv0 : HeadInv .any l.toArray n (Array.replicate l.toArray.size false) :=
  ⟨by simp, (fun j oj _ hl => by rw [getD_replicate_false] at hl; cases hl), fun t _ ht => getD_in (by simpa using ht) (getD_replicate_false _ _)⟩
 have H := headAny_lex (md := .any) (g := l.toArray.size - n) hns hs hc hn (l.take n) 0 _ a (fun j hj => by rw [htl] at hj; simp [hj]) (by simpa using htl) inv0 (by rw [htl]; exact hlex) h
 refine wp_region_any hm ?_
 have := headAny_any (Q' := Q) (g := l.toArray.size - n) (fun listed a' w' hw' hL => by
  have := wpAny_of_seq (md := .any) (Q' := Q) (l.drop n) n listed a' w' (fun j => by simp [List.getElem?_drop]) (by rw [hdl]; exact hL.1) (hL.2 w' hw')
  rwa [hdl] at this) _ _ _ w.drew hC H
 rw [htl, show n + (l.toArray.size - n) = l.toArray.size by omega] at this
 exact this
end
/-! The same over states that are known part by part. -/
structure QCall (P : Program) (w0 : World) (G : Gs) (S : List Ow) (fid : FuncId) (args : List AV) (K : AV → Prop) : Prop where
 out : fnOk P fid = true ∧ ∃ x : Value, K (AV.of x) ∧ ∀ r w us, Rel w0 G S r w → avdenL r args us → Calls P fid us.toArray w fun e w' => e = .returned x ∧ Below w.heap.size w w'
def qcallK (P : Program) (w0 : World) (G : Gs) (S : List Ow) (f : Fr) (o : Oper) (K : AV → Prop) : Prop :=
 match o.op with
 | .call ⟨.value fn, args, _⟩ => (match f.ev fn with
  | .p (.c (.clo (.func fid) cap)) => evL f args.toList fun vs => QCall P w0 G S fid (vs ++ cap.map fun c => .p (.c c)) K
  | _ => False)
 | _ => (match opTy P o.op with | true => qop P w0 G S f o K | false => False)
def quietK (P : Program) (w0 : World) (G : Gs) (N : Nd) (ops : Array Oper) (S : List Ow) : Nat → List Oper → Fr → (Fr → Prop) → Prop
 | _, [], f, K => K f
 | 0, _ :: _, _, _ => False
 | n + 1, o :: rest, f, K => (match dstOk N.n o.dst with
  | false => False
  | true => (match o.guard with
   | none => qcallK P w0 G S f o fun v => f.putK o.dst v fun f' => quietK P w0 G N ops S n rest f' K
   | some (j, pol) => (match slotOf ops j with
    | none => False
    | some d => (match f.get d with
     | .p (.c (.v (.bool x))) => (x = pol → qcallK P w0 G S ((d, one (.bool pol)) :: f) o fun v => Fr.putK ((d, one (.bool pol)) :: f) o.dst v fun f' => quietK P w0 G N ops S n rest f' K) ∧
       (x = (!pol) → Fr.putK ((d, one (.bool (!pol))) :: f) o.dst (.p (.c .any)) fun f' => quietK P w0 G N ops S n rest f' K)
     | _ => False))))
section
variable {P : Program} {w0 : World} {G : Gs} {N : Nd} {ops : Array Oper} {S : List Ow} {r : Env} {w1 : World}
theorem qcallK_sound (hR : Rel w0 G S r w1) {f : Fr} {o : Oper} {K : AV → Prop} (h : qcallK P w0 G S f o K) {a : Act} (hf : FDen r f a) :
  ∃ v u, K v ∧ v.den r u ∧ ∀ w, Below w1.heap.size w1 w → o.quietAt P a (fun w' => Below w1.heap.size w1 w') w u := by
 unfold qcallK at h
 split at h
 ·rename_i fn args tys hop
  have hfn := hf.ev fn
  split at h
  ·rename_i fid cap he
   rw [he] at hfn
   obtain ⟨us, hu, hcap⟩ := den_clo hfn
   rw [evL_iff] at h
   obtain ⟨hok, x, hK, hc⟩ := h.out
   refine ⟨_, x, hK, AV.of_den r x, fun w hw => ?_⟩
   have hrun : (execOp a.eval o).run P w = .ok (.enter fid ((args.map a.eval) ++ us.toArray)) w := by
    simp [execOp, hop, resolve, Deferred.ofValue, hu, invoke, run_callFunc hok]
   unfold Oper.quietAt
   rw [hrun]
   refine ⟨rfl, ?_⟩
   have := hc r w ((args.toList.map a.eval) ++ us) (hR.below hw) (avdenL_append (avdenL_ev hf _) (avdenL_cap hcap))
   rw [show ((args.toList.map a.eval) ++ us).toArray = (args.map a.eval) ++ us.toArray by apply Array.ext'; simp] at this
   exact Calls.mono this fun e w' ⟨h1, h2⟩ => ⟨h1, hw.trans (h2.mono hw.size)⟩
  ·exact h.elim
 ·split at h
  ·rename_i hty
   obtain ⟨v, u, hK, hd, hrun⟩ := qop_sound h hty hR hf
   refine ⟨v, u, hK, hd, fun w hw => ?_⟩
   unfold Oper.quietAt
   rw [hrun w hw]
   exact ⟨rfl, rfl⟩
  ·exact h.elim
theorem quietK_sound (hR : Rel w0 G S r w1) {Q : Act → Prop} : ∀ (n : Nat) (l : List Oper) (f : Fr) (K : Fr → Prop), quietK P w0 G N ops S n l f K → (∀ f' a', K f' → FDen r f' a' → a'.tmps.size = N.n → a'.defers = N.ds → Q a') →
  ∀ a, FDen r f a → a.tmps.size = N.n → a.defers = N.ds → wpQuiet P ops (fun w' => Below w1.heap.size w1 w') Q l a
 | _, [], f, K, h, hK, a, hf, hN, hd => by cases ‹Nat› <;> exact hK f a h hf hN hd
 | 0, o :: l, f, K, h, hK, a, hf, hN, hd => h.elim
 | n + 1, o :: l, f, K, h, hK, a, hf, hN, hd => by
  unfold quietK at h
  have run : ∀ {f : Fr}, FDen r f a → dstOk N.n o.dst = true → Region.wanted o (yielded ops a.tmps) = true → (qcallK P w0 G S f o fun v => f.putK o.dst v fun f' => quietK P w0 G N ops S n l f' K) → wpQuiet P ops (fun w' => Below w1.heap.size w1 w') Q (o :: l) a := by
   intro f hf hdst hw h
   obtain ⟨v, u, hKv, hv, hrun⟩ := qcallK_sound hR h hf
   unfold wpQuiet
   rw [if_pos hw]
   exact ⟨u, hrun, quietK_sound hR n l _ K (putK_iff.1 hKv) hK _ (hf.put hv (by rw [hN]; exact hdst)) ((put_size a _ _).trans hN) ((put_defers a _ _).trans hd)⟩
  split at h
  ·exact h.elim
  ·rename_i hdst
   split at h
   ·rename_i hg
    exact run hf hdst (wanted_none hg _) h
   ·rename_i j pol hg
    split at h
    ·exact h.elim
    ·rename_i d hs
     split at h
     ·rename_i x hfx
      have hk : ∀ y, x = y → FDen r ((d, one (.bool y)) :: f) a := fun y hy k => by
       simp only [Fr.get]
       split
       ·rename_i hdk; have := Nat.eq_of_beq_eq_true hdk; subst this; rw [← hy, ← show f.get d = one (.bool x) from hfx]; exact hf d
       ·exact hf k
      have hyl := yielded_of hf hs hfx
      by_cases hx : x = pol
      ·exact run (hk _ hx) hdst (by rw [wanted_some hg, hyl, hx]; simp) (h.1 hx)
      ·have hx' : x = !pol := by cases x <;> cases pol <;> simp_all
       unfold wpQuiet
       rw [if_neg (by rw [wanted_some hg, hyl]; simpa using hx)]
       exact quietK_sound hR n l _ K (putK_iff.1 (h.2 hx')) hK _ ((hk _ hx').putAny undef (by rw [hN]; exact hdst)) ((put_size a _ _).trans hN) ((put_defers a _ _).trans hd)
     ·exact h.elim
theorem sat_tail {id : Nat} {l : List Oper} {f : Fr} {K : Exit → Fr → List Ow → Prop} (n : Nat) (hm : P.follows .mixedOrders = true) (hB : Region.lexTailB .any l.toArray n = true)
  (h : quietK P w0 G N l.toArray S (l.take n).length (l.take n) f fun f' => opsK P w0 G N l.toArray (l.drop n).length (l.drop n) f' S (K .normal)) : Sat none P w0 G N (.region id l.toArray true) f S K := by
 refine ⟨fun n' a w ⟨r, hR, hf, hN, hd⟩ => wpIn_wide.2 ?_⟩
 refine region_quiet_tail (C := fun w' => Below w.drew.heap.size w.drew w') n hm hB (Below.refl _ _) ?_
 refine quietK_sound hR.drew _ _ f _ h (fun f' a' hk hf' hN' hd' w' hw' => ?_) a hf hN hd
 exact seL_wp (opsK_sound _ _ f' S _ hk (fun f2 S2 a2 w2 hk2 hg2 => ⟨f2, S2, hk2, hg2⟩) a' w' ⟨r, hR.drew.below hw', hf', hN', hd'⟩)
theorem sat_quiet {id : Nat} {l : List Oper} {f : Fr} {K : Exit → Fr → List Ow → Prop} (hm : P.follows .mixedOrders = true) (hB : Region.lexB .any l.toArray = true)
  (h : quietK P w0 G N l.toArray S l.length l f fun f' => K .normal f' S) : Sat none P w0 G N (.region id l.toArray true) f S K := by
 refine ⟨fun n' a w ⟨r, hR, hf, hN, hd⟩ => wpIn_wide.2 ?_⟩
 refine wp_region_quiet (C := fun w' => Below w.drew.heap.size w.drew w') hm hB (Below.refl _ _) ?_
 exact quietK_sound (Q := fun a' => ∀ w', Below w.drew.heap.size w.drew w' → PostK w0 G N K .normal a' w') hR.drew _ _ f _ h (fun f' a' hk hf' hN' hd' w' hw' => ⟨f', S, hk, r, hR.drew.below hw', hf', hN', hd'⟩) a hf hN hd
end
section
variable {P : Program} {w0 : World} {G : Gs} {fid : FuncId} {args : List AV} {S : List Ow} {K : AV → Prop} {xs : List Value} {x : Value}
theorem q_con (hx : avals args = some xs) (hok : fnOk P fid = true) (h : ∀ r w, Rel w0 G S r w → Calls P fid xs.toArray w fun e w' => e = .returned x ∧ Below w.heap.size w w') (hK : K (AV.of x)) : QCall P w0 G S fid args K :=
 ⟨⟨hok, x, hK, fun r w us hR hd => by rw [avals_den hx hd]; exact h r w hR⟩⟩
theorem q_same (hx : avals args = some xs) (hok : fnOk P fid = true) (h : ∀ r w, Rel w0 G S r w → Calls P fid xs.toArray w fun e w' => e = .returned x ∧ w = w') (hK : K (AV.of x)) : QCall P w0 G S fid args K :=
 q_con hx hok (fun r w hR => (h r w hR).mono fun e w' ⟨h1, h2⟩ => ⟨h1, by subst h2; exact Below.refl _ _⟩) hK
end
theorem Rel.rowAt {w0 : World} {G : Gs} {S : List Ow} {r : Env} {w : World} (hR : Rel w0 G S r w) {i : Nat} {e : TypeId} {size n : Nat} {xs : List Value} (hi : S[i]? = some (.row e size n xs)) {u : Value} (hu : r.val i = some u) :
  ∃ A c, u = .slice A n c ∧ SlAt w w.heap.size A xs ∧ n ≤ c ∧ c ≤ maxLen := by
 obtain ⟨v, hv, _, hown⟩ := hR.own i _ hi
 rw [hu] at hv; injection hv with hv; subst hv
 obtain ⟨A, c, h1, h2, h3, h4, _⟩ := own_slice hown
 exact ⟨A, c, h1, h2, h3, h4⟩
theorem den_sl {r : Env} {i off n c : Nat} {u : Value} (h : AV.den r (.p (.c (.sl i off n c))) u) : ∃ b, r.blk i = some b ∧ u = .slice (some ⟨b, off, none⟩) n c := by simpa only [AV.den, Pc.den, CV.den] using h
end Go.Proofs.YtnhdcclpjildjaaGreat
namespace Go.Proofs.YtnhdcclpjildjaaGreat
open Go.RowKit

section
variable {R : Value → Option (DataW Unit × List MemPlace)} {mk : Int → Value} {cd : Int → DataW Unit} {good : Int → Prop} {n : Nat} {m : Int → Option Int}
variable {w0 : World} {G : Gs} {N : Nd} {o : Oper} {f : Fr} {S : List Ow} {K : Fr → List Ow → Prop}
end
section
variable {n : Nat} {m : Int → Option Int} {w0 : World} {G : Gs} {o : Oper} {f : Fr} {S : List Ow} {K : AV → Prop}
end
theorem cells_one {w0 : World} {G : Gs} {b off : Nat} {x : Value} (hb : b < w0.heap.size) (hG : b ∉ G) (h : w0.cell? ⟨b, off, none⟩ = some x) : CellsAt w0 G b off [x] :=
 ⟨hb, hG, fun j u hj => by cases j with | zero => simp at hj; subst hj; exact h | succ j => simp at hj⟩
section
variable {n b : Nat} {m : Int → Option Int} {w0 : World} {G : Gs} {o : Oper} {f : Fr} {S : List Ow} {K : AV → Prop}
end
end Go.Proofs.YtnhdcclpjildjaaGreat
namespace Go.Proofs.YtnhdcclpjildjaaGreat
open Go.RowKit

section
variable {R : Value → Option (DataW Unit × List MemPlace)} {cd : Int → DataW Unit} {n : Nat} {m m' : Int → Option Int}
variable {w0 : World} {G : Gs} {fid : FuncId} {S : List Ow} {K : AV → List Ow → Prop} {x : Value}
end
theorem calls_val {P : Program} {fid : FuncId} {fn : Func} {c : Code} {N : Nat} {w0 : World} (xs : List Value) (hf : P.funcs[fid]? = some fn) (hN : fn.ntmps = N) (hb : fn.body = some c) (hle : xs.length ≤ N) {R : Ending → World → Prop}
  (h : vc none P w0 Gs.nil ⟨N, []⟩ c (argFr (xs.map fun x => AV.of x) 0) [] (RetK P w0 Gs.nil fn.results.toList R)) : Calls P fid xs.toArray w0 R :=
 calls_vc hf hN hb (rel_none w0) (avdenL_of xs) hle h
theorem wr64 {n : Int} (h : -9223372036854775808 ≤ n ∧ n < 9223372036854775808) : IntKind.i64.wrap n = n := by
 have e : IntKind.i64.wrap n = wrap64 n := by
  show (if (true && decide (n % (2 ^ 64 : Int) ≥ (2 ^ 63 : Int))) then n % (2 ^ 64 : Int) - (2 ^ 64 : Int) else n % (2 ^ 64 : Int)) = _
  unfold wrap64
  by_cases h : n % (2 ^ 64 : Int) ≥ (2 ^ 63 : Int)
  ·rw [decide_eq_true h]; simp only [Bool.and_self, if_true]; omega
  ·rw [decide_eq_false h]; simp only [Bool.and_false, Bool.false_eq_true, if_false]; omega
 rw [e]; unfold wrap64; omega
theorem wr32 (n : Int) : IntKind.u32.wrap n = n % 4294967296 := by
 show (if (false && decide (n % (2 ^ 32 : Int) ≥ (2 ^ 31 : Int))) then n % (2 ^ 32 : Int) - (2 ^ 32 : Int) else n % (2 ^ 32 : Int)) = _
 simp
end Go.Proofs.YtnhdcclpjildjaaGreat
namespace Go.Proofs.YtnhdcclpjildjaaGreat
open Go.RowKit

structure FoldSt (n : Nat) (ops : List BOp) where
 k : Nat
 f : Int → Option Int
 out : List BOp
 hk : k ≤ n
 hw : wordsF f
 hl : out.length ≤ k
 eq : foldRun noneF ops = out ++ foldRun f (ops.drop k)
end Go.Proofs.YtnhdcclpjildjaaGreat
namespace Go.Proofs.YtnhdcclpjildjaaGreat
open Go.RowKit

theorem ck_step {s s1 : Ck} {o : BOp} {x y : Bool} (h : ckNext s o x y = some s1) : formedB o = true ∧ placedB s o x y = true ∧ (o.code = 20 → o.n = (s.marks : Int) ∧ s1 = ⟨s.marks + 1, 0, false⟩) ∧
  (o.code ≠ 20 → (∀ v ∈ reads o, readB s v = true) ∧ s1 = ⟨s.marks, if 20 ≤ writes o then s.written ||| 2 ^ (writes o).toNat else s.written, s.changed || (stores o.code || decide (0 ≤ writes o ∧ writes o < 20))⟩) := by
 unfold ckNext at h
 by_cases hf : (formedB o && placedB s o x y) = true
 ·rw [if_pos hf] at h
  simp only [Bool.and_eq_true] at hf
  refine ⟨hf.1, hf.2, fun hc => ?_, fun hc => ?_⟩
  ·rw [if_pos (by simp [hc])] at h
   by_cases hn : (o.n == (s.marks : Int)) = true
   ·rw [if_pos hn] at h; injection h with h; exact ⟨by simpa using hn, h.symm⟩
   ·rw [if_neg hn] at h; cases h
  ·rw [if_neg (by simpa using hc)] at h
   by_cases hr : (reads o).all (readB s) = true
   ·rw [if_pos hr] at h; injection h with h; exact ⟨fun v hv => List.all_eq_true.1 hr v hv, h.symm⟩
   ·rw [if_neg hr] at h; cases h
 ·rw [if_neg hf] at h; cases h
theorem ck_uncons {s s2 : Ck} {o : BOp} {l : List BOp} (h : ckRun s (o :: l) = some s2) : ∃ s1, ckNext s o l.isEmpty (exitNext l) = some s1 ∧ ckRun s1 l = some s2 := by
 change (match ckNext s o l.isEmpty (exitNext l) with | some s' => ckRun s' l | none => none) = _ at h
 cases h1 : ckNext s o l.isEmpty (exitNext l) with
 | none => rw [h1] at h; cases h
 | some s1 => rw [h1] at h; exact ⟨s1, rfl, h⟩
structure Follows (l m : List BOp) : Prop where
 empty : m.isEmpty = l.isEmpty
 exit : exitNext l = true → exitNext m = true
/-! Fold. -/
theorem valid_parts {b : Blk} : validB b = true ↔ headerB b = true ∧ ∃ s, ckRun ⟨0, 0, false⟩ b.ops = some s ∧ s.marks = b.at_.length := by
 unfold validB
 rw [Bool.and_eq_true]
 constructor
 ·rintro ⟨h1, h2⟩
  split at h2
  ·rename_i s hs; exact ⟨h1, s, hs, by simpa using h2⟩
  ·cases h2
 ·rintro ⟨h1, s, h2, h3⟩
  rw [h2]
  exact ⟨h1, by simp [h3]⟩
end Go.Proofs.YtnhdcclpjildjaaGreat
namespace Go.Proofs.YtnhdcclpjildjaaGreat
open Go.RowKit

/-! Frames that name only some own entries, by their blocks. -/
def CV.fx (ok : Nat → Bool) : CV → Bool
 | .v _ => true
 | .ref i _ => ok i
 | .any => true
 | _ => false
def fxL (ok : Nat → Bool) : List CV → Bool
 | [] => true
 | c :: l => match c.fx ok with | true => fxL ok l | false => false
def AV.fx (ok : Nat → Bool) : AV → Bool
 | .p (.c x) => x.fx ok
 | .p (.agg l) => fxL ok l
 | _ => false
def Fr.fx (ok : Nat → Bool) : Fr → Bool
 | [] => true
 | (_, x) :: f => match x.fx ok with | true => Fr.fx ok f | false => false
section
variable {ok : Nat → Bool} {r r' : Env}
theorem CV.den_fx (h : ∀ i b, ok i = true → r.blk i = some b → r'.blk i = some b) : ∀ {c : CV} {u : Value}, c.fx ok = true → c.den r u → c.den r' u
 | .v x, u, _, hd => by simpa only [CV.den] using hd
 | .ref i off, u, hb, hd => by
  simp only [CV.den] at hd ⊢; obtain ⟨x, hx, hu⟩ := hd
  exact ⟨x, h i x hb hx, hu⟩
 | .any, u, _, hd => by simp only [CV.den]
 | .vref .., _, hb, _ => by cases hb
 | .row .., _, hb, _ => by cases hb
 | .sl .., _, hb, _ => by cases hb
 | .mp .., _, hb, _ => by cases hb
 | .clo .., _, hb, _ => by cases hb
theorem denL_fx (h : ∀ i b, ok i = true → r.blk i = some b → r'.blk i = some b) : ∀ {l : List CV} {us : List Value}, fxL ok l = true → denL r l us → denL r' l us
 | [], us, _, hd => by simpa only [denL] using hd
 | c :: cs, us, hb, hd => by
  simp only [denL] at hd ⊢; obtain ⟨u, l, hu, hc, hl⟩ := hd
  simp only [fxL] at hb
  split at hb
  ·rename_i hb1; exact ⟨u, l, hu, CV.den_fx h hb1 hc, denL_fx h hb hl⟩
  ·cases hb
theorem AV.den_fx (h : ∀ i b, ok i = true → r.blk i = some b → r'.blk i = some b) {x : AV} {u : Value} (hx : x.fx ok = true) (hd : x.den r u) : x.den r' u := by
 unfold AV.fx at hx
 split at hx
 ·exact CV.den_fx h hx hd
 ·obtain ⟨us, hu, hl⟩ := hd; exact ⟨us, hu, denL_fx h hx hl⟩
 ·cases hx
theorem Fr.fx_get : ∀ {f : Fr} (k : Nat), f.fx ok = true → (f.get k).fx ok = true
 | [], k, _ => rfl
 | (d, x) :: f, k, h => by
  simp only [Fr.fx] at h
  split at h
  ·simp only [Fr.get]
   split
   ·assumption
   ·exact Fr.fx_get k h
  ·cases h
theorem FDen.fx {f : Fr} {a : Act} (hf : FDen r f a) (h : ∀ i b, ok i = true → r.blk i = some b → r'.blk i = some b) (hx : f.fx ok = true) : FDen r' f a := fun k => AV.den_fx h (Fr.fx_get k hx) (hf k)
end
/-! Own entries of cells. -/
def Ow.flat : Ow → Bool
 | .cells _ _ => true
 | .row _ _ _ _ => true
 | _ => false
section
variable {w0 : World} {G : Gs} {S : List Ow} {r : Env} {W : World}
theorem rel_base (h : Rel w0 G S r W) {gs ext : List Nat} (hgs : ∀ (i g : Nat), gs[i]? = some g → r.blk i = some g) (hext : ∀ i b, r.blk i = some b → b ∈ gs ∨ b ∈ ext) : Rel W ⟨gs, ext⟩ S r W :=
 ⟨rfl, rfl, rfl, Nat.le_refl _, fun _ _ _ => rfl, h.own, h.inj, fun i b hb => ⟨(h.new i b hb).1, fun _ => hext i b hb⟩, h.outB, h.outV, hgs⟩
theorem rel_back (h : Rel w0 G S r W) {gs ext : List Nat} {S' : List Ow} {r' : Env} {W' : World} (h2 : Rel W ⟨gs, ext⟩ S' r' W') (hx : ∀ b, b ∈ gs ∨ b ∈ ext → ∃ i, r.blk i = some b) (hf : ∀ (i g : Nat), G.fix[i]? = some g → gs[i]? = some g) : Rel w0 G S' r' W' := by
 refine ⟨h2.os.trans h.os, h2.tape.trans h.tape, h2.output.trans h.output, Nat.le_trans h.size h2.size, fun k hk hG => (h2.old k (Nat.lt_of_lt_of_le hk h.size) fun hm => ?_).trans (h.old k hk hG), h2.own, h2.inj, fun i b hb => ⟨(h2.new i b hb).1, fun hlt => ?_⟩, h2.outB, h2.outV, fun i g hg => h2.first i g (hf i g hg)⟩
 ·obtain ⟨i, hi⟩ := hx k hm
  exact hG ((h.new i k hi).2 hk)
 ·obtain ⟨j, hj⟩ := hx b ((h2.new i b hb).2 (Nat.lt_of_lt_of_le hlt h.size))
  exact (h.new j b hj).2 hlt
end
end Go.Proofs.YtnhdcclpjildjaaGreat
namespace Go.Proofs.YtnhdcclpjildjaaGreat
open Go.RowKit

structure SatQ (P : Program) (w0 : World) (G : Gs) (N : Nd) (c : Code) (f : Fr) (S : List Ow) (Q : Exit → Act → World → Prop) : Prop where
 out : ∀ a w, Good w0 G N f S a w → c.wpIn Fence.wide 10 P Q a w
structure AtQ (w0 : World) (G : Gs) (N : Nd) (e : Exit) (f : Fr) (S : List Ow) (Q : Exit → Act → World → Prop) : Prop where
 out : ∀ a w, Good w0 G N f S a w → Q e a w
section
variable {P : Program} {w0 : World} {G : Gs} {N : Nd} {c d : Code} {f : Fr} {S : List Ow} {Q : Exit → Act → World → Prop}
theorem satq_vc (h : vc none P w0 G N c f S fun e f S => AtQ w0 G N e f S Q) : SatQ P w0 G N c f S Q :=
 ⟨fun a w hg => wpIn_mono ((vc_sound (ro := none) c f S _ h).out 10 a w hg) fun _e a' w' ⟨_f', _S', hk, hg'⟩ => hk.out a' w' hg'⟩
theorem satq_seq (h : vc none P w0 G N c f S fun e f S => match e with | .normal => SatQ P w0 G N d f S Q | e => AtQ w0 G N e f S Q) : SatQ P w0 G N (.seq c d) f S Q :=
 ⟨fun a w hg => wpIn_seq (wpIn_mono ((vc_sound (ro := none) c f S _ h).out 10 a w hg) fun e a' w' ⟨f', S', hk, hg'⟩ => by
  cases e with
  | normal => exact hk.out a' w' hg'
  | exit id => exact hk.out a' w' hg'
  | goto l => exact hk.out a' w' hg'
  | ret => exact hk.out a' w' hg'
  | panic ch => exact hk.out a' w' hg'
  | outgrown => exact hk.out a' w' hg')⟩
theorem satq_in (h : SatQ P w0 G N c f S (Exit.then (d.wpIn Fence.wide 10 P Q) Q)) : SatQ P w0 G N (.seq c d) f S Q := ⟨fun a w hg => wpIn_seq (h.out a w hg)⟩
theorem satq_block {id : Nat} (h : SatQ P w0 G N c f S (Exit.inBlock id Q)) : SatQ P w0 G N (.block id c) f S Q := ⟨fun a w hg => wpIn_block (h.out a w hg)⟩
end
structure EntB (f : Fr) (S : List Ow) (f' : Fr) (S' : List Ow) : Prop where
 out : ∀ w0 w r a, Rel w0 Gs.nil S r w → FDen r f a → ∃ r', Rel w0 Gs.nil S' r' w ∧ FDen r' f' a ∧ ∀ i b, r'.blk i = some b → ∃ j, r.blk j = some b
def cellsS (S : List Ow) : Bool := S.all fun o => match o with | .cells _ _ => true | _ => false
end Go.Proofs.YtnhdcclpjildjaaGreat
namespace Go.Proofs.YtnhdcclpjildjaaGreat
open Go.RowKit

mutual
def CV.ren (σ : Nat → Nat) : CV → CV
 | .v x => .v x
 | .ref i o => .ref (σ i) o
 | .vref i o => .vref (σ i) o
 | .row i => .row (σ i)
 | .sl i o n c => .sl (σ i) o n c
 | .mp i => .mp (σ i)
 | .clo f cap => .clo f (renL σ cap)
 | .any => .any
def renL (σ : Nat → Nat) : List CV → List CV
 | [] => []
 | c :: l => c.ren σ :: renL σ l
end
def Pc.ren (σ : Nat → Nat) : Pc → Pc
 | .c x => .c (x.ren σ)
 | .agg l => .agg (renL σ l)
def prenL (σ : Nat → Nat) : List Pc → List Pc
 | [] => []
 | c :: l => c.ren σ :: prenL σ l
def AV.ren (σ : Nat → Nat) : AV → AV
 | .p x => .p (x.ren σ)
 | .tup l => .tup (prenL σ l)
def Ow.ren (σ : Nat → Nat) : Ow → Ow
 | .cells t l => .cells t (renL σ l)
 | o => o
def Env.comp (r : Env) (σ : Nat → Nat) (n : Nat) : Env := ⟨fun i => if i < n then r.blk (σ i) else Option.none, fun i => if i < n then r.val (σ i) else Option.none⟩
section
variable {r : Env} {σ : Nat → Nat} {n : Nat}
theorem comp_blk {i : Nat} (h : i < n) : (r.comp σ n).blk i = r.blk (σ i) := if_pos h
theorem comp_val {i : Nat} (h : i < n) : (r.comp σ n).val i = r.val (σ i) := if_pos h
mutual
theorem CV.den_ren : ∀ (c : CV) (u : Value), c.bnd n = true → (c.ren σ).den r u → c.den (r.comp σ n) u
 | .v x, u, _, hd => by simpa only [CV.den, CV.ren] using hd
 | .ref i off, u, hb, hd => by
  have hi : i < n := by simpa [CV.bnd, Nat.blt_eq] using hb
  simp only [CV.den, CV.ren] at hd ⊢; rw [comp_blk hi]; exact hd
 | .vref i off, u, hb, hd => by
  have hi : i < n := by simpa [CV.bnd, Nat.blt_eq] using hb
  simp only [CV.den, CV.ren] at hd ⊢; rw [comp_val hi]; exact hd
 | .row i, u, hb, hd => by
  have hi : i < n := by simpa [CV.bnd, Nat.blt_eq] using hb
  simp only [CV.den, CV.ren] at hd ⊢; rw [comp_val hi]; exact hd
 | .sl i off m c, u, hb, hd => by
  have hi : i < n := by simpa [CV.bnd, Nat.blt_eq] using hb
  simp only [CV.den, CV.ren] at hd ⊢; rw [comp_blk hi]; exact hd
 | .mp i, u, hb, hd => by
  have hi : i < n := by simpa [CV.bnd, Nat.blt_eq] using hb
  simp only [CV.den, CV.ren] at hd ⊢; rw [comp_blk hi]; exact hd
 | .clo f cap, u, hb, hd => by
  simp only [CV.den, CV.ren] at hd ⊢; obtain ⟨us, hu, hl⟩ := hd
  exact ⟨us, hu, denL_ren cap us (by simpa only [CV.bnd] using hb) hl⟩
 | .any, u, _, hd => by simp only [CV.den]
theorem denL_ren : ∀ (l : List CV) (us : List Value), bndL n l = true → denL r (renL σ l) us → denL (r.comp σ n) l us
 | [], us, _, hd => by simpa only [denL, renL] using hd
 | c :: cs, us, hb, hd => by
  simp only [denL, renL] at hd ⊢; obtain ⟨u, l, hu, hc, hl⟩ := hd
  simp only [bndL] at hb
  split at hb
  ·rename_i h1; exact ⟨u, l, hu, CV.den_ren c u h1 hc, denL_ren cs l hb hl⟩
  ·cases hb
end
theorem Pc.den_ren : ∀ (c : Pc) (u : Value), c.bnd n = true → (c.ren σ).den r u → c.den (r.comp σ n) u
 | .c x, u, hb, hd => CV.den_ren x u hb hd
 | .agg l, u, hb, hd => by obtain ⟨us, hu, hl⟩ := hd; exact ⟨us, hu, denL_ren l us hb hl⟩
theorem pdenL_ren : ∀ (l : List Pc) (us : List Value), pbndL n l = true → pdenL r (prenL σ l) us → pdenL (r.comp σ n) l us
 | [], us, _, hd => hd
 | c :: cs, us, hb, hd => by
  obtain ⟨u, l, hu, hc, hl⟩ := hd
  simp only [pbndL] at hb
  split at hb
  ·rename_i h1; exact ⟨u, l, hu, Pc.den_ren c u h1 hc, pdenL_ren cs l hb hl⟩
  ·cases hb
theorem AV.den_ren : ∀ (c : AV) (u : Value), c.bnd n = true → (c.ren σ).den r u → c.den (r.comp σ n) u
 | .p x, u, hb, hd => Pc.den_ren x u hb hd
 | .tup l, u, hb, hd => by obtain ⟨us, hu, hl⟩ := hd; exact ⟨us, hu, pdenL_ren l us hb hl⟩
end
def FRen (f : Fr) (σ : Nat → Nat) : Fr → Prop
 | [] => True
 | (d, x) :: g => AVle (f.get d) (x.ren σ) ∧ FRen f σ g
theorem FRen.get {f : Fr} {σ : Nat → Nat} : ∀ {g : Fr} (k : Nat), FRen f σ g → g.get k = .p (.c .any) ∨ AVle (f.get k) ((g.get k).ren σ)
 | [], k, _ => .inl rfl
 | (d, x) :: g, k, h => by
  simp only [Fr.get]
  split
  ·rename_i hk; have := Nat.eq_of_beq_eq_true hk; subst this; exact .inr h.1
  ·exact FRen.get k h.2
def RLe (S : List Ow) (σ : Nat → Nat) : List Ow → List Nat → Prop
 | [], [] => True
 | o' :: S', k :: l => (∃ o, S[k]? = some o ∧ OLe o (o'.ren σ)) ∧ RLe S σ S' l
 | _, _ => False
theorem RLe.length {S : List Ow} {σ : Nat → Nat} : ∀ {S' : List Ow} {l : List Nat}, RLe S σ S' l → S'.length = l.length
 | [], [], _ => rfl
 | _ :: S', _ :: l, h => by simp [RLe.length h.2]
 | [], _ :: _, h => h.elim
 | _ :: _, [], h => h.elim
theorem RLe.get {S : List Ow} {σ : Nat → Nat} : ∀ {S' : List Ow} {l : List Nat} {i : Nat} {o' : Ow}, RLe S σ S' l → S'[i]? = some o' → ∃ k o, l[i]? = some k ∧ S[k]? = some o ∧ OLe o (o'.ren σ)
 | [], _, i, o', _, h => by simp at h
 | o :: S', k :: l, 0, o', h, hi => by simp at hi; subst hi; obtain ⟨o1, h1, h2⟩ := h.1; exact ⟨k, o1, by simp, h1, h2⟩
 | o :: S', k :: l, i + 1, o', h, hi => by simpa using RLe.get h.2 (by simpa using hi)
 | _ :: _, [], _, _, h, _ => h.elim
def isViewB (S : List Ow) (k : Nat) : Bool := match S[k]? with | some (.view ..) => true | _ => false
def memB (k : Nat) : List Nat → Bool
 | [] => false
 | j :: l => match Nat.beq k j with | true => true | false => memB k l
theorem memB_of {k : Nat} : ∀ {l : List Nat}, k ∈ l → memB k l = true
 | j :: l, h => by
  simp only [memB]
  split
  ·rfl
  ·rename_i hb
   rcases List.mem_cons.1 h with rfl | h
   ·rw [Nat.beq_refl] at hb; cases hb
   ·exact memB_of h
def injB (S : List Ow) : List Nat → Bool
 | [] => true
 | k :: l => match isViewB S k, memB k l with | false, true => false | _, _ => injB S l
theorem injB_spec {S : List Ow} : ∀ {l : List Nat} {i j k : Nat}, injB S l = true → i < j → l[i]? = some k → l[j]? = some k → isViewB S k = true
 | [], i, j, k, _, _, h, _ => by simp at h
 | a :: l, i, j, k, hb, hij, hi, hj => by
  obtain ⟨j, rfl⟩ : ∃ j', j = j' + 1 := ⟨j - 1, by omega⟩
  simp only [List.getElem?_cons_succ] at hj
  simp only [injB] at hb
  cases i with
  | zero =>
   simp at hi; subst hi
   cases hv : isViewB S a
   ·rw [hv, memB_of (List.mem_of_getElem? hj)] at hb; cases hb
   ·rfl
  | succ i =>
   have hb2 : injB S l = true := by split at hb; cases hb; exact hb
   exact injB_spec hb2 (by omega : i < j) (by simpa using hi) hj
def idB (n : Nat) : List Nat → Nat → Bool
 | [], _ => true
 | k :: l, i => match Nat.blt i n, Nat.beq k i with | true, false => false | _, _ => idB n l (i + 1)
theorem idB_spec {n : Nat} : ∀ {l : List Nat} {s i k : Nat}, idB n l s = true → l[i]? = some k → s + i < n → k = s + i
 | [], s, i, k, _, h, _ => by simp at h
 | a :: l, s, i, k, hb, hi, hn => by
  simp only [idB] at hb
  cases i with
  | zero =>
   simp at hi; subst hi
   have h1 : Nat.blt s n = true := by rw [Nat.blt_eq]; omega
   rw [h1] at hb
   cases h2 : Nat.beq a s
   ·rw [h2] at hb; cases hb
   ·exact Nat.eq_of_beq_eq_true h2
  | succ i =>
   have hb2 : idB n l (s + 1) = true := by split at hb; cases hb; exact hb
   have := idB_spec (i := i) hb2 (by simpa using hi) (by omega)
   omega
theorem rel_ren {w0 : World} {G : Gs} {S S' : List Ow} {r : Env} {w : World} (hR : Rel w0 G S r w) (σl : List Nat) (hS : RLe S (fun i => σl.getD i 0) S' σl) (hb : sbnd S'.length S' = true) (hi : injB S σl = true) (hG : idB G.fix.length σl 0 = true) (hGl : Nat.ble G.fix.length S'.length = true) :
  Rel w0 G S' (r.comp (fun i => σl.getD i 0) S'.length) w := by
 have hl := hS.length
 have at_ : ∀ i, i < S'.length → ∃ k o o', σl[i]? = some k ∧ σl.getD i 0 = k ∧ S'[i]? = some o' ∧ S[k]? = some o ∧ OLe o (o'.ren fun i => σl.getD i 0) := fun i hil => by
  obtain ⟨k, o, h1, h2, h3⟩ := hS.get (List.getElem?_eq_getElem hil)
  exact ⟨k, o, _, h1, by rw [List.getD_eq_getElem?_getD, h1]; rfl, List.getElem?_eq_getElem hil, h2, h3⟩
 have lt_of : ∀ {i b}, (r.comp (fun i => σl.getD i 0) S'.length).blk i = some b → i < S'.length := fun {i b} h => by
  simp only [Env.comp] at h; split at h
  ·assumption
  ·cases h
 refine ⟨hR.os, hR.tape, hR.output, hR.size, hR.old, fun i o' ho' => ?_, fun i j b h1 h2 => ?_, fun i b h => ?_, fun i h => if_neg (by omega), fun i h => if_neg (by omega), fun i g hg => ?_⟩
 ·have hil : i < S'.length := by
   rcases Nat.lt_or_ge i S'.length with h1 | h1
   ·exact h1
   ·rw [List.getElem?_eq_none h1] at ho'; cases ho'
  obtain ⟨k, o, o2, h1, h2, h3, h4, h5⟩ := at_ i hil
  rw [ho'] at h3; injection h3 with h3; subst h3
  have hh := h5.holds (hR.own k o h4)
  have hbo := sbnd_get hb ho'
  have hbl : (r.comp (fun i => σl.getD i 0) S'.length).blk i = r.blk k := (comp_blk hil).trans (by rw [h2])
  have hvl : (r.comp (fun i => σl.getD i 0) S'.length).val i = r.val k := (comp_val hil).trans (by rw [h2])
  cases o' with
  | cells t l => obtain ⟨b, us, j1, j2, j3⟩ := hh; exact ⟨b, us, hbl.trans j1, j2, denL_ren l us hbo j3⟩
  | row e size m xs => obtain ⟨v, j1, j2, j3⟩ := hh; exact ⟨v, hvl.trans j1, j2.trans hbl.symm, j3⟩
  | ext φ => obtain ⟨b, j1, j2⟩ := hh; exact ⟨b, hbl.trans j1, j2⟩
  | view φ m xs =>
   obtain ⟨A, c, j1, j2, j3, j4, j5⟩ := hh
   refine ⟨A, c, hvl.trans j1, j2, j3, hbl.trans j4, fun j u hj => ?_⟩
   obtain ⟨b, off, j6, j7, j8, j9⟩ := j5 j u hj
   refine ⟨b, off, j6, j7, fun q hq => ?_, j9⟩
   rw [comp_blk (lt_of hq)] at hq
   exact j8 _ hq
  | gone => trivial
 ·have l1 := lt_of h1
  have l2 := lt_of h2
  rw [comp_blk l1] at h1
  rw [comp_blk l2] at h2
  obtain ⟨k, o, o2, a1, a2, a3, a4, a5⟩ := at_ i l1
  obtain ⟨k', o', o2', b1, b2, b3, b4, b5⟩ := at_ j l2
  have hk := hR.inj _ _ b h1 h2
  rw [a2, b2] at hk
  subst hk
  have hnv : isViewB S k = false := by
   cases hv : isViewB S k
   ·rfl
   ·exfalso
    unfold isViewB at hv
    rw [a4] at hv
    cases o <;> simp at hv
    obtain ⟨A, c, _, _, _, j4, _⟩ := hR.own k _ a4
    rw [a2, j4] at h1; cases h1
  rcases Nat.lt_trichotomy i j with h | h | h
  ·rw [injB_spec hi h a1 b1] at hnv; cases hnv
  ·exact h
  ·rw [injB_spec hi h b1 a1] at hnv; cases hnv
 ·have l1 := lt_of h
  rw [comp_blk l1] at h
  exact hR.new _ b h
 ·have hgl : i < G.fix.length := by
   rcases Nat.lt_or_ge i G.fix.length with h1 | h1
   ·exact h1
   ·rw [List.getElem?_eq_none h1] at hg; cases hg
  have hil : i < S'.length := Nat.lt_of_lt_of_le hgl (Nat.le_of_ble_eq_true hGl)
  obtain ⟨k, o, o2, a1, a2, _⟩ := at_ i hil
  rw [comp_blk hil, a2]
  have := idB_spec hG a1 (by omega)
  rw [this, Nat.zero_add]
  exact hR.first i g hg
theorem FRen.den {r : Env} {f f' : Fr} {σ : Nat → Nat} {n : Nat} {a : Act} (h : FRen f σ f') (hb : f'.bnd n = true) (hf : FDen r f a) : FDen (r.comp σ n) f' a := fun k => by
 rcases h.get k with h1 | h1
 ·rw [h1]; simp [AV.den, Pc.den, CV.den]
 ·exact AV.den_ren _ _ (Fr.bnd_get k hb) (h1.den (hf k))
theorem ent_ren {w0 : World} {G : Gs} {N : Nd} {f f' : Fr} {S S' : List Ow} (σl : List Nat) (hf : FRen f (fun i => σl.getD i 0) f') (hS : RLe S (fun i => σl.getD i 0) S' σl) (hfb : f'.bnd S'.length = true) (hb : sbnd S'.length S' = true) (hi : injB S σl = true) (hG : idB G.fix.length σl 0 = true) (hGl : Nat.ble G.fix.length S'.length = true) : Ent w0 G N f S f' S' :=
 ⟨fun _a _w ⟨_r, hR, hd, hN, hdf⟩ => ⟨_, rel_ren hR σl hS hb hi hG hGl, hf.den hfb hd, hN, hdf⟩⟩
end Go.Proofs.YtnhdcclpjildjaaGreat
namespace Go.Proofs.YtnhdcclpjildjaaGreat
open Go.RowKit

structure CopySt (n : Nat) (ops : List BOp) where
 k : Nat
 f : Int → Option Int
 out : List BOp
 hk : k ≤ n
 hm : midF f
 hl : out.length ≤ k
 eq : copyRun noneF ops = out ++ copyRun f (ops.drop k)
end Go.Proofs.YtnhdcclpjildjaaGreat
namespace Go.Proofs.YtnhdcclpjildjaaGreat
open Go.RowKit

structure EqSt (l m : List BOp) where
 k : Nat
 hk : k ≤ l.length
 h : l.take k = m.take k
end Go.Proofs.YtnhdcclpjildjaaGreat
namespace Go.Proofs.YtnhdcclpjildjaaGreat
open Go.RowKit

section
variable {P : Program} {w0 : World} {G : Gs} {N : Nat} {c d : Code} {f : Fr} {S : List Ow} {Q : Exit → Act → World → Prop} {fn : Func} {R : Ending → World → Prop}
theorem atq_ret (h : resK P w0 G S f fn.results.toList fun v => Fin w0 G S v R) : AtQ w0 G ⟨N, []⟩ .ret f S (bodyPostM Fence.wide 10 P fn R) := by
 refine ⟨fun a w ⟨r, hR, hf, hN, hd⟩ => ?_⟩
 obtain ⟨v, u, hK, hdn, hrun⟩ := resK_sound h hR hf
 show LeavesInM _ _ _ _ _ _ a.defers _ _
 rw [show a.defers = [] from hd]
 exact ⟨u, hrun, hK.out r w u hR hdn⟩
theorem calls_satq {fid : FuncId} (xs : List Value) (hf : P.funcs[fid]? = some fn) (hN : fn.ntmps = N) (hb : fn.body = some c) (hle : xs.length ≤ N) {w : World} {R : Ending → World → Prop}
  (h : SatQ P w Gs.nil ⟨N, []⟩ c (argFr (xs.map fun x => AV.of x) 0) [] (bodyPostM Fence.wide 10 P fn R)) : Calls P fid xs.toArray w R := by
 refine callsIn_wide.1 (callsIn_of_wp_marks (n := 10) hf hb trivial (h.out _ w ⟨Env.none, rel_none w, fun i => ?_, by simp; omega, rfl⟩))
 refine argFr_get (r := Env.none) (xs.map fun x => AV.of x) xs 0 (avdenL_of xs) (fun j u hj => ?_) i
 rw [Nat.zero_add, Array.getD_eq_getD_getElem?, Array.getElem?_append_left (by simp; rcases Nat.lt_or_ge j xs.length with h1 | h1; exact h1; rw [List.getElem?_eq_none h1] at hj; cases hj)]
 simp [hj]
end
end Go.Proofs.YtnhdcclpjildjaaGreat
namespace Go.Proofs.YtnhdcclpjildjaaGreat
open Go.RowKit

structure RepSt (mu : Blk → Nat) (b0 : Blk) where
 b : Blk
 ok : b.ok
 hat : b.at_ = b0.at_
 hpg : b.pages = b0.pages
 eq : optN (mu b0) b0 = optN (mu b) b
end Go.Proofs.YtnhdcclpjildjaaGreat
namespace Go.Proofs.YtnhdcclpjildjaaGreat
open Go.RowKit

structure CkSim (s s' : Ck) : Prop where
 marks : s'.marks = s.marks
 known : ∀ v, readB s v = true → readB s' v = true
 ch : s'.changed = true → s.changed = true
theorem formed_split {o : BOp} : formedB o = true ↔ isOp o.code = true ∧ fieldB (hasD o.code) o.d = true ∧ fieldB (hasA o.code) o.a = true ∧ fieldB (hasB o.code) o.b = true ∧ (hasN o.code || o.n == 0) = true := by
 unfold formedB
 simp only [Bool.and_eq_true]
 constructor
 ·rintro ⟨⟨⟨⟨h1, h2⟩, h3⟩, h4⟩, h5⟩; exact ⟨h1, h2, h3, h4, h5⟩
 ·rintro ⟨h1, h2, h3, h4, h5⟩; exact ⟨⟨⟨⟨h1, h2⟩, h3⟩, h4⟩, h5⟩
/-! Dead. -/
structure DeadSim (s s' : Ck) (r : List BOp) : Prop where
 marks : s'.marks = s.marks
 known : ∀ v, liveAtL r v = true → readB s v = true → readB s' v = true
 ch : s'.changed = true → s.changed = true
/-! The result of Opt. -/
end Go.Proofs.YtnhdcclpjildjaaGreat
namespace Go.Proofs.YtnhdcclpjildjaaGreat
open Go.RowKit

def guardOf (ops : Array Oper) (f : Fr) (o : Oper) : Option Bool := match o.guard with
 | none => some true
 | some (j, pol) => (match slotOf ops j with
  | some d => (match f.get d with | .p (.c (.v (.bool x))) => some (x == pol) | _ => none)
  | none => none)
section
variable (P : Program) (W : World) (N : Nd) (ops : Array Oper)
end
section
variable {P : Program} {W : World} {N : Nd} {ops : Array Oper}
theorem guard_wanted {r : Env} {f : Fr} {a : Act} {o : Oper} {x : Bool} (hf : FDen r f a) (h : guardOf ops f o = some x) : Region.wanted o (yielded ops a.tmps) = x := by
 unfold guardOf at h
 split at h
 ·rename_i hg; injection h with h; subst h; exact wanted_none hg _
 ·rename_i j pol hg
  split at h
  ·rename_i d hs
   split at h
   ·rename_i y hy
    injection h with h; subst h
    rw [wanted_some hg, yielded_of hf hs hy]
    cases y <;> cases pol <;> rfl
   ·cases h
  ·cases h
end
end Go.Proofs.YtnhdcclpjildjaaGreat
namespace Go.Proofs.YtnhdcclpjildjaaGreat
open Go.RowKit
theorem Rel.grown {w0 : World} {g : Nat} {S : List Ow} {r : Env} {w : World} (h : Rel w0 ⟨[g], []⟩ S r w) : w0.grownBy w (some g) :=
 ⟨h.os, h.tape, h.output, h.size, fun k hk hn => h.old k hk (by
  rintro (h1 | h1)
  ·simp at h1; exact hn (by rw [h1])
  ·cases h1)⟩
end Go.Proofs.YtnhdcclpjildjaaGreat
namespace Go.Proofs.YtnhdcclpjildjaaGreat
open Go.RowKit
inductive Tr where
 | done
 | q (i : Nat) (t : Tr)
 | alt (i : Nat) (t more : Tr)
 | no
def Tr.alts : Tr → List Nat
 | .alt i _ more => i :: more.alts
 | _ => []
def Tr.depth : Tr → Nat
 | .done => 0
 | .no => 0
 | .q _ t => t.depth + 1
 | .alt _ t more => max (t.depth + 1) more.depth
def Tr.ok (ops : Array Oper) : Tr → Bool → Array Bool → Bool
 | .done, inner, listed => !inner && (Region.ready .any ops listed).isEmpty
 | .q i t, inner, listed => !inner && Region.free .any ops listed i && (Region.ready .any ops listed).contains i && t.ok ops false (listed.setIfInBounds i true)
 | .alt i t more, inner, listed => (inner || Region.ready .any ops listed == i :: more.alts) && t.ok ops false (listed.setIfInBounds i true) && more.ok ops true listed
 | .no, inner, _ => inner
section
variable (P : Program) (W : World) (N : Nd)
end
section
variable {P : Program} {W : World} {N : Nd} {ops : Array Oper} {l : List Oper}
end
end Go.Proofs.YtnhdcclpjildjaaGreat
namespace Go.Proofs.YtnhdcclpjildjaaGreat
open Go.RowKit
section
variable {w0 : World} {G : Gs} {S : List Ow} {r : Env} {w : World}
end
section
variable {P : Program} {w0 : World} {G : Gs} {N : Nat} {c d : Code} {f : Fr} {S : List Ow} {Q : Exit → Act → World → Prop} {fn : Func} {R : Ending → World → Prop}
theorem satq_as {N : Nd} {f' : Fr} {S' : List Ow} (h : Ent w0 G N f S f' S') (k : SatQ P w0 G N d f' S' Q) : SatQ P w0 G N d f S Q := ⟨fun a w hg => k.out a w (h.out a w hg)⟩
end
end Go.Proofs.YtnhdcclpjildjaaGreat
