/- Walks: the reference's Same. -/
import Derived.Test.YtmjfgnnefcimiaaK1
import Derived.Test.YtmjfgnnefcimiaaK13
import Derived.Test.YtmjfgnnefcimiaaK17
import Derived.Test.YtmjfgnnefcimiaaK3
import Derived.Test.YtmjfgnnefcimiaaK5
namespace Go.Proofs.Ytmjfgnnefcimiaa
open Go.RowKit
attribute [local irreducible] wpStill wpQuiet

def sameB (x y : Blk) : Bool := x.at_ == y.at_ && (x.pages == y.pages && x.ops == y.ops)

theorem drop_beq {α : Type} [BEq α] {l m : List α} {k : Nat} {x y : α} (h : l[k]? = some x) (g : m[k]? = some y) : (l.drop k == m.drop k) = (x == y && l.drop (k + 1) == m.drop (k + 1)) := by
  have h1 : k < l.length := by
    rcases Nat.lt_or_ge k l.length with h1 | h1
    · exact h1
    · rw [List.getElem?_eq_none h1] at h; cases h
  have h2 : k < m.length := by
    rcases Nat.lt_or_ge k m.length with h1 | h1
    · exact h1
    · rw [List.getElem?_eq_none h1] at g; cases g
  rw [List.drop_eq_getElem_cons h1, List.drop_eq_getElem_cons h2]
  rw [List.getElem?_eq_getElem h1] at h
  rw [List.getElem?_eq_getElem h2] at g
  injection h with h; injection g with g
  subst h; subst g
  rfl
theorem drop_done {α : Type} [BEq α] {l m : List α} {n : Nat} (h : l.length = n) (g : m.length = n) : (l.drop n == m.drop n) = true := by
  rw [List.drop_eq_nil_of_le (by omega), List.drop_eq_nil_of_le (by omega)]
  rfl
theorem len_beq {α : Type} [BEq α] [LawfulBEq α] {l m : List α} (h : l.length ≠ m.length) : (l == m) = false := by
  rw [beq_eq_false_iff_ne]
  rintro rfl
  exact h rfl

theorem op_neq_same {p q : BOp} (h : p = q) : ∀ w : World, (binOp .neq 53 (.agg #[.int .i64 p.code, .int .i64 p.d, .int .i64 p.a, .int .i64 p.b, .int .u32 p.n]) (.agg #[.int .i64 q.code, .int .i64 q.d, .int .i64 q.a, .int .i64 q.b, .int .u32 q.n])).run Try.prog w = .ok (.bool false) w := fun w => by
  have := op_neq p q w
  rw [show (p == q) = true from by simp [h]] at this
  exact this
theorem op_neq_other {p q : BOp} (h : p ≠ q) : ∀ w : World, (binOp .neq 53 (.agg #[.int .i64 p.code, .int .i64 p.d, .int .i64 p.a, .int .i64 p.b, .int .u32 p.n]) (.agg #[.int .i64 q.code, .int .i64 q.d, .int .i64 q.a, .int .i64 q.b, .int .u32 q.n])).run Try.prog w = .ok (.bool true) w := fun w => by
  have := op_neq p q w
  rw [show (p == q) = false from by simp [h]] at this
  exact this

section
variable (A1 A2 A3 D1 D2 D3 : Option Addr) (c1 c2 c3 d1 d2 d3 : Nat) (x y : Blk) (w : World)

set_option maxRecDepth 100000 in
set_option maxHeartbeats 1600000 in
theorem same_ref (m1 : x.at_.length ≤ 1000000) (m2 : x.pages.length ≤ 1000000) (m3 : x.ops.length ≤ 1000000)
    (h1 : SlAt w w.heap.size A1 (x.at_.map (.int .u32))) (h2 : SlAt w w.heap.size A2 (x.pages.map (.int .i64))) (h3 : OpsAt w w.heap.size A3 x.ops)
    (g1 : SlAt w w.heap.size D1 (y.at_.map (.int .u32))) (g2 : SlAt w w.heap.size D2 (y.pages.map (.int .i64))) (g3 : OpsAt w w.heap.size D3 y.ops) :
    Calls Try.prog 23 #[.agg #[.slice A1 x.at_.length c1, .slice A2 x.pages.length c2, .slice A3 x.ops.length c3], .agg #[.slice D1 y.at_.length d1, .slice D2 y.pages.length d2, .slice D3 y.ops.length d3]] w fun e w' => e = .returned (.bool (sameB x y)) ∧ Below w.heap.size w w' := by
  obtain ⟨n1, hn1⟩ : ∃ n, x.at_.length = n := ⟨_, rfl⟩
  obtain ⟨n2, hn2⟩ : ∃ n, x.pages.length = n := ⟨_, rfl⟩
  obtain ⟨n3, hn3⟩ : ∃ n, x.ops.length = n := ⟨_, rfl⟩
  obtain ⟨k1, hk1⟩ : ∃ n, y.at_.length = n := ⟨_, rfl⟩
  obtain ⟨k2, hk2⟩ : ∃ n, y.pages.length = n := ⟨_, rfl⟩
  obtain ⟨k3, hk3⟩ : ∃ n, y.ops.length = n := ⟨_, rfl⟩
  rw [hn1] at m1 ⊢
  rw [hn2] at m2 ⊢
  rw [hn3] at m3 ⊢
  rw [hk1, hk2, hk3]
  have H1 := Lib.hid h1
  have H2 := Lib.hid h2
  have H3 := Lib.hid h3
  have G1 := Lib.hid g1
  have G2 := Lib.hid g2
  have G3 := Lib.hid g3
  have N1 := Lib.hid hn1
  have N2 := Lib.hid hn2
  have N3 := Lib.hid hn3
  have K1 := Lib.hid hk1
  have K2 := Lib.hid hk2
  have K3 := Lib.hid hk3
  clear h1 h2 h3 g1 g2 g3 hn1 hn2 hn3 hk1 hk2 hk3
  by_cases i1 : n1 = k1
  · subst i1
    have t1 : ((n1 : Int) != (n1 : Int)) = false := by simp
    by_cases i2 : n2 = k2
    · subst i2
      have t2 : ((n2 : Int) != (n2 : Int)) = false := by simp
      by_cases i3 : n3 = k3
      · subst i3
        have t3 : ((n3 : Int) != (n3 : Int)) = false := by simp
        go_enter Try.func23, Try.ntmps23
        go_wp2
        refine wp_world fun W0 hc0 hf0 hs0 hb0 => ?_
        have hB0 : Below w.heap.size w W0 := hb0 _ _ (by repeat (first | exact Below.refl _ _ | assumption | (with_reducible refine Below.drew ?_) | (with_reducible refine below_drewN ?_ _) | (with_reducible refine Below.alloc ?_ (by first | exact Nat.le_refl _ | assumption | (simp; done) | (simp; omega) | omega) _) | (with_reducible refine Below.setCell ?_ (by first | exact Nat.le_refl _ | assumption | (simp; done) | (simp; omega) | omega) _) | (with_reducible refine below_call ?_ (by assumption) (by first | exact Nat.le_refl _ | assumption | (simp; done) | (simp; omega) | omega)) | (with_reducible refine below_only ?_ (by assumption) (by first | exact Nat.le_refl _ | assumption | (simp; done) | (simp; omega) | omega) (by first | exact Nat.le_refl _ | assumption | (simp; done) | (simp; omega) | omega))))
        have hsz : w.heap.size < W0.heap.size := by rw [hs0]; simp; omega
        have hsy : w.heap.size + 1 < W0.heap.size := by rw [hs0]; simp
        have x1 : W0.cell? ⟨w.heap.size, 0, none⟩ = some (.slice A1 n1 c1) := by go_simp
        have x2 : W0.cell? ⟨w.heap.size, 1, none⟩ = some (.slice A2 n2 c2) := by go_simp
        have x3 : W0.cell? ⟨w.heap.size, 2, none⟩ = some (.slice A3 n3 c3) := by go_simp
        have y1 : W0.cell? ⟨w.heap.size + 1, 0, none⟩ = some (.slice D1 n1 d1) := by go_simp
        have y2 : W0.cell? ⟨w.heap.size + 1, 1, none⟩ = some (.slice D2 n2 d2) := by go_simp
        have y3 : W0.cell? ⟨w.heap.size + 1, 2, none⟩ = some (.slice D3 n3 d3) := by go_simp
        have P1 := Lib.hid (SlAt.more (SlAt.below H1.out hB0 (Nat.le_refl _)) (by omega) : SlAt W0 W0.heap.size A1 (x.at_.map (.int .u32)))
        have P2 := Lib.hid (SlAt.more (SlAt.below H2.out hB0 (Nat.le_refl _)) (by omega) : SlAt W0 W0.heap.size A2 (x.pages.map (.int .i64)))
        have P3 := Lib.hid (SlAt.more (SlAt.below H3.out hB0 (Nat.le_refl _)) (by omega) : OpsAt W0 W0.heap.size A3 x.ops)
        have Q1 := Lib.hid (SlAt.more (SlAt.below G1.out hB0 (Nat.le_refl _)) (by omega) : SlAt W0 W0.heap.size D1 (y.at_.map (.int .u32)))
        have Q2 := Lib.hid (SlAt.more (SlAt.below G2.out hB0 (Nat.le_refl _)) (by omega) : SlAt W0 W0.heap.size D2 (y.pages.map (.int .i64)))
        have Q3 := Lib.hid (SlAt.more (SlAt.below G3.out hB0 (Nat.le_refl _)) (by omega) : OpsAt W0 W0.heap.size D3 y.ops)
        clear hc0 hf0 hs0 hb0 H1 H2 H3 G1 G2 G3
        go_loopw [5] (fun t W => ∃ k : Nat, k ≤ n1 ∧ t = .int .i64 k ∧ Hid ((x.at_ == y.at_) = (x.at_.drop k == y.at_.drop k)) ∧ Below W0.heap.size W0 W) (fun t _ => n1 - (intOf t).toNat)
        case atStart => exact ⟨0, Nat.zero_le _, rfl, by unfold Hid; simp, Below.refl _ _⟩
        case round =>
          obtain ⟨k, hk, rfl, hq, hB⟩ := hrel
          have hw1 := hB.size
          have z1 := (hB.cell (p := ⟨w.heap.size, 0, none⟩) hsz).trans x1
          have z2 := (hB.cell (p := ⟨w.heap.size, 1, none⟩) hsz).trans x2
          have z3 := (hB.cell (p := ⟨w.heap.size, 2, none⟩) hsz).trans x3
          have v1 := (hB.cell (p := ⟨w.heap.size + 1, 0, none⟩) hsy).trans y1
          have v2 := (hB.cell (p := ⟨w.heap.size + 1, 1, none⟩) hsy).trans y2
          have v3 := (hB.cell (p := ⟨w.heap.size + 1, 2, none⟩) hsy).trans y3
          by_cases hlt : k < n1
          · obtain ⟨bp, ofp, p, rfl, hbp, hx, hc⟩ := ints_at P1.out (by rw [N1.out]; exact hlt)
            obtain ⟨bq, ofq, q, rfl, hbq, hy, hd⟩ := ints_at Q1.out (by rw [K1.out]; exact hlt)
            have e0 := (hB.cell (p := ⟨bp, ofp + k, none⟩) hbp).trans hc
            have e1 := (hB.cell (p := ⟨bq, ofq + k, none⟩) hbq).trans hd
            have HS := Lib.hid (drop_beq hx hy)
            have r1 : (0 : Int) ≤ (k : Int) := by omega
            have r2 : (k : Int) < (n1 : Int) := by omega
            clear hx hy hc hd x1 x2 x3 y1 y2 y3
            by_cases hpq : p = q
            · have t4 : (p != q) = false := by simp [hpq]
              have HPQ := Lib.hid hpq
              clear hpq
              go_wp2
              go_quiet (fail)
              go_wp2
              go_roundw
              case rel =>
                refine ⟨k + 1, by omega, by go_num, ?_, (by repeat (first | exact Below.refl _ _ | assumption | (with_reducible refine Below.drew ?_) | (with_reducible refine below_drewN ?_ _) | (with_reducible refine Below.alloc ?_ (by first | exact Nat.le_refl _ | assumption | (simp; done) | (simp; omega) | omega) _) | (with_reducible refine Below.setCell ?_ (by first | exact Nat.le_refl _ | assumption | (simp; done) | (simp; omega) | omega) _) | (with_reducible refine below_call ?_ (by assumption) (by first | exact Nat.le_refl _ | assumption | (simp; done) | (simp; omega) | omega)) | (with_reducible refine below_only ?_ (by assumption) (by first | exact Nat.le_refl _ | assumption | (simp; done) | (simp; omega) | omega) (by first | exact Nat.le_refl _ | assumption | (simp; done) | (simp; omega) | omega))))⟩
                unfold Hid
                rw [hq.out, HS.out, beq_of HPQ.out]
                rfl
              case measure => simp [intOf]; omega
            · have t4 : (p != q) = true := by simp [hpq]
              have HPQ := Lib.hid hpq
              clear hpq
              go_wp2
              go_quiet (fail)
              go_wp2
              go_ret
              refine ⟨ret_bool ?_, (by repeat (first | exact Below.refl _ _ | assumption | (with_reducible refine Below.drew ?_) | (with_reducible refine below_drewN ?_ _) | (with_reducible refine Below.alloc ?_ (by first | exact Nat.le_refl _ | assumption | (simp; done) | (simp; omega) | omega) _) | (with_reducible refine Below.setCell ?_ (by first | exact Nat.le_refl _ | assumption | (simp; done) | (simp; omega) | omega) _) | (with_reducible refine below_call ?_ (by assumption) (by first | exact Nat.le_refl _ | assumption | (simp; done) | (simp; omega) | omega)) | (with_reducible refine below_only ?_ (by assumption) (by first | exact Nat.le_refl _ | assumption | (simp; done) | (simp; omega) | omega) (by first | exact Nat.le_refl _ | assumption | (simp; done) | (simp; omega) | omega))))⟩
              unfold sameB
              rw [hq.out, HS.out, beq_ne HPQ.out]
              rfl
          · have hkn : k = n1 := by omega
            have HA : Hid ((x.at_ == y.at_) = true) := by
              unfold Hid
              rw [hq.out, hkn, drop_done N1.out K1.out]
            clear hq hkn
            go_wp2
            obtain ⟨wo, rfl⟩ : ∃ wo : World, wo = wr := ⟨_, rfl⟩
            clear z1 z2 z3 v1 v2 v3 hw1
            go_loopw [6] (fun t W => ∃ k : Nat, k ≤ n2 ∧ t = .int .i64 k ∧ Hid ((x.pages == y.pages) = (x.pages.drop k == y.pages.drop k)) ∧ Below W0.heap.size W0 W) (fun t _ => n2 - (intOf t).toNat)
            case atStart => exact ⟨0, Nat.zero_le _, rfl, by unfold Hid; simp, hB⟩
            case round =>
              obtain ⟨k, hk, rfl, hq, hB⟩ := hrel
              have hw1 := hB.size
              have z1 := (hB.cell (p := ⟨w.heap.size, 0, none⟩) hsz).trans x1
              have z2 := (hB.cell (p := ⟨w.heap.size, 1, none⟩) hsz).trans x2
              have z3 := (hB.cell (p := ⟨w.heap.size, 2, none⟩) hsz).trans x3
              have v1 := (hB.cell (p := ⟨w.heap.size + 1, 0, none⟩) hsy).trans y1
              have v2 := (hB.cell (p := ⟨w.heap.size + 1, 1, none⟩) hsy).trans y2
              have v3 := (hB.cell (p := ⟨w.heap.size + 1, 2, none⟩) hsy).trans y3
              by_cases hlt : k < n2
              · obtain ⟨bp, ofp, p, rfl, hbp, hx, hc⟩ := ints_at P2.out (by rw [N2.out]; exact hlt)
                obtain ⟨bq, ofq, q, rfl, hbq, hy, hd⟩ := ints_at Q2.out (by rw [K2.out]; exact hlt)
                have e0 := (hB.cell (p := ⟨bp, ofp + k, none⟩) hbp).trans hc
                have e1 := (hB.cell (p := ⟨bq, ofq + k, none⟩) hbq).trans hd
                have HS := Lib.hid (drop_beq hx hy)
                have r1 : (0 : Int) ≤ (k : Int) := by omega
                have r2 : (k : Int) < (n2 : Int) := by omega
                clear hx hy hc hd x1 x2 x3 y1 y2 y3
                by_cases hpq : p = q
                · have t4 : (p != q) = false := by simp [hpq]
                  have HPQ := Lib.hid hpq
                  clear hpq
                  go_wp2
                  go_quiet (fail)
                  go_wp2
                  go_roundw
                  case rel =>
                    refine ⟨k + 1, by omega, by go_num, ?_, (by repeat (first | exact Below.refl _ _ | assumption | (with_reducible refine Below.drew ?_) | (with_reducible refine below_drewN ?_ _) | (with_reducible refine Below.alloc ?_ (by first | exact Nat.le_refl _ | assumption | (simp; done) | (simp; omega) | omega) _) | (with_reducible refine Below.setCell ?_ (by first | exact Nat.le_refl _ | assumption | (simp; done) | (simp; omega) | omega) _) | (with_reducible refine below_call ?_ (by assumption) (by first | exact Nat.le_refl _ | assumption | (simp; done) | (simp; omega) | omega)) | (with_reducible refine below_only ?_ (by assumption) (by first | exact Nat.le_refl _ | assumption | (simp; done) | (simp; omega) | omega) (by first | exact Nat.le_refl _ | assumption | (simp; done) | (simp; omega) | omega))))⟩
                    unfold Hid
                    rw [hq.out, HS.out, beq_of HPQ.out]
                    rfl
                  case measure => simp [intOf]; omega
                · have t4 : (p != q) = true := by simp [hpq]
                  have HPQ := Lib.hid hpq
                  clear hpq
                  go_wp2
                  go_quiet (fail)
                  go_wp2
                  go_ret
                  refine ⟨ret_bool ?_, (by repeat (first | exact Below.refl _ _ | assumption | (with_reducible refine Below.drew ?_) | (with_reducible refine below_drewN ?_ _) | (with_reducible refine Below.alloc ?_ (by first | exact Nat.le_refl _ | assumption | (simp; done) | (simp; omega) | omega) _) | (with_reducible refine Below.setCell ?_ (by first | exact Nat.le_refl _ | assumption | (simp; done) | (simp; omega) | omega) _) | (with_reducible refine below_call ?_ (by assumption) (by first | exact Nat.le_refl _ | assumption | (simp; done) | (simp; omega) | omega)) | (with_reducible refine below_only ?_ (by assumption) (by first | exact Nat.le_refl _ | assumption | (simp; done) | (simp; omega) | omega) (by first | exact Nat.le_refl _ | assumption | (simp; done) | (simp; omega) | omega))))⟩
                  unfold sameB
                  rw [HA.out, hq.out, HS.out, beq_ne HPQ.out]
                  rfl
              · have hkn : k = n2 := by omega
                have HC : Hid ((x.pages == y.pages) = true) := by
                  unfold Hid
                  rw [hq.out, hkn, drop_done N2.out K2.out]
                clear hq hkn
                go_wp2
                obtain ⟨wp, rfl⟩ : ∃ wp : World, wp = wr := ⟨_, rfl⟩
                clear z1 z2 z3 v1 v2 v3 hw1
                go_loopw [7] (fun t W => ∃ k : Nat, k ≤ n3 ∧ t = .int .i64 k ∧ Hid ((x.ops == y.ops) = (x.ops.drop k == y.ops.drop k)) ∧ Below W0.heap.size W0 W) (fun t _ => n3 - (intOf t).toNat)
                case atStart => exact ⟨0, Nat.zero_le _, rfl, by unfold Hid; simp, hB⟩
                case round =>
                  obtain ⟨k, hk, rfl, hq, hB⟩ := hrel
                  have hw1 := hB.size
                  have z1 := (hB.cell (p := ⟨w.heap.size, 0, none⟩) hsz).trans x1
                  have z2 := (hB.cell (p := ⟨w.heap.size, 1, none⟩) hsz).trans x2
                  have z3 := (hB.cell (p := ⟨w.heap.size, 2, none⟩) hsz).trans x3
                  have v1 := (hB.cell (p := ⟨w.heap.size + 1, 0, none⟩) hsy).trans y1
                  have v2 := (hB.cell (p := ⟨w.heap.size + 1, 1, none⟩) hsy).trans y2
                  have v3 := (hB.cell (p := ⟨w.heap.size + 1, 2, none⟩) hsy).trans y3
                  by_cases hlt : k < n3
                  · obtain ⟨bp, ofp, p, rfl, hbp, hx, a0, a1, a2, a3, a4⟩ := ops_at P3.out (by rw [N3.out]; exact hlt)
                    obtain ⟨bq, ofq, q, rfl, hbq, hy, b0, b1, b2, b3, b4⟩ := ops_at Q3.out (by rw [K3.out]; exact hlt)
                    have e0 := (hB.cell (p := ⟨bp, ofp + k * 5, none⟩) hbp).trans a0
                    have f0 := (hB.cell (p := ⟨bq, ofq + k * 5, none⟩) hbq).trans b0
                    have e1 := (hB.cell (p := ⟨bp, ofp + k * 5 + 1, none⟩) hbp).trans a1
                    have f1 := (hB.cell (p := ⟨bq, ofq + k * 5 + 1, none⟩) hbq).trans b1
                    have e2 := (hB.cell (p := ⟨bp, ofp + k * 5 + 2, none⟩) hbp).trans a2
                    have f2 := (hB.cell (p := ⟨bq, ofq + k * 5 + 2, none⟩) hbq).trans b2
                    have e3 := (hB.cell (p := ⟨bp, ofp + k * 5 + 3, none⟩) hbp).trans a3
                    have f3 := (hB.cell (p := ⟨bq, ofq + k * 5 + 3, none⟩) hbq).trans b3
                    have e4 := (hB.cell (p := ⟨bp, ofp + k * 5 + 4, none⟩) hbp).trans a4
                    have f4 := (hB.cell (p := ⟨bq, ofq + k * 5 + 4, none⟩) hbq).trans b4
                    have HS := Lib.hid (drop_beq hx hy)
                    have r1 : (0 : Int) ≤ (k : Int) := by omega
                    have r2 : (k : Int) < (n3 : Int) := by omega
                    clear hx hy a0 a1 a2 a3 a4 b0 b1 b2 b3 b4 x1 x2 x3 y1 y2 y3
                    by_cases hpq : p = q
                    · have t4 := op_neq_same hpq
                      have HPQ := Lib.hid hpq
                      clear hpq
                      go_wp2
                      go_quiet (fail)
                      go_wp2
                      go_roundw
                      case rel =>
                        refine ⟨k + 1, by omega, by go_num, ?_, (by repeat (first | exact Below.refl _ _ | assumption | (with_reducible refine Below.drew ?_) | (with_reducible refine below_drewN ?_ _) | (with_reducible refine Below.alloc ?_ (by first | exact Nat.le_refl _ | assumption | (simp; done) | (simp; omega) | omega) _) | (with_reducible refine Below.setCell ?_ (by first | exact Nat.le_refl _ | assumption | (simp; done) | (simp; omega) | omega) _) | (with_reducible refine below_call ?_ (by assumption) (by first | exact Nat.le_refl _ | assumption | (simp; done) | (simp; omega) | omega)) | (with_reducible refine below_only ?_ (by assumption) (by first | exact Nat.le_refl _ | assumption | (simp; done) | (simp; omega) | omega) (by first | exact Nat.le_refl _ | assumption | (simp; done) | (simp; omega) | omega))))⟩
                        unfold Hid
                        rw [hq.out, HS.out, show (p == q) = true from by simp [HPQ.out]]
                        rfl
                      case measure => simp [intOf]; omega
                    · have t4 := op_neq_other hpq
                      have HPQ := Lib.hid hpq
                      clear hpq
                      go_wp2
                      go_quiet (fail)
                      go_wp2
                      go_ret
                      refine ⟨ret_bool ?_, (by repeat (first | exact Below.refl _ _ | assumption | (with_reducible refine Below.drew ?_) | (with_reducible refine below_drewN ?_ _) | (with_reducible refine Below.alloc ?_ (by first | exact Nat.le_refl _ | assumption | (simp; done) | (simp; omega) | omega) _) | (with_reducible refine Below.setCell ?_ (by first | exact Nat.le_refl _ | assumption | (simp; done) | (simp; omega) | omega) _) | (with_reducible refine below_call ?_ (by assumption) (by first | exact Nat.le_refl _ | assumption | (simp; done) | (simp; omega) | omega)) | (with_reducible refine below_only ?_ (by assumption) (by first | exact Nat.le_refl _ | assumption | (simp; done) | (simp; omega) | omega) (by first | exact Nat.le_refl _ | assumption | (simp; done) | (simp; omega) | omega))))⟩
                      unfold sameB
                      rw [HA.out, HC.out, hq.out, HS.out, show (p == q) = false from by simp [HPQ.out]]
                      rfl
                  · have hkn : k = n3 := by omega
                    have HE : Hid ((x.ops == y.ops) = true) := by
                      unfold Hid
                      rw [hq.out, hkn, drop_done N3.out K3.out]
                    clear hq hkn
                    go_wp2
                    go_ret
                    refine ⟨ret_bool ?_, (by repeat (first | exact Below.refl _ _ | assumption | (with_reducible refine Below.drew ?_) | (with_reducible refine below_drewN ?_ _) | (with_reducible refine Below.alloc ?_ (by first | exact Nat.le_refl _ | assumption | (simp; done) | (simp; omega) | omega) _) | (with_reducible refine Below.setCell ?_ (by first | exact Nat.le_refl _ | assumption | (simp; done) | (simp; omega) | omega) _) | (with_reducible refine below_call ?_ (by assumption) (by first | exact Nat.le_refl _ | assumption | (simp; done) | (simp; omega) | omega)) | (with_reducible refine below_only ?_ (by assumption) (by first | exact Nat.le_refl _ | assumption | (simp; done) | (simp; omega) | omega) (by first | exact Nat.le_refl _ | assumption | (simp; done) | (simp; omega) | omega))))⟩
                    unfold sameB
                    rw [HA.out, HC.out, HE.out]; rfl
      · have t3 : ((n3 : Int) != (k3 : Int)) = true := by simp; omega
        go_enter Try.func23, Try.ntmps23
        go_wp2
        go_ret
        refine ⟨ret_bool ?_, (by repeat (first | exact Below.refl _ _ | assumption | (with_reducible refine Below.drew ?_) | (with_reducible refine below_drewN ?_ _) | (with_reducible refine Below.alloc ?_ (by first | exact Nat.le_refl _ | assumption | (simp; done) | (simp; omega) | omega) _) | (with_reducible refine Below.setCell ?_ (by first | exact Nat.le_refl _ | assumption | (simp; done) | (simp; omega) | omega) _) | (with_reducible refine below_call ?_ (by assumption) (by first | exact Nat.le_refl _ | assumption | (simp; done) | (simp; omega) | omega)) | (with_reducible refine below_only ?_ (by assumption) (by first | exact Nat.le_refl _ | assumption | (simp; done) | (simp; omega) | omega) (by first | exact Nat.le_refl _ | assumption | (simp; done) | (simp; omega) | omega))))⟩
        unfold sameB
        rw [len_beq (l := x.ops) (m := y.ops) (by rw [N3.out, K3.out]; exact i3)]
        simp
    · have t2 : ((n2 : Int) != (k2 : Int)) = true := by simp; omega
      go_enter Try.func23, Try.ntmps23
      go_wp2
      go_ret
      refine ⟨ret_bool ?_, (by repeat (first | exact Below.refl _ _ | assumption | (with_reducible refine Below.drew ?_) | (with_reducible refine below_drewN ?_ _) | (with_reducible refine Below.alloc ?_ (by first | exact Nat.le_refl _ | assumption | (simp; done) | (simp; omega) | omega) _) | (with_reducible refine Below.setCell ?_ (by first | exact Nat.le_refl _ | assumption | (simp; done) | (simp; omega) | omega) _) | (with_reducible refine below_call ?_ (by assumption) (by first | exact Nat.le_refl _ | assumption | (simp; done) | (simp; omega) | omega)) | (with_reducible refine below_only ?_ (by assumption) (by first | exact Nat.le_refl _ | assumption | (simp; done) | (simp; omega) | omega) (by first | exact Nat.le_refl _ | assumption | (simp; done) | (simp; omega) | omega))))⟩
      unfold sameB
      rw [len_beq (l := x.pages) (m := y.pages) (by rw [N2.out, K2.out]; exact i2)]
      simp
  · have t1 : ((n1 : Int) != (k1 : Int)) = true := by simp; omega
    go_enter Try.func23, Try.ntmps23
    go_wp2
    go_ret
    refine ⟨ret_bool ?_, (by repeat (first | exact Below.refl _ _ | assumption | (with_reducible refine Below.drew ?_) | (with_reducible refine below_drewN ?_ _) | (with_reducible refine Below.alloc ?_ (by first | exact Nat.le_refl _ | assumption | (simp; done) | (simp; omega) | omega) _) | (with_reducible refine Below.setCell ?_ (by first | exact Nat.le_refl _ | assumption | (simp; done) | (simp; omega) | omega) _) | (with_reducible refine below_call ?_ (by assumption) (by first | exact Nat.le_refl _ | assumption | (simp; done) | (simp; omega) | omega)) | (with_reducible refine below_only ?_ (by assumption) (by first | exact Nat.le_refl _ | assumption | (simp; done) | (simp; omega) | omega) (by first | exact Nat.le_refl _ | assumption | (simp; done) | (simp; omega) | omega))))⟩
    unfold sameB
    rw [len_beq (l := x.at_) (m := y.at_) (by rw [N1.out, K1.out]; exact i1)]
    simp
end
end Go.Proofs.Ytmjfgnnefcimiaa
