import Derived.Test.YtocafomnnkmjfaaGreatK1
set_option maxRecDepth 100000
set_option maxHeartbeats 400000
namespace Go.Proofs.YtocafomnnkmjfaaGreat
open Go.RowKit
theorem znt (o:BOp) (w:World):
  Calls Tryz.prog 76 #[opV o] w fun e w'=>e= .returned (.bool (znn o))∧Below w.heap.size w w':=by
 unfold opV
 go_enter Tryz.func76,Tryz.ntmps76
 go_wp2_with (first|(go_at_call 107;refine (z44 _ _).mono ?_;rintro e w1 ⟨rfl,hb1⟩;obtain ⟨hc1,hf1⟩:=bcell hb1;have hz1:=hb1.size;try simp only [World.size_alloc] at hz1;have hy1_0:w.heap.size<w1.heap.size:=zO;have hc1_0:=fun o=>hc1 (w.heap.size) o Ttb3;have hf1_0:=fun o=>hf1 (w.heap.size) o Ttb3)|(go_at_call 134;refine (zl2 _ _ _).mono ?_;rintro e w' ⟨rfl,rfl⟩))
 all_goals go_ret
 all_goals exact ⟨z15 (by simp [znn, *]),Ttb0⟩
theorem zmp (l:List BOp):∀ k:Nat,-1≤zmn l k∧zmn l k≤k
 |0=>by unfold zmn;split<;>simp
 |k+1=>by
  unfold zmn;have:=zmp l k
  split
  ·omega
  ·omega
theorem zmr {l:List BOp} (h:(l[0]?.map (·.code))=some 20):∀ k:Nat,0≤zmn l k
 |0=>by unfold zmn;rw [if_pos h];omega
 |k+1=>by
  unfold zmn;have:=zmr h k
  split
  ·omega
  ·exact this
theorem zmo {l:List BOp} {k:Nat} {o:BOp} (h:l[k]?=some o) (hc:o.code=20):zmn l k=k:=by
 cases k<;>simp [zmn,h,hc]
theorem zmq {l:List BOp} {k:Nat} {o:BOp} (h:l[k]?=some o) (hc:o.code≠20):zmn l k=if k=0 then-1 else zmn l (k-1):=by
 cases k<;>simp [zmn,h,hc]
section
variable (A1 A2 A3:Option Addr) (n1 n2 n3 c1 c2 c3:Nat) (l:List BOp) (i:Nat) (w:World)
theorem zmu (h3:OpsAt w w.heap.size A3 l) (hl:l.length=n3) (hm:n3≤1000000) (hi:i<n3) (hz:(l[0]?.map (·.code))=some 20):
  Calls Tryz.prog 135 #[.agg #[.slice A1 n1 c1,.slice A2 n2 c2,.slice A3 n3 c3],.int .i64 (i:Int)] w fun e w'=>e= .returned (.int .i64 (zmn l i))∧Below w.heap.size w w':=by
 have HL:=Lib.hid hl;have HZ:=Lib.hid hz;clear hl hz
 go_enter Tryz.func135,Tryz.ntmps135
 go_wp2
 go_loop [1] (fun t=>∃ k:Nat,k<n3∧t= .int .i64 k∧Hid (zmn l i=zmn l k)) (fun t=>(intOf t).toNat)
 case atStart=>exact ⟨i,hi,rfl,rfl⟩
 case round=>
  obtain ⟨k,hk,rfl,hq⟩:=hrel;obtain ⟨b,off,o,rfl,hb,hx,hc,-⟩:=zxe (k:=k) h3 (by rw [HL.out];exact hk);have HX:=Lib.hid hx;have g1:(0:Int)≤(k:Int):=(by omega);have g2:(k:Int)<(n3:Int):=(by omega);clear hx h3;by_cases h20:o.code=20
  ·have e1:(o.code !=20)=false:=by simp [h20]
   have H20:=Lib.hid h20;clear h20
   go_wp2
   go_ret
   exact ⟨z16 (by rw [hq.out,zmo HX.out H20.out]),Ttb0⟩
  ·have e1:(o.code !=20)=true:=by simp [h20]
   have H20:=Lib.hid h20;clear h20
   have hk0:k≠0:=by
    rintro rfl;have:=HZ.out;rw [HX.out] at this;simp at this;exact H20.out this
   go_wp2
   go_round
   case rel=>
    refine ⟨k-1,by omega,by congr 1;omega,?_⟩;unfold Hid;rw [hq.out,zmq HX.out H20.out,if_neg hk0]
   case measure=>simp [intOf];omega
end
end Go.Proofs.YtocafomnnkmjfaaGreat
