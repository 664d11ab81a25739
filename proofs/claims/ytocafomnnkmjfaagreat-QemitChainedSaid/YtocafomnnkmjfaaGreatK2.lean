import Derived.Test.YtocafomnnkmjfaaGreatK1
set_option maxRecDepth 100000
set_option maxHeartbeats 400000
namespace Go.Proofs.YtocafomnnkmjfaaGreat
open Go.RowKit
theorem znz (o:BOp) (w:World):
  Calls Tryz.prog 76 #[opV o] w fun e w'=>e= .returned (.bool (znt o))∧Below w.heap.size w w':=by
 unfold opV
 go_enter Tryz.func76,Tryz.ntmps76
 go_wp2_with (first|(go_at_call 107;refine (z4w _ _).mono ?_;rintro e w1 ⟨rfl,hb1⟩;obtain ⟨hc1,hf1⟩:=bcell hb1;have hz1:=hb1.size;try simp only [World.size_alloc] at hz1;have hy1_0:w.heap.size<w1.heap.size:=zO;have hc1_0:=fun o=>hc1 (w.heap.size) o Ttb2;have hf1_0:=fun o=>hf1 (w.heap.size) o Ttb2)|(go_at_call 134;refine (zl6 _ _ _).mono ?_;rintro e w' ⟨rfl,rfl⟩))
 all_goals go_ret
 all_goals exact ⟨z1x (by simp [znt, *]),Ttb0⟩
theorem zmv (l:List BOp):∀ k:Nat,-1≤zmt l k∧zmt l k≤k
 |0=>by unfold zmt;split<;>simp
 |k+1=>by
  unfold zmt;have:=zmv l k
  split
  ·omega
  ·omega
theorem zmx {l:List BOp} (h:(l[0]?.map (·.code))=some 20):∀ k:Nat,0≤zmt l k
 |0=>by unfold zmt;rw [if_pos h];omega
 |k+1=>by
  unfold zmt;have:=zmx h k
  split
  ·omega
  ·exact this
theorem zmu {l:List BOp} {k:Nat} {o:BOp} (h:l[k]?=some o) (hc:o.code=20):zmt l k=k:=by
 cases k<;>simp [zmt,h,hc]
theorem zmw {l:List BOp} {k:Nat} {o:BOp} (h:l[k]?=some o) (hc:o.code≠20):zmt l k=if k=0 then-1 else zmt l (k-1):=by
 cases k<;>simp [zmt,h,hc]
section
variable (A1 A2 A3:Option Addr) (n1 n2 n3 c1 c2 c3:Nat) (l:List BOp) (i:Nat) (w:World)
theorem zm0 (h3:OpsAt w w.heap.size A3 l) (hl:l.length=n3) (hm:n3≤1000000) (hi:i<n3) (hz:(l[0]?.map (·.code))=some 20):
  Calls Tryz.prog 135 #[.agg #[.slice A1 n1 c1,.slice A2 n2 c2,.slice A3 n3 c3],.int .i64 (i:Int)] w fun e w'=>e= .returned (.int .i64 (zmt l i))∧Below w.heap.size w w':=by
 have HL:=Lib.hid hl;have HZ:=Lib.hid hz;clear hl hz
 go_enter Tryz.func135,Tryz.ntmps135
 go_wp2
 go_loop [1] (fun t=>∃ k:Nat,k<n3∧t= .int .i64 k∧Hid (zmt l i=zmt l k)) (fun t=>(intOf t).toNat)
 case atStart=>exact ⟨i,hi,rfl,rfl⟩
 case round=>
  obtain ⟨k,hk,rfl,hq⟩:=hrel;obtain ⟨b,off,o,rfl,hb,hx,hc,-⟩:=zw7 (k:=k) h3 (by rw [HL.out];exact hk);have HX:=Lib.hid hx;have g1:(0:Int)≤(k:Int):=(by omega);have g2:(k:Int)<(n3:Int):=(by omega);clear hx h3;by_cases h20:o.code=20
  ·have e1:(o.code !=20)=false:=by simp [h20]
   have H20:=Lib.hid h20;clear h20
   go_wp2
   go_ret
   exact ⟨z1y (by rw [hq.out,zmu HX.out H20.out]),Ttb0⟩
  ·have e1:(o.code !=20)=true:=by simp [h20]
   have H20:=Lib.hid h20;clear h20
   have hk0:k≠0:=by
    rintro rfl;have:=HZ.out;rw [HX.out] at this;simp at this;exact H20.out this
   go_wp2
   go_round
   case rel=>
    refine ⟨k-1,by omega,by congr 1;omega,?_⟩;unfold Hid;rw [hq.out,zmw HX.out H20.out,if_neg hk0]
   case measure=>simp [intOf];omega
end
end Go.Proofs.YtocafomnnkmjfaaGreat
