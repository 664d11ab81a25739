import Derived.Test.YtocafomnnkmjfaaGreatK4
import Derived.Test.YtocafomnnkmjfaaGreatK5
set_option maxRecDepth 100000
set_option maxHeartbeats 1000000
namespace Go.Proofs.YtocafomnnkmjfaaGreat
open Go.RowKit
section
attribute [local irreducible] wpStill wpQuiet
theorem z4y {m:Nat} {l:List BOp} {k:Nat} {o:BOp} (h:l[k]?=some o):
  z4x m (l.drop k)=match z4z m o (l.drop (k+1)) with|some m'=>z4x m' (l.drop (k+1))|none=>none:=by
 have hk:k<l.length:=by
  rcases Nat.lt_or_ge k l.length with h1|h1
  ·exact h1
  ·rw [List.getElem?_eq_none h1] at h;cases h
 rw [List.drop_eq_getElem_cons hk]
 have e:l[k]=o:=by rw [List.getElem?_eq_getElem hk] at h;injection h
 rw [e]
 rfl
theorem z9l {b:Blk} (h:zpu b=false):z9k b=false:=by unfold z9k;rw [h];rfl
theorem z9n {b:Blk} (h:z4x 0 b.ops=none):z9k b=false:=by unfold z9k;rw [h];simp
theorem z9m {b:Blk} {k:Nat} {o:BOp} (hk:b.ops[k]?=some o) (h:zxc b.ops k o=false):z9k b=false:=by
 unfold z9k
 cases z4x 0 b.ops with
 |none=>simp
 |some m=>
  have:zxb b.ops=false:=by
   unfold zxb;rw [List.all_eq_false]
   have hl:k<b.ops.length:=by
    rcases Nat.lt_or_ge k b.ops.length with h1|h1
    ·exact h1
    ·rw [List.getElem?_eq_none h1] at hk;cases hk
   exact ⟨k,by simpa using hl,by rw [hk];simp [h]⟩
  simp [this]
section
variable (A1 A2 A3:Option Addr) (c1 c2 c3:Nat) (b:Blk) (w:World)
theorem z9s (hb:b.ok) (h2:SlAt w w.heap.size A2 (b.pages.map (.int .i64))) (h3:OpsAt w w.heap.size A3 b.ops):
  Calls Tryz.prog 26 #[.agg #[.slice A1 b.at_.length c1,.slice A2 b.pages.length c2,.slice A3 b.ops.length c3]] w fun e w'=>e= .returned (.bool (z9k b))∧Below w.heap.size w w':=by
 have m1:=hb.lat
 have m2:=hb.lpages;have m3:=hb.lops
 obtain ⟨n1,hn1⟩:∃ n,b.at_.length=n:=⟨_,rfl⟩
 obtain ⟨n2,hn2⟩:∃ n,b.pages.length=n:=⟨_,rfl⟩
 obtain ⟨n3,hn3⟩:∃ n,b.ops.length=n:=⟨_,rfl⟩
 rw [hn1] at m1⊢;rw [hn2] at m2⊢;rw [hn3] at m3⊢;have N1:=Lib.hid hn1;have N2:=Lib.hid hn2;have N3:=Lib.hid hn3;clear hn1 hn2 hn3;by_cases i1:(n1:Int)<1
 ·have k1:decide ((n1:Int)<1)=true:=by simpa using i1
  go_enter Tryz.func26,Tryz.ntmps26
  go_wp2
  go_ret
  exact ⟨z1x (z9l (zpx (by rw [N1.out,N3.out];omega))).symm,Ttb0⟩
 ·have i1':(1:Int)≤(n1:Int):=by omega
  by_cases i2:64<(n1:Int)
  ·have k1:decide ((n1:Int)<1)=false:=by simpa using i1
   go_enter Tryz.func26,Tryz.ntmps26
   go_wp2
   go_ret
   exact ⟨z1x (z9l (zpx (by rw [N1.out,N3.out];omega))).symm,Ttb0⟩
  ·by_cases i3:(n3:Int)<1
   ·have k1:decide ((n1:Int)<1)=false:=by simpa using i1
    have k2:decide (64<(n1:Int))=false:=by simpa using i2
    go_enter Tryz.func26,Tryz.ntmps26
    go_wp2
    go_ret
    exact ⟨z1x (z9l (zpx (by rw [N1.out,N3.out];omega))).symm,Ttb0⟩
   ·by_cases i4:2000<(n3:Int)
    ·have k1:decide ((n1:Int)<1)=false:=by simpa using i1
     have k2:decide (64<(n1:Int))=false:=(by simpa using i2);have k3:decide ((n3:Int)<1)=false:=(by simpa using i3)
     go_enter Tryz.func26,Tryz.ntmps26
     go_wp2
     go_ret
     exact ⟨z1x (z9l (zpx (by rw [N1.out,N3.out];omega))).symm,Ttb0⟩
    ·obtain ⟨bb,off,o0,rfl,hbb,hx0,d0,-⟩:=zw7 (k:=0) h3 (by rw [N3.out];omega)
     simp only [Nat.zero_mul,Nat.add_zero] at d0;have hbb1:=ltH hbb;have k1:decide ((n1:Int)<1)=false:=(by simpa using i1);have k2:decide (64<(n1:Int))=false:=(by simpa using i2);have k3:decide ((n3:Int)<1)=false:=(by simpa using i3);have k4:decide (2000<(n3:Int))=false:=(by simpa using i4);have k5:0<n3:=(by omega);have HX0:=Lib.hid hx0;have H2:=Lib.hid h2;have H3:=Lib.hid h3;clear hx0 h2 h3;by_cases h20:o0.code=20
     ·have e20:(o0.code !=20)=false:=by simp [h20]
      have H20:=Lib.hid h20;clear h20
      go_enter Tryz.func26,Tryz.ntmps26
      go_wp2
      refine yba fun W0 hc0 hf0 hs0 hb0=>?_;have hB0:Below w.heap.size w W0:=hb0 _ _ Ttb0;have hsz:w.heap.size<W0.heap.size:=(by rw [hs0];simp);have x0:W0.cell? ⟨w.heap.size,0,none⟩=some (.slice A1 n1 c1):=(by go_simp);have x1:W0.cell? ⟨w.heap.size,1,none⟩=some (.slice A2 n2 c2):=(by go_simp);have x2:W0.cell? ⟨w.heap.size,2,none⟩=some (.slice (some ⟨bb,off,none⟩) n3 c3):=(by go_simp);have HP2:=Lib.hid (SlAt.more (SlAt.below H2.out hB0 (Nat.le_refl _)) zO:SlAt W0 W0.heap.size A2 (b.pages.map (.int .i64)));have HP3:=Lib.hid (SlAt.more (SlAt.below H3.out hB0 (Nat.le_refl _)) zO:OpsAt W0 W0.heap.size (some ⟨bb,off,none⟩) b.ops);have hbW:bb<W0.heap.size:=(by omega);clear hc0 hf0 hs0 hb0 d0 hbb1
      go_loopw [3] (fun t W=>∃ k:Nat,k≤n2∧t= .int .i64 k∧Hid (zx6 none b.pages=zx6 (zy3 b.pages k) (b.pages.drop k))∧Below W0.heap.size W0 W) (fun t _=>n2-(intOf t).toNat)
      case atStart=>exact ⟨0,Nat.zero_le _,rfl,by unfold Hid;simp [zy3],Below.refl _ _⟩
      case round=>
       obtain ⟨k,hk,rfl,hq,hB⟩:=hrel;have hw1:=hB.size;have y0:=(hB.cell (p:=⟨w.heap.size,0,none⟩) hsz).trans x0;have y1:=(hB.cell (p:=⟨w.heap.size,1,none⟩) hsz).trans x1;have y2:=(hB.cell (p:=⟨w.heap.size,2,none⟩) hsz).trans x2;by_cases hlt:k<n2
       ·obtain ⟨bp,ofp,p,rfl,hbp,hx,hc⟩:=zrc HP2.out (by rw [N2.out];exact hlt)
        have e0:=(hB.cell (p:=⟨bp,ofp+k,none⟩) hbp).trans hc;have HX:=Lib.hid hx;have HS:=Lib.hid (zx7 hx);have g1:(0:Int)≤(k:Int):=(by omega);have g2:(k:Int)<(n2:Int):=(by omega);by_cases hk0:k=0
        ·subst hk0
         have HP:Hid (zy3 b.pages 0=none):=rfl;simp only [Nat.add_zero] at e0;have t0:decide ((0:Int)<((0:Nat):Int))=false:=(by decide);clear hx hc x0 x1 x2;by_cases c1':p<0
         ·have t1:decide (p<0)=true:=by simpa using c1'
          go_wp2
          go_quiet (fail)
          go_wp2
          go_ret
          refine ⟨z1x (z9l (zpy ?_)).symm,Ttb0⟩;rw [hq.out,HS.out];simp;intros;omega
         ·have t1:decide (p<0)=false:=by simpa using c1'
          have p0:0≤p:=(by omega);by_cases c2':4095<p
          ·have t2:decide (4095<p)=true:=by simpa using c2'
           go_wp2
           go_quiet (fail)
           go_wp2
           go_ret
           refine ⟨z1x (z9l (zpy ?_)).symm,Ttb0⟩;rw [hq.out,HS.out];simp;intros;omega
          ·have t2:decide (4095<p)=false:=by simpa using c2'
           have p1:p<4096:=by omega
           go_wp2
           go_quiet (fail)
           go_wp2
           go_roundw
           case rel=>
            refine ⟨0+1,by omega,by go_num,?_,Ttb0⟩;have a1:=hq.out;have a2:=HS.out;have a3:=HP.out;unfold Hid;rw [a1,a2,a3];simp [p0,p1]
           case measure=>simp [intOf];omega
        ·have hk1:0<k:=by omega
         obtain ⟨b2,off2,q,hA,hbq,hxq,hcq⟩:=zrc (k:=k-1) HP2.out (by rw [N2.out];omega);injection hA with hA;injection hA with e1 e2;subst e1;subst e2;have HP:Hid (zy3 b.pages k=some q):=(by unfold Hid zy3;rw [if_neg hk0];exact hxq);have t0:(0:Int)<(k:Int):=(by omega);have g3:(0:Int)≤(k:Int)-1:=(by omega);have g4:(k:Int)-1<(n2:Int):=(by omega);have s1:IntKind.i64.wrap ((k:Int)-1)=(k:Int)-1:=IntWalk.i64_in _ zO;have e0':wr.cell? ⟨bp,ofp+(k-1),none⟩=some (.int .i64 q):=(hB.cell (p:=⟨bp,ofp+(k-1),none⟩) hbp).trans hcq;have s2:((k:Int)-1).toNat=k-1:=(by omega);have g5:(1:Int)≤(k:Int):=(by omega);clear hx hc x0 x1 x2 hxq hcq hk0;by_cases c1':p<0
         ·have t1:decide (p<0)=true:=by simpa using c1'
          go_wp2
          go_quiet (fail)
          go_wp2
          go_ret
          refine ⟨z1x (z9l (zpy ?_)).symm,Ttb0⟩;rw [hq.out,HS.out];simp;intros;omega
         ·have t1:decide (p<0)=false:=by simpa using c1'
          have p0:0≤p:=(by omega);by_cases c2':4095<p
          ·have t2:decide (4095<p)=true:=by simpa using c2'
           go_wp2
           go_quiet (fail)
           go_wp2
           go_ret
           refine ⟨z1x (z9l (zpy ?_)).symm,Ttb0⟩;rw [hq.out,HS.out];simp;intros;omega
          ·have t2:decide (4095<p)=false:=by simpa using c2'
           have p1:p<4096:=(by omega);by_cases c3':p≤q
           ·have t3:decide (p≤q)=true:=by simpa using c3'
            go_wp2
            go_quiet (fail)
            go_wp2
            go_ret
            refine ⟨z1x (z9l (zpy ?_)).symm,Ttb0⟩;rw [hq.out,HS.out,HP.out];simp;intros;omega
           ·have t3:decide (p≤q)=false:=by simpa using c3'
            have p2:q<p:=by omega
            go_wp2
            go_quiet (fail)
            go_wp2
            go_roundw
            case rel=>
             refine ⟨k+1,by omega,by go_num,?_,Ttb0⟩;have a1:=hq.out;have a2:=HS.out;have a3:=HP.out;unfold Hid;rw [a1,a2,a3];simp [p0,p1,p2]
            case measure=>simp [intOf];omega
       ·have hkn:k=n2:=by omega
        have HHD:Hid (zpu b=true):=by
         have hp:zx6 none b.pages=true:=by
          rw [hq.out,List.drop_eq_nil_of_le (by rw [N2.out];omega)]
          rfl
         unfold Hid;rw [zpw hp (by rw [N1.out];omega) (by rw [N1.out];omega) (by rw [N3.out];omega) (by rw [N3.out];omega) HX0.out];rw [H20.out];rfl
        clear hq hkn
        go_wp2
        obtain ⟨wo,rfl⟩:∃ wo:World,wo=wr:=⟨_,rfl⟩
        go_loopw [4,6] (fun q t W=>∃ k m:Nat,k≤n3∧t= .int .i64 k∧q= .int .i64 m∧m≤k∧Hid (z4x 0 b.ops=z4x m (b.ops.drop k))∧Below W0.heap.size W0 W) (fun _ t _=>n3-(intOf t).toNat)
        case atStart=>exact ⟨0,0,Nat.zero_le _,rfl,rfl,Nat.le_refl _,by unfold Hid;simp,hB⟩
        clear y0 y1 y2 hB hw1
        case round=>
         obtain ⟨k,m,hk,rfl,rfl,hmk,hq,hB⟩:=hrel;have hw1:=hB.size;have y0:=(hB.cell (p:=⟨w.heap.size,0,none⟩) hsz).trans x0;have y1:=(hB.cell (p:=⟨w.heap.size,1,none⟩) hsz).trans x1;have y2:=(hB.cell (p:=⟨w.heap.size,2,none⟩) hsz).trans x2;by_cases hlt:k<n3
         ·obtain ⟨bb',off',o,hA,hbb',hx,d0,d1,d2,d3,d4⟩:=zw7 (k:=k) HP3.out (by rw [N3.out];omega)
          injection hA with hA;injection hA with q1 q2;subst q1;subst q2;have e0:=(hB.cell (p:=⟨bb,off+k*5,none⟩) hbW).trans d0;have e1:=(hB.cell (p:=⟨bb,off+k*5+1,none⟩) hbW).trans d1;have e2:=(hB.cell (p:=⟨bb,off+k*5+2,none⟩) hbW).trans d2;have e3:=(hB.cell (p:=⟨bb,off+k*5+3,none⟩) hbW).trans d3;have e4:=(hB.cell (p:=⟨bb,off+k*5+4,none⟩) hbW).trans d4;have HS:=Lib.hid (z4y (m:=m) hx);obtain ⟨on0,on1⟩:=(hb.ops o (List.mem_of_getElem? hx)).n;have g1:(0:Int)≤(k:Int):=(by omega);have g2:(k:Int)<(n3:Int):=(by omega);have hyw:w.heap.size<wr.heap.size:=(by omega);have hbr:bb<wr.heap.size:=(by omega);clear d0 d1 d2 d3 d4 x0 x1 x2
          cases hf:znt o
          ·clear hx
           go_wp2_with (first|(go_at_call 76;refine (znz o _).mono ?_;rintro e w3 ⟨rfl,hb3⟩;obtain ⟨hc3,hf3⟩:=bcell hb3;have hz3:=hb3.size;(try simp only [World.size_alloc] at hz3);have hy3_0:wr.heap.size<w3.heap.size:=zO;have hc3_0:=fun o=>hc3 (wr.heap.size) o Ttb2;have hf3_0:=fun o=>hf3 (wr.heap.size) o Ttb2;have hy3_1:w.heap.size<w3.heap.size:=zO;have hc3_1:=fun o=>hc3 (w.heap.size) o Ttb2;have hf3_1:=fun o=>hf3 (w.heap.size) o Ttb2;have hy3_2:bb<w3.heap.size:=zO;have hc3_2:=fun o=>hc3 (bb) o Ttb2;have hf3_2:=fun o=>hf3 (bb) o Ttb2)|(go_at_call 77;refine (zjw _ _).mono ?_;rintro e w' ⟨rfl,rfl⟩))
           go_ret
           refine ⟨z1x (z9n ?_).symm,Ttb0⟩;rw [hq.out,HS.out];rw [show z4z m o (b.ops.drop (k+1))=none from by simp [z4z,hf]]
          ·by_cases h20:o.code=20
           ·have e20':(o.code==20)=true:=by simp [h20]
            have hE:zju o.code=false:=(by rw [h20];rfl);have e23:(o.code==23)=false:=(by rw [h20];rfl);have H20':=Lib.hid h20;clear h20;by_cases hn:o.n=(m:Int)
            ·have hnm:(o.n !=(m:Int))=false:=by simp [hn]
             have HN:=Lib.hid hn;clear hn;by_cases hlast:k+1=n3
             ·have t1:((k:Int)==(n3:Int)-1)=true:=zdn zO
              have HNIL:Hid (b.ops.drop (k+1)=[]):=List.drop_eq_nil_of_le (by rw [N3.out];omega);clear hx hlast
              go_wp2_with (first|(go_at_call 76;refine (znz o _).mono ?_;rintro e w3 ⟨rfl,hb3⟩;obtain ⟨hc3,hf3⟩:=bcell hb3;have hz3:=hb3.size;(try simp only [World.size_alloc] at hz3);have hy3_0:wr.heap.size<w3.heap.size:=zO;have hc3_0:=fun o=>hc3 (wr.heap.size) o Ttb2;have hf3_0:=fun o=>hf3 (wr.heap.size) o Ttb2;have hy3_1:w.heap.size<w3.heap.size:=zO;have hc3_1:=fun o=>hc3 (w.heap.size) o Ttb2;have hf3_1:=fun o=>hf3 (w.heap.size) o Ttb2;have hy3_2:bb<w3.heap.size:=zO;have hc3_2:=fun o=>hc3 (bb) o Ttb2;have hf3_2:=fun o=>hf3 (bb) o Ttb2)|(go_at_call 77;refine (zjw _ _).mono ?_;rintro e w' ⟨rfl,rfl⟩))
              go_ret
              refine ⟨z1x (z9n ?_).symm,Ttb0⟩;rw [hq.out,HS.out];rw [show z4z m o (b.ops.drop (k+1))=none from by rw [HNIL.out];simp [z4z,hf,hE]]
             ·have t1:((k:Int)==(n3:Int)-1)=false:=zdm zO
              obtain ⟨o2,hx2⟩:∃ o2,b.ops[k+1]?=some o2:=⟨b.ops[k+1]'(by rw [N3.out];omega),List.getElem?_eq_getElem _⟩
              have HE2:=Lib.hid (zlm hx2);clear hx hx2
              go_wp2_with (first|(go_at_call 76;refine (znz o _).mono ?_;rintro e w3 ⟨rfl,hb3⟩;obtain ⟨hc3,hf3⟩:=bcell hb3;have hz3:=hb3.size;(try simp only [World.size_alloc] at hz3);have hy3_0:wr.heap.size<w3.heap.size:=zO;have hc3_0:=fun o=>hc3 (wr.heap.size) o Ttb2;have hf3_0:=fun o=>hf3 (wr.heap.size) o Ttb2;have hy3_1:w.heap.size<w3.heap.size:=zO;have hc3_1:=fun o=>hc3 (w.heap.size) o Ttb2;have hf3_1:=fun o=>hf3 (w.heap.size) o Ttb2;have hy3_2:bb<w3.heap.size:=zO;have hc3_2:=fun o=>hc3 (bb) o Ttb2;have hf3_2:=fun o=>hf3 (bb) o Ttb2)|(go_at_call 77;refine (zjw _ _).mono ?_;rintro e w' ⟨rfl,rfl⟩))
              go_roundw
              case rel=>
               refine ⟨k+1,m+1,by omega,by go_num,by go_num,by omega,?_,Ttb0⟩;unfold Hid;rw [hq.out,HS.out];rw [show z4z m o (b.ops.drop (k+1))=some (m+1) from by unfold z4z;rw [HE2.out.1,HE2.out.2,hf,hE,e23,e20',HN.out];simp]
              case measure=>simp [intOf];omega
            ·have hnm:(o.n !=(m:Int))=true:=by simp [hn]
             have HN:=Lib.hid hn;clear hn hx
             go_wp2_with (first|(go_at_call 76;refine (znz o _).mono ?_;rintro e w3 ⟨rfl,hb3⟩;obtain ⟨hc3,hf3⟩:=bcell hb3;have hz3:=hb3.size;(try simp only [World.size_alloc] at hz3);have hy3_0:wr.heap.size<w3.heap.size:=zO;have hc3_0:=fun o=>hc3 (wr.heap.size) o Ttb2;have hf3_0:=fun o=>hf3 (wr.heap.size) o Ttb2;have hy3_1:w.heap.size<w3.heap.size:=zO;have hc3_1:=fun o=>hc3 (w.heap.size) o Ttb2;have hf3_1:=fun o=>hf3 (w.heap.size) o Ttb2;have hy3_2:bb<w3.heap.size:=zO;have hc3_2:=fun o=>hc3 (bb) o Ttb2;have hf3_2:=fun o=>hf3 (bb) o Ttb2)|(go_at_call 77;refine (zjw _ _).mono ?_;rintro e w' ⟨rfl,rfl⟩))
             go_ret
             refine ⟨z1x (z9n ?_).symm,Ttb0⟩;rw [hq.out,HS.out];rw [show z4z m o (b.ops.drop (k+1))=none from by unfold z4z;rw [e20',zdm HN.out];simp]
           ·have e20':(o.code==20)=false:=by simp [h20]
            clear h20;by_cases hlast:k+1=n3
            ·have t1:((k:Int)==(n3:Int)-1)=true:=zdn zO
             have HNIL:Hid (b.ops.drop (k+1)=[]):=List.drop_eq_nil_of_le (by rw [N3.out];omega);clear hx hlast
             cases hE:zju o.code
             ·skip
              go_wp2_with (first|(go_at_call 76;refine (znz o _).mono ?_;rintro e w3 ⟨rfl,hb3⟩;obtain ⟨hc3,hf3⟩:=bcell hb3;have hz3:=hb3.size;(try simp only [World.size_alloc] at hz3);have hy3_0:wr.heap.size<w3.heap.size:=zO;have hc3_0:=fun o=>hc3 (wr.heap.size) o Ttb2;have hf3_0:=fun o=>hf3 (wr.heap.size) o Ttb2;have hy3_1:w.heap.size<w3.heap.size:=zO;have hc3_1:=fun o=>hc3 (w.heap.size) o Ttb2;have hf3_1:=fun o=>hf3 (w.heap.size) o Ttb2;have hy3_2:bb<w3.heap.size:=zO;have hc3_2:=fun o=>hc3 (bb) o Ttb2;have hf3_2:=fun o=>hf3 (bb) o Ttb2)|(go_at_call 77;refine (zjw _ _).mono ?_;rintro e w' ⟨rfl,rfl⟩))
              go_ret
              refine ⟨z1x (z9n ?_).symm,Ttb0⟩;rw [hq.out,HS.out];rw [show z4z m o (b.ops.drop (k+1))=none from by rw [HNIL.out];simp [z4z,hf,hE]]
             ·have e23:(o.code==23)=false:=by
               rw [Bool.eq_false_iff];intro h;simp at h;rw [h] at hE;simp [zju] at hE
              go_wp2_with (first|(go_at_call 76;refine (znz o _).mono ?_;rintro e w3 ⟨rfl,hb3⟩;obtain ⟨hc3,hf3⟩:=bcell hb3;have hz3:=hb3.size;(try simp only [World.size_alloc] at hz3);have hy3_0:wr.heap.size<w3.heap.size:=zO;have hc3_0:=fun o=>hc3 (wr.heap.size) o Ttb2;have hf3_0:=fun o=>hf3 (wr.heap.size) o Ttb2;have hy3_1:w.heap.size<w3.heap.size:=zO;have hc3_1:=fun o=>hc3 (w.heap.size) o Ttb2;have hf3_1:=fun o=>hf3 (w.heap.size) o Ttb2;have hy3_2:bb<w3.heap.size:=zO;have hc3_2:=fun o=>hc3 (bb) o Ttb2;have hf3_2:=fun o=>hf3 (bb) o Ttb2)|(go_at_call 77;refine (zjw _ _).mono ?_;rintro e w' ⟨rfl,rfl⟩))
              go_roundw
              case rel=>
               refine ⟨k+1,m,by omega,by go_num,by go_num,by omega,?_,Ttb0⟩;unfold Hid;rw [hq.out,HS.out];rw [show z4z m o (b.ops.drop (k+1))=some (m) from by rw [HNIL.out];unfold z4z;rw [hf,hE,e23,e20'];rfl]
              case measure=>simp [intOf];omega
            ·have t1:((k:Int)==(n3:Int)-1)=false:=zdm zO
             obtain ⟨bb',off',o2,hA,hbb2,hx2,f0,-⟩:=zw7 (k:=k+1) HP3.out (by rw [N3.out];omega);injection hA with hA;injection hA with q1 q2;subst q1;subst q2;have e5:=(hB.cell (p:=⟨bb,off+(k+1)*5,none⟩) hbW).trans f0;have HE2:=Lib.hid (zlm hx2);have g3:(k:Int)+1<(n3:Int):=(by omega);clear hx hx2 f0
             cases hE:zju o.code
             ·cases e23:(o.code==23)
              ·skip
               go_wp2_with (first|(go_at_call 76;refine (znz o _).mono ?_;rintro e w3 ⟨rfl,hb3⟩;obtain ⟨hc3,hf3⟩:=bcell hb3;have hz3:=hb3.size;(try simp only [World.size_alloc] at hz3);have hy3_0:wr.heap.size<w3.heap.size:=zO;have hc3_0:=fun o=>hc3 (wr.heap.size) o Ttb2;have hf3_0:=fun o=>hf3 (wr.heap.size) o Ttb2;have hy3_1:w.heap.size<w3.heap.size:=zO;have hc3_1:=fun o=>hc3 (w.heap.size) o Ttb2;have hf3_1:=fun o=>hf3 (w.heap.size) o Ttb2;have hy3_2:bb<w3.heap.size:=zO;have hc3_2:=fun o=>hc3 (bb) o Ttb2;have hf3_2:=fun o=>hf3 (bb) o Ttb2)|(go_at_call 77;refine (zjw _ _).mono ?_;rintro e w' ⟨rfl,rfl⟩))
               go_roundw
               case rel=>
                refine ⟨k+1,m,by omega,by go_num,by go_num,by omega,?_,Ttb0⟩;unfold Hid;rw [hq.out,HS.out];rw [show z4z m o (b.ops.drop (k+1))=some (m) from by unfold z4z;rw [HE2.out.1,HE2.out.2,hf,hE,e23,e20'];rfl]
               case measure=>simp [intOf];omega
              ·cases e24:(o2.code==24)
               ·have e24':(o2.code !=24)=true:=by simpa using e24
                go_wp2_with (first|(go_at_call 76;refine (znz o _).mono ?_;rintro e w3 ⟨rfl,hb3⟩;obtain ⟨hc3,hf3⟩:=bcell hb3;have hz3:=hb3.size;(try simp only [World.size_alloc] at hz3);have hy3_0:wr.heap.size<w3.heap.size:=zO;have hc3_0:=fun o=>hc3 (wr.heap.size) o Ttb2;have hf3_0:=fun o=>hf3 (wr.heap.size) o Ttb2;have hy3_1:w.heap.size<w3.heap.size:=zO;have hc3_1:=fun o=>hc3 (w.heap.size) o Ttb2;have hf3_1:=fun o=>hf3 (w.heap.size) o Ttb2;have hy3_2:bb<w3.heap.size:=zO;have hc3_2:=fun o=>hc3 (bb) o Ttb2;have hf3_2:=fun o=>hf3 (bb) o Ttb2)|(go_at_call 77;refine (zjw _ _).mono ?_;rintro e w' ⟨rfl,rfl⟩))
                go_ret
                refine ⟨z1x (z9n ?_).symm,Ttb0⟩;rw [hq.out,HS.out];rw [show z4z m o (b.ops.drop (k+1))=none from by unfold z4z;rw [HE2.out.1,HE2.out.2,hf,hE,e23,e24];rfl]
               ·have e24':(o2.code !=24)=false:=by simpa using e24
                go_wp2_with (first|(go_at_call 76;refine (znz o _).mono ?_;rintro e w3 ⟨rfl,hb3⟩;obtain ⟨hc3,hf3⟩:=bcell hb3;have hz3:=hb3.size;(try simp only [World.size_alloc] at hz3);have hy3_0:wr.heap.size<w3.heap.size:=zO;have hc3_0:=fun o=>hc3 (wr.heap.size) o Ttb2;have hf3_0:=fun o=>hf3 (wr.heap.size) o Ttb2;have hy3_1:w.heap.size<w3.heap.size:=zO;have hc3_1:=fun o=>hc3 (w.heap.size) o Ttb2;have hf3_1:=fun o=>hf3 (w.heap.size) o Ttb2;have hy3_2:bb<w3.heap.size:=zO;have hc3_2:=fun o=>hc3 (bb) o Ttb2;have hf3_2:=fun o=>hf3 (bb) o Ttb2)|(go_at_call 77;refine (zjw _ _).mono ?_;rintro e w' ⟨rfl,rfl⟩))
                go_roundw
                case rel=>
                 refine ⟨k+1,m,by omega,by go_num,by go_num,by omega,?_,Ttb0⟩;unfold Hid;rw [hq.out,HS.out];rw [show z4z m o (b.ops.drop (k+1))=some (m) from by unfold z4z;rw [HE2.out.1,HE2.out.2,hf,hE,e23,e24,e20'];rfl]
                case measure=>simp [intOf];omega
             ·skip
              go_wp2_with (first|(go_at_call 76;refine (znz o _).mono ?_;rintro e w3 ⟨rfl,hb3⟩;obtain ⟨hc3,hf3⟩:=bcell hb3;have hz3:=hb3.size;(try simp only [World.size_alloc] at hz3);have hy3_0:wr.heap.size<w3.heap.size:=zO;have hc3_0:=fun o=>hc3 (wr.heap.size) o Ttb2;have hf3_0:=fun o=>hf3 (wr.heap.size) o Ttb2;have hy3_1:w.heap.size<w3.heap.size:=zO;have hc3_1:=fun o=>hc3 (w.heap.size) o Ttb2;have hf3_1:=fun o=>hf3 (w.heap.size) o Ttb2;have hy3_2:bb<w3.heap.size:=zO;have hc3_2:=fun o=>hc3 (bb) o Ttb2;have hf3_2:=fun o=>hf3 (bb) o Ttb2)|(go_at_call 77;refine (zjw _ _).mono ?_;rintro e w' ⟨rfl,rfl⟩))
              go_ret
              refine ⟨z1x (z9n ?_).symm,Ttb0⟩;rw [hq.out,HS.out];rw [show z4z m o (b.ops.drop (k+1))=none from by unfold z4z;rw [HE2.out.2,hf,hE];rfl]
         ·have hkn:k=n3:=by omega
          have HM:Hid (z4x 0 b.ops=some m):=by
           unfold Hid;rw [hq.out,List.drop_eq_nil_of_le (by rw [N3.out];omega)]
           rfl
          clear hq
          go_wp2
          obtain ⟨wo2,rfl⟩:∃ wo:World,wo=wr:=⟨_,rfl⟩
          go_loopw [10] (fun t W=>∃ k:Nat,k≤n3∧t= .int .i64 k∧Hid (∀ j o,j<k→b.ops[j]?=some o→zxc b.ops j o=true)∧Below W0.heap.size W0 W) (fun t _=>n3-(intOf t).toNat)
          case atStart=>exact ⟨0,Nat.zero_le _,rfl,by unfold Hid;intro j o hj;omega,hB⟩
          clear y0 y1 y2 hB hw1 hkn
          case round=>
           obtain ⟨k,hk,rfl,hq,hB⟩:=hrel;have hw1:=hB.size;have y0:=(hB.cell (p:=⟨w.heap.size,0,none⟩) hsz).trans x0;have y1:=(hB.cell (p:=⟨w.heap.size,1,none⟩) hsz).trans x1;have y2:=(hB.cell (p:=⟨w.heap.size,2,none⟩) hsz).trans x2;by_cases hlt:k<n3
           ·obtain ⟨o,hx⟩:∃ o,b.ops[k]?=some o:=⟨b.ops[k]'(by rw [N3.out];omega),List.getElem?_eq_getElem _⟩
            have HORD:=Lib.hid (fun W (H:OpsAt W W.heap.size (some ⟨bb,off,none⟩) b.ops)=>zxe A1 A2 (some ⟨bb,off,none⟩) n1 n2 n3 c1 c2 c3 b.ops k o W H N3.out m3 hx (by rw [HX0.out];simp [H20.out]));have HX:=Lib.hid hx;have HOW:=Lib.hid (SlAt.more (SlAt.below HP3.out hB (Nat.le_refl _)) zO:OpsAt wr wr.heap.size (some ⟨bb,off,none⟩) b.ops);clear hx x0 x1 x2
            cases ho:zxc b.ops k o
            ·go_wp2_with (go_at_call 78;refine (HORD.out _ HOW.out).mono ?_;rintro e w5 ⟨rfl,hb5⟩;obtain ⟨hc5,hf5⟩:=bcell hb5;have hz5:=hb5.size;(try simp only [World.size_alloc,World.size_setCell,World.heap_drewN,World.size_drew] at hz5);have hy5_0:w.heap.size<w5.heap.size:=zO;have hc5_0:=fun o=>hc5 (w.heap.size) o Ttb2;have hf5_0:=fun o=>hf5 (w.heap.size) o Ttb2)
             go_ret
             exact ⟨z1x (z9m HX.out ho).symm,Ttb0⟩
            ·go_wp2_with (go_at_call 78;refine (HORD.out _ HOW.out).mono ?_;rintro e w5 ⟨rfl,hb5⟩;obtain ⟨hc5,hf5⟩:=bcell hb5;have hz5:=hb5.size;(try simp only [World.size_alloc,World.size_setCell,World.heap_drewN,World.size_drew] at hz5);have hy5_0:w.heap.size<w5.heap.size:=zO;have hc5_0:=fun o=>hc5 (w.heap.size) o Ttb2;have hf5_0:=fun o=>hf5 (w.heap.size) o Ttb2)
             go_roundw
             case rel=>
              refine ⟨k+1,by omega,by go_num,?_,Ttb0⟩;have hqo:=hq.out;have hxo:=HX.out;unfold Hid;intro j o' hj hjo;by_cases hjk:j=k
              ·subst hjk
               rw [hxo] at hjo;injection hjo with hjo;subst hjo;exact ho
              ·exact hqo j o' zO hjo
             case measure=>simp [intOf];omega
           ·have hall:Hid (zxb b.ops=true):=by
             unfold Hid zxb;rw [List.all_eq_true];intro j hj;rw [List.mem_range] at hj;have hjx:b.ops[j]?=some (b.ops[j]'hj):=List.getElem?_eq_getElem hj;rw [hjx];exact hq.out j _ (by rw [N3.out] at hj;omega) hjx
            have hfin:Hid (z9k b=(m==b.at_.length)):=by
             unfold Hid z9k;rw [HHD.out,HM.out,hall.out]
             rfl
            clear hq
            go_wp2
            go_ret
            refine ⟨z1x ?_,Ttb0⟩;rw [hfin.out,N1.out];rw [Bool.eq_iff_iff];simp
            try omega
     ·have e20:(o0.code !=20)=true:=by simp [h20]
      clear h20
      go_enter Tryz.func26,Tryz.ntmps26
      go_wp2
      go_ret
      refine ⟨z1x (z9l ?_).symm,Ttb0⟩
      cases hp:zx6 none b.pages
      ·exact zpy hp
      ·rw [zpw hp (by rw [N1.out];omega) (by rw [N1.out];omega) (by rw [N3.out];omega) (by rw [N3.out];omega) HX0.out]
       simpa using e20
end
end
end Go.Proofs.YtocafomnnkmjfaaGreat
