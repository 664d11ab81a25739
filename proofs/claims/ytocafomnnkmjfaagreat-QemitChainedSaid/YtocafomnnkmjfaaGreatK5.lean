import Derived.Test.YtocafomnnkmjfaaGreatK3
set_option maxRecDepth 100000
set_option maxHeartbeats 1000000
namespace Go.Proofs.YtocafomnnkmjfaaGreat
open Go.RowKit
theorem zf4 {s s':Ck} {o:BOp} {last exit:Bool} (h:zf3 s o last exit=some s') (hw:s.written<268435456):s'.marks≤s.marks+1∧s'.written<268435456:=by
 unfold zf3 at h
 split at h
 ·rename_i hc
  simp only [Bool.and_eq_true] at hc;have hv:=ybl hc.1
  split at h
  ·split at h
   ·cases h;exact ⟨Nat.le_refl _,by simp⟩
   ·cases h
  ·split at h
   ·cases h
    refine ⟨by simp,?_⟩;show (if 20≤writes o then s.written|||2^(writes o).toNat else s.written)<268435456
    split
    ·exact Nat.or_lt_two_pow (n:=28) hw (Nat.pow_lt_pow_right zO zO)
    ·exact hw
   ·cases h
 ·cases h
def zy3 (l:List Int) (k:Nat):Option Int:=if k=0 then none else l[k-1]?
theorem zx7 {l:List Int} {k:Nat} {p:Int} (h:l[k]?=some p):
  zx6 (zy3 l k) (l.drop k)=(decide (0≤p∧p<4096)&&(match zy3 l k with|none=>true|some q=>decide (q<p))&&zx6 (zy3 l (k+1)) (l.drop (k+1))):=by
 have hk:k<l.length:=by
  rcases Nat.lt_or_ge k l.length with h1|h1
  ·exact h1
  ·rw [List.getElem?_eq_none h1] at h;cases h
 rw [List.drop_eq_getElem_cons hk]
 have e:l[k]=p:=by rw [List.getElem?_eq_getElem hk] at h;injection h
 rw [e]
 have e2:zy3 l (k+1)=some p:=by simp [zy3,h]
 rw [e2]
 rfl
theorem zpy {b:Blk} (h:zx6 none b.pages=false):zpu b=false:=by simp [zpu,h]
theorem zpx {b:Blk} (h:¬(1≤b.at_.length∧b.at_.length≤64∧1≤b.ops.length∧b.ops.length≤2000)):zpu b=false:=by
 rw [Bool.eq_false_iff];intro hh;simp only [zpu,Bool.and_eq_true,decide_eq_true_eq] at hh;omega
theorem zpw {b:Blk} {o:BOp} (hp:zx6 none b.pages=true) (h1:1≤b.at_.length) (h2:b.at_.length≤64) (_h3:1≤b.ops.length) (h4:b.ops.length≤2000) (h:b.ops[0]?=some o):zpu b=(o.code==20):=by
 unfold zpu;rw [hp]
 cases hb:b.ops with
 |nil=>rw [hb] at h;simp at h
 |cons x l=>
  rw [hb] at h _h3 h4;simp at h;subst h;simp at h4;simp [h1,h2];intro;omega
section
variable (A1 A2 A3:Option Addr) (c1 c2 c3:Nat) (b:Blk) (w:World)
theorem zpv (hb:b.ok) (h2:SlAt w w.heap.size A2 (b.pages.map (.int .i64))) (h3:OpsAt w w.heap.size A3 b.ops):
  Calls Tryz.prog 109 #[.agg #[.slice A1 b.at_.length c1,.slice A2 b.pages.length c2,.slice A3 b.ops.length c3]] w fun e w'=>e= .returned (.bool (zpu b))∧Below w.heap.size w w':=by
 have m1:=hb.lat
 have m2:=hb.lpages;have m3:=hb.lops
 obtain ⟨n1,hn1⟩:∃ n,b.at_.length=n:=⟨_,rfl⟩
 obtain ⟨n2,hn2⟩:∃ n,b.pages.length=n:=⟨_,rfl⟩
 obtain ⟨n3,hn3⟩:∃ n,b.ops.length=n:=⟨_,rfl⟩
 rw [hn1] at m1⊢;rw [hn2] at m2⊢;rw [hn3] at m3⊢;have N1:=Lib.hid hn1;have N2:=Lib.hid hn2;have N3:=Lib.hid hn3;clear hn1 hn2 hn3
 go_enter Tryz.func109,Tryz.ntmps109
 go_wp2
 go_loop [8] (fun i=>∃ k:Nat,k≤n2∧i= .int .i64 k∧Hid (zx6 none b.pages=zx6 (zy3 b.pages k) (b.pages.drop k))) (fun i=>n2-(intOf i).toNat)
 case atStart=>exact ⟨0,Nat.zero_le _,rfl,by unfold Hid;simp [zy3]⟩
 case round=>
  obtain ⟨k,hk,rfl,hq⟩:=hrel;by_cases hlt:k<n2
  ·obtain ⟨bb,off,p,rfl,hbb,hx,hc⟩:=zrc h2 (by rw [N2.out];exact hlt)
   have HX:=Lib.hid hx;have hbb1:=zts hbb;have HS:=Lib.hid (zx7 hx);by_cases hk0:k=0
   ·subst hk0
    have HP:Hid (zy3 b.pages 0=none):=rfl;simp only [Nat.add_zero] at hc;clear hx h2
    go_wp2
    ·have hv:p<0:=by assumption
     go_ret
     refine ⟨z1x (zpy ?_).symm,Ttb0⟩;rw [hq.out,HS.out];simp;intros;omega
    ·have hv:4096≤p:=by assumption
     go_ret
     refine ⟨z1x (zpy ?_).symm,Ttb0⟩;rw [hq.out,HS.out];simp;intros;omega
    ·have hv0:0≤p:=by omega
     have hv1:p<4096:=by omega
     go_round
     case rel=>
      refine ⟨1,by omega,by go_num,?_⟩;have a1:=hq.out;have a2:=HS.out;have a3:=HP.out;unfold Hid;rw [a1,a2,a3];simp [hv0,hv1]
     case measure=>simp [intOf];omega
   ·have hk1:0<k:=by omega
    obtain ⟨b2,off2,q,hA,hbq,hxq,hcq⟩:=zrc (k:=k-1) h2 (by rw [N2.out];omega);injection hA with hA;injection hA with e1 e2;subst e1;subst e2;have HP:Hid (zy3 b.pages k=some q):=(by unfold Hid zy3;rw [if_neg hk0];exact hxq);clear hx h2 hxq hk0;have g1:(0:Int)≤(k:Int)-1:=(by omega);have g2:(k:Int)-1<(n2:Int):=(by omega)
    have hcq':w.cell? ⟨bb,off+((k:Int)-1).toNat,none⟩=some (.int .i64 q):=by
     rw [show ((k:Int)-1).toNat=k-1 by omega];exact hcq
    go_wp2
    ·have hv:p<0:=by assumption
     go_ret
     refine ⟨z1x (zpy ?_).symm,Ttb0⟩;rw [hq.out,HS.out];simp;intros;omega
    ·have hv:4096≤p:=by assumption
     go_ret
     refine ⟨z1x (zpy ?_).symm,Ttb0⟩;rw [hq.out,HS.out];simp;intros;omega
    ·have hv:p≤q:=by assumption
     go_ret
     refine ⟨z1x (zpy ?_).symm,Ttb0⟩;rw [hq.out,HS.out,HP.out];simp;intros;omega
    ·have hv0:0≤p:=by omega
     have hv1:p<4096:=(by omega);have hv2:q<p:=(by omega)
     go_round
     case rel=>
      refine ⟨k+1,by omega,by go_num,?_⟩;have a1:=hq.out;have a2:=HS.out;have a3:=HP.out;unfold Hid;rw [a1,a2,a3];simp [hv0,hv1,hv2]
     case measure=>simp [intOf];omega
  ·have hp:Hid (zx6 none b.pages=true):=by
    unfold Hid;rw [hq.out,List.drop_eq_nil_of_le (by rw [N2.out];omega)]
    rfl
   clear hq;by_cases i1:(1:Int)≤(n1:Int)
   ·by_cases i2:(n1:Int)≤64
    ·by_cases i3:(1:Int)≤(n3:Int)
     ·by_cases i4:(n3:Int)≤2000
      ·obtain ⟨bb,off,o,rfl,hbb,hx,hc,-⟩:=zw7 (k:=0) h3 (by rw [N3.out];omega)
       simp only [Nat.zero_mul,Nat.add_zero] at hc;have hbb1:=zts hbb;have HX:=Lib.hid hx;have i3':0<n3:=(by omega);clear hx h3
       go_wp2
       all_goals go_ret
       all_goals exact ⟨z1x (zpw hp.out (by rw [N1.out];omega) (by rw [N1.out];omega) (by rw [N3.out];omega) (by rw [N3.out];omega) HX.out).symm,Ttb0⟩
      ·have d4:decide ((n3:Int)≤2000)=false:=by simpa using i4
       go_wp2
       all_goals go_ret
       all_goals exact ⟨z1x (zpx (by rw [N1.out,N3.out];omega)).symm,Ttb0⟩
     ·have d3:decide ((1:Int)≤(n3:Int))=false:=by simpa using i3
      go_wp2
      all_goals go_ret
      all_goals exact ⟨z1x (zpx (by rw [N1.out,N3.out];omega)).symm,Ttb0⟩
    ·have d2:decide ((n1:Int)≤64)=false:=by simpa using i2
     go_wp2
     all_goals go_ret
     all_goals exact ⟨z1x (zpx (by rw [N1.out,N3.out];omega)).symm,Ttb0⟩
   ·have d1:decide ((1:Int)≤(n1:Int))=false:=by simpa using i1
    go_wp2
    all_goals go_ret
    all_goals exact ⟨z1x (zpx (by rw [N1.out,N3.out];omega)).symm,Ttb0⟩
end
end Go.Proofs.YtocafomnnkmjfaaGreat
