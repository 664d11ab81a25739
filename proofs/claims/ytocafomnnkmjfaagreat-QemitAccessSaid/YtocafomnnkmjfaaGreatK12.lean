import Derived.Test.YtocafomnnkmjfaaGreatK10
set_option maxRecDepth 100000
set_option maxHeartbeats 2000000
namespace Go.Proofs.YtocafomnnkmjfaaGreat
open Go.RowKit
section
theorem zf9 {s:Ck} {l:List BOp} {k:Nat} {o:BOp} (h:l[k]?=some o):
  zf8 s (l.drop k)=match zf1 s o (l.drop (k+1)).isEmpty (zlh (l.drop (k+1))) with|some s'=>zf8 s' (l.drop (k+1))|none=>none:=by
 have hk:k<l.length:=by
  rcases Nat.lt_or_ge k l.length with h1|h1
  ·exact h1
  ·rw [List.getElem?_eq_none h1] at h;cases h
 rw [List.drop_eq_getElem_cons hk]
 have e:l[k]=o:=by rw [List.getElem?_eq_getElem hk] at h;injection h
 rw [e]
 rfl
attribute [local irreducible] wpStill
section
variable (A1 A2 A3:Option Addr) (c1 c2 c3:Nat) (b:Blk) (w:World)
theorem z9x (hb:b.ok) (h2:SlAt w w.heap.size A2 (b.pages.map (.int .i64))) (h3:OpsAt w w.heap.size A3 b.ops):
  Calls Tryz.prog 66 #[.agg #[.slice A1 b.at_.length c1,.slice A2 b.pages.length c2,.slice A3 b.ops.length c3]] w fun e w'=>e= .returned (.bool (z9o b))∧Below w.heap.size w w':=by
 have hh:=fun W H2 H3=>zpp A1 A2 A3 c1 c2 c3 b W hb H2 H3
 have m1:=hb.lat
 have m2:=hb.lpages;have m3:=hb.lops
 obtain ⟨n1,hn1⟩:∃ n,b.at_.length=n:=⟨_,rfl⟩
 obtain ⟨n2,hn2⟩:∃ n,b.pages.length=n:=⟨_,rfl⟩
 obtain ⟨n3,hn3⟩:∃ n,b.ops.length=n:=⟨_,rfl⟩
 rw [hn1] at m1 hh⊢;rw [hn2] at m2 hh⊢;rw [hn3] at m3 hh⊢;have HH:=Lib.hid hh;have N1:=Lib.hid hn1;have N2:=Lib.hid hn2;have N3:=Lib.hid hn3;clear hn1 hn2 hn3 hh;have H2:=Lib.hid h2;have H3:=Lib.hid h3;clear h2 h3
 cases hhd:zpo b
 ·have hv:Hid (z9o b=false):=by unfold Hid z9o;rw [hhd];rfl
  go_enter Tryz.func66,Tryz.ntmps66
  go_wp2_with (go_at_call 109;refine (HH.out _ (H2.out.alloc (Nat.le_refl _) _ |>.more zS) (SlAt.more (SlAt.alloc H3.out (Nat.le_refl _) _) zS)).mono ?_;rintro e w1 ⟨rfl,hb1⟩;obtain ⟨hc1,hf1⟩:=bcell hb1;have hz1:=hb1.size;try simp only [World.size_alloc] at hz1;have hy1_0:w.heap.size<w1.heap.size:=zO;have hc1_0:=fun o=>hc1 (w.heap.size) o Ttb3;have hf1_0:=fun o=>hf1 (w.heap.size) o Ttb3)
  go_ret
  exact ⟨z15 hv.out.symm,Ttb0⟩
 ·have hv:Hid (z9o b=(match zf8 ⟨0,0,false⟩ b.ops with|some s=>s.marks==b.at_.length|none=>false)):=by unfold Hid z9o;rw [hhd];rfl
  go_enter Tryz.func66,Tryz.ntmps66
  go_wp2_with (go_at_call 109;refine (HH.out _ (H2.out.alloc (Nat.le_refl _) _ |>.more zS) (SlAt.more (SlAt.alloc H3.out (Nat.le_refl _) _) zS)).mono ?_;rintro e w1 ⟨rfl,hb1⟩;obtain ⟨hc1,hf1⟩:=bcell hb1;have hz1:=hb1.size;try simp only [World.size_alloc] at hz1;have hy1_0:w.heap.size<w1.heap.size:=zO;have hc1_0:=fun o=>hc1 (w.heap.size) o Ttb3;have hf1_0:=fun o=>hf1 (w.heap.size) o Ttb3)
  refine ybk fun W0 hc0 hf0 hs0 hb0=>?_;have hB0:Below w.heap.size w W0:=hb0 _ _ Ttb0;have hg0:Has W0 w1.heap.size (zf7 ⟨0,0,false⟩):=has3 (by go_simp) (by go_simp) (by go_simp) (by go_simp) (by go_simp) (by go_simp);have hs0':W0.heap.size=w1.heap.size+1:=(by rw [hs0];simp);have HS0:=Lib.hid hs0';clear hs0 hs0' hb0 hf0;have x0:W0.cell? ⟨w.heap.size,0,none⟩=some (.slice A1 n1 c1):=(by go_simp);have x1:W0.cell? ⟨w.heap.size,1,none⟩=some (.slice A2 n2 c2):=(by go_simp);have x2:W0.cell? ⟨w.heap.size,2,none⟩=some (.slice A3 n3 c3):=(by go_simp);have h30:OpsAt W0 w.heap.size A3 b.ops:=SlAt.below H3.out hB0 (Nat.le_refl _);clear hc0 hc1 hf1 hc1_0 hf1_0
  obtain ⟨g,hg⟩:∃ g,w1.heap.size=g:=⟨_,rfl⟩
  rw [hg] at hg0 HS0 hy1_0⊢;have HG:=Lib.hid hg;clear hg hz1
  go_loopw [15] (fun i W=>∃ (k:Nat) (s:Ck),k≤n3∧i= .int .i64 k∧s.marks≤k∧s.written<268435456∧Hid (zf8 ⟨0,0,false⟩ b.ops=zf8 s (b.ops.drop k))∧Has W g (zf7 s)∧Below g W0 W) (fun i _=>n3-(intOf i).toNat)
  case atStart=>exact ⟨0,⟨0,0,false⟩,Nat.zero_le _,rfl,Nat.le_refl _,by decide,by unfold Hid;simp,hg0,Below.refl _ _⟩
  case round=>
   obtain ⟨k,s,hk,rfl,hsm,hsw,hrun,hHas,hB⟩:=hrel;have hgW:g<wr.heap.size:=hHas.lt;have hyb:w.heap.size<wr.heap.size:=(by omega);have y0:wr.cell? ⟨w.heap.size,0,none⟩=some (.slice A1 n1 c1):=(hB.cell (p:=⟨_,0,none⟩) hy1_0).trans x0;have y2:wr.cell? ⟨w.heap.size,2,none⟩=some (.slice A3 n3 c3):=(hB.cell (p:=⟨_,2,none⟩) hy1_0).trans x2;by_cases hlt:k<n3
   ·obtain ⟨bb,off,o,rfl,hbb,hx,d0,d1,d2,d3,d4⟩:=zxe (k:=k) h30 (by rw [N3.out];exact hlt)
    have hbbg:bb<g:=(by omega);have hbbW:bb<wr.heap.size:=(by omega);have e0:=(hB.cell (p:=⟨bb,off+k*5,none⟩) hbbg).trans d0;have e1:=(hB.cell (p:=⟨bb,off+k*5+1,none⟩) hbbg).trans d1;have e2:=(hB.cell (p:=⟨bb,off+k*5+2,none⟩) hbbg).trans d2;have e3:=(hB.cell (p:=⟨bb,off+k*5+3,none⟩) hbbg).trans d3;have e4:=(hB.cell (p:=⟨bb,off+k*5+4,none⟩) hbbg).trans d4;have HAT:=Lib.hid (zf9 (s:=s) hx);by_cases hlast:k+1=n3
    ·have t1:((k:Int)==(n3:Int)-1)=true:=zdn zO
     have hnil:b.ops.drop (k+1)=[]:=List.drop_eq_nil_of_le (by rw [N3.out];omega);clear d0 d1 d2 d3 d4 hx h30 x0 x1 x2;have HNX:=Lib.hid (fun W hW=>zuz g s o true false W hW zO hsw);have hee:=HAT.out;rw [hnil] at hee;simp only [List.isEmpty_nil,zlh] at hee;rw [← hnil] at hee;clear hnil
     cases hr:zf1 s o true false
     ·rw [hr] at hee
      have HR:=Lib.hid hr;have HEE:=Lib.hid hee;clear hr hee
      go_wp2
      (refine ybj 15 zK zK ?_;simp only [List.take_succ_cons,List.take_zero,List.drop_succ_cons,List.drop_zero];(iterate 6 (still_step));(iterate 8 (apply ybe;kernel_rfl;simp only [Act.put,List.setIfInBounds_toArray,List.set_cons_succ,List.set_cons_zero]));(iterate 1 (still_step));refine wpStill_nil ?_)
      go_wp2_with fail
      refine (HNX.out _ (by repeat (first|assumption|(with_reducible refine Has.drew ?_)|(with_reducible refine Has.drewN ?_ _)|(with_reducible refine Has.alloc ?_ _ (by first|assumption|(simp;done)|(simp;omega)|omega))|(with_reducible refine Has.setFar ?_ (by first|assumption|(simp;done)|(simp;omega)|omega) _)))).mono ?_;rw [HR.out];rintro e w2 ⟨rfl,hb2,-⟩
      go_wp2
      go_ret
      refine ⟨z15 ?_,Ttb0⟩;rw [hv.out,hrun.out,HEE.out]
      try rfl
     ·rename_i s'
      rw [hr] at hee;have HR:=Lib.hid hr;have HEE:=Lib.hid hee;clear hr hee
      go_wp2
      (refine ybj 15 zK zK ?_;simp only [List.take_succ_cons,List.take_zero,List.drop_succ_cons,List.drop_zero];(iterate 6 (still_step));(iterate 8 (apply ybe;kernel_rfl;simp only [Act.put,List.setIfInBounds_toArray,List.set_cons_succ,List.set_cons_zero]));(iterate 1 (still_step));refine wpStill_nil ?_)
      go_wp2_with fail
      refine (HNX.out _ (by repeat (first|assumption|(with_reducible refine Has.drew ?_)|(with_reducible refine Has.drewN ?_ _)|(with_reducible refine Has.alloc ?_ _ (by first|assumption|(simp;done)|(simp;omega)|omega))|(with_reducible refine Has.setFar ?_ (by first|assumption|(simp;done)|(simp;omega)|omega) _)))).mono ?_;rw [HR.out];rintro e w2 ⟨rfl,hb2,hs2⟩;have hs3:=hs2 s' rfl;clear hs2
      go_wp2
      go_roundw
      case rel=>
       have hbd:=zf2 HR.out hsw;exact ⟨k+1,s',by omega,by go_num,by omega,hbd.2,(by unfold Hid;rw [hrun.out,HEE.out]),hs3,Ttb0⟩
      case measure=>simp [intOf];omega
    ·obtain ⟨bb',off',o2,hA,hbb',hx',d0',-⟩:=zxe (k:=k+1) h30 (by rw [N3.out];omega)
     injection hA with hA;injection hA with q1 q2;subst q1;subst q2;have e0':=(hB.cell (p:=⟨bb,off+(k+1)*5,none⟩) hbbg).trans d0';have HE:=zli hx';have t1:((k:Int)==(n3:Int)-1)=false:=zdm zO;clear d0 d1 d2 d3 d4 d0' hx hx' h30 x0 x1 x2;have b1:(0:Int)≤(k:Int)+1:=(by omega);have b2:(k:Int)+1<(n3:Int):=(by omega);have s1:IntKind.i64.wrap ((k:Int)+1)=(k:Int)+1:=IntWalk.i64_in _ zO;have s2:((k:Int)+1).toNat=k+1:=(by omega);have S1:=Lib.hid s1;have S2:=Lib.hid s2;clear s1 s2;have HNX:=Lib.hid (fun W hW=>zuz g s o false (o2.code==24) W hW zO hsw);have hee:=HAT.out;rw [HE.1,HE.2] at hee;clear HE
     cases hr:zf1 s o false (o2.code==24)
     ·rw [hr] at hee
      have HR:=Lib.hid hr;have HEE:=Lib.hid hee;clear hr hee
      go_wp2
      have s1:=S1.out;have s2:=S2.out
      (refine ybj 15 zK zK ?_;simp only [List.take_succ_cons,List.take_zero,List.drop_succ_cons,List.drop_zero];(repeat still_step);refine wpStill_nil ?_)
      clear s1 s2
      go_wp2_with fail
      refine (HNX.out _ (by repeat (first|assumption|(with_reducible refine Has.drew ?_)|(with_reducible refine Has.drewN ?_ _)|(with_reducible refine Has.alloc ?_ _ (by first|assumption|(simp;done)|(simp;omega)|omega))|(with_reducible refine Has.setFar ?_ (by first|assumption|(simp;done)|(simp;omega)|omega) _)))).mono ?_;rw [HR.out];rintro e w2 ⟨rfl,hb2,-⟩
      go_wp2
      go_ret
      refine ⟨z15 ?_,Ttb0⟩;rw [hv.out,hrun.out,HEE.out]
      try rfl
     ·rename_i s'
      rw [hr] at hee;have HR:=Lib.hid hr;have HEE:=Lib.hid hee;clear hr hee
      go_wp2
      have s1:=S1.out;have s2:=S2.out
      (refine ybj 15 zK zK ?_;simp only [List.take_succ_cons,List.take_zero,List.drop_succ_cons,List.drop_zero];(repeat still_step);refine wpStill_nil ?_)
      clear s1 s2
      go_wp2_with fail
      refine (HNX.out _ (by repeat (first|assumption|(with_reducible refine Has.drew ?_)|(with_reducible refine Has.drewN ?_ _)|(with_reducible refine Has.alloc ?_ _ (by first|assumption|(simp;done)|(simp;omega)|omega))|(with_reducible refine Has.setFar ?_ (by first|assumption|(simp;done)|(simp;omega)|omega) _)))).mono ?_;rw [HR.out];rintro e w2 ⟨rfl,hb2,hs2⟩;have hs3:=hs2 s' rfl;clear hs2
      go_wp2
      go_roundw
      case rel=>
       have hbd:=zf2 HR.out hsw;exact ⟨k+1,s',by omega,by go_num,by omega,hbd.2,(by unfold Hid;rw [hrun.out,HEE.out]),hs3,Ttb0⟩
      case measure=>simp [intOf];omega
   ·have hkn:k=n3:=by omega
    have hfin:Hid (z9o b=(s.marks==b.at_.length)):=by
     unfold Hid;rw [hv.out,hrun.out,List.drop_eq_nil_of_le (by rw [N3.out];omega)]
     rfl
    have z0:wr.cell? ⟨g,0,none⟩=some (.int .i64 (s.marks:Int)):=(hHas 0 _ rfl).1
    go_wp2
    go_quiet (fail)
    go_wp2
    go_ret
    refine ⟨z15 ?_,Ttb0⟩;rw [hfin.out,N1.out];rw [Bool.eq_iff_iff];simp
    try omega
end
end
end Go.Proofs.YtocafomnnkmjfaaGreat
