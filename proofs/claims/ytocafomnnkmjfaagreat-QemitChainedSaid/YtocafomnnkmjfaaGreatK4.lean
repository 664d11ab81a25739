import Derived.Test.YtocafomnnkmjfaaGreatK2
import Derived.Test.YtocafomnnkmjfaaGreatK3
set_option maxRecDepth 100000
set_option maxHeartbeats 1000000
namespace Go.Proofs.YtocafomnnkmjfaaGreat
open Go.RowKit
section
attribute [local irreducible] wpStill wpQuiet
theorem z3w {l:List BOp} {f m:Nat} {p:BOp} (hf:f≤m) (h:l[m]?=some p):(l.take (m+1)).drop f=(l.take m).drop f++[p]:=by
 have hm:m<l.length:=by
  rcases Nat.lt_or_ge m l.length with h1|h1
  ·exact h1
  ·rw [List.getElem?_eq_none h1] at h;cases h
 rw [List.take_add_one,h];simp only [Option.toList];rw [List.drop_append_of_le_length (by rw [List.length_take];omega)]
theorem zog {l:List BOp} {f m i:Nat} {p:BOp} (hf:zmt l i=(f:Int)) (h1:f≤m) (h2:m<i) (h:l[m]?=some p) (hb:(decide (0≤writes p∧writes p≤18)||p.code==18||p.code==19)=true):zof (seg l i)=false:=by
 unfold zof seg;rw [hf,Int.toNat_natCast,List.all_eq_false];refine ⟨p,?_,by rw [hb];simp⟩
 have hm:m<l.length:=by
  rcases Nat.lt_or_ge m l.length with h1|h1
  ·exact h1
  ·rw [List.getElem?_eq_none h1] at h;cases h
 have:((l.take i).drop f)[m-f]?=some p:=by
  rw [List.getElem?_drop,List.getElem?_take,if_pos zO,show f+(m-f)=m by omega];exact h
 exact List.mem_of_getElem? this
section
variable (A1 A2 A3:Option Addr) (n1 n2 n3 c1 c2 c3:Nat) (l:List BOp) (i:Nat) (o:BOp) (w:World)
theorem zxe (h3:OpsAt w w.heap.size A3 l) (hl:l.length=n3) (hm:n3≤1000000) (hi:l[i]?=some o) (hz:(l[0]?.map (·.code))=some 20):
  Calls Tryz.prog 78 #[.agg #[.slice A1 n1 c1,.slice A2 n2 c2,.slice A3 n3 c3],.int .i64 (i:Int)] w fun e w'=>e= .returned (.bool (zxc l i o))∧Below w.heap.size w w':=by
 have hin:i<n3:=by
  rcases Nat.lt_or_ge i l.length with h1|h1
  ·omega
  ·rw [List.getElem?_eq_none h1] at hi;cases hi
 have hfn:=zmx hz i;have hfl:=(zmv l i).2;have hfirst:=fun W (H:OpsAt W W.heap.size A3 l)=>zm0 A1 A2 A3 n1 n2 n3 c1 c2 c3 l i W H hl hm hin hz
 obtain ⟨f,hf⟩:∃ f:Nat,zmt l i=f:=⟨(zmt l i).toNat,by omega⟩
 rw [hf] at hfn hfl;simp only [hf] at hfirst;obtain ⟨bb,off,o',hA,hbb,hx,d0,d1,d2,d3,d4⟩:=zw7 (k:=i) h3 (by rw [hl];exact hin);subst hA;rw [hi] at hx;injection hx with hx;subst hx
 obtain ⟨nr,hnr⟩:∃ n,(reads o).length=n:=⟨_,rfl⟩
 have hr2:nr≤2:=(by rw [← hnr];unfold reads;split<;>split<;>simp);have hread:=fun W=>z09 o W;simp only [hnr] at hread;have HF:=Lib.hid hf;have HL:=Lib.hid hl;have HI:=Lib.hid hi;have HNR:=Lib.hid hnr;have HFIRST:=Lib.hid hfirst;have HREAD:=Lib.hid hread;have H3:=Lib.hid h3;clear hf hl hi hnr hfirst hread h3 hz;have g1:(0:Int)≤(i:Int):=(by omega);have g2:(i:Int)<(n3:Int):=(by omega);have hbb1:=ltH hbb
 go_enter Tryz.func78,Tryz.ntmps78
 go_wp2_with (first|(go_at_call 135;refine (HFIRST.out _ (SlAt.more (SlAt.alloc (SlAt.alloc H3.out (Nat.le_refl _) _) zS _) zV)).mono ?_;rintro e w1 ⟨rfl,hb1⟩;obtain ⟨hc1,hf1⟩:=bcell hb1;have hz1:=hb1.size;(try simp only [World.size_alloc] at hz1);have hy1_0:w.heap.size<w1.heap.size:=zO;have hc1_0:=fun o=>hc1 (w.heap.size) o Ttb2;have hf1_0:=fun o=>hf1 (w.heap.size) o Ttb2;have hy1_1:w.heap.size+1<w1.heap.size:=zO;have hc1_1:=fun o=>hc1 (w.heap.size+1) o Ttb2;have hf1_1:=fun o=>hf1 (w.heap.size+1) o Ttb2;have hy1_2:bb<w1.heap.size:=zO;have hc1_2:=fun o=>hc1 (bb) o Ttb2;have hf1_2:=fun o=>hf1 (bb) o Ttb2)|(go_at_call 136;refine (HREAD.out _).mono ?_;rintro e w2 ⟨r,rfl,hown,hb2⟩;obtain ⟨A,c,rfl,hs,-,-,-⟩:=zxz hown;clear hown;obtain ⟨hc2,hf2⟩:=bcell hb2;have hz2:=hb2.size;(try simp only [World.size_alloc,World.size_setCell,World.heap_drewN,World.size_drew] at hz2);have hy2_0:w.heap.size<w2.heap.size:=zO;have hc2_0:=fun o=>hc2 (w.heap.size) o Ttb2;have hf2_0:=fun o=>hf2 (w.heap.size) o Ttb2;have hy2_1:w.heap.size+1<w2.heap.size:=zO;have hc2_1:=fun o=>hc2 (w.heap.size+1) o Ttb2;have hf2_1:=fun o=>hf2 (w.heap.size+1) o Ttb2;have hy2_2:bb<w2.heap.size:=zO;have hc2_2:=fun o=>hc2 (bb) o Ttb2;have hf2_2:=fun o=>hf2 (bb) o Ttb2))
 have y2:w2.cell? ⟨w.heap.size,2,none⟩=some (.slice (some ⟨bb,off,none⟩) n3 c3):=by go_simp
 have z0:w2.cell? ⟨w.heap.size+1,0,none⟩=some (.int .i64 o.code):=by go_simp
 have z1:w2.cell? ⟨w.heap.size+1,1,none⟩=some (.int .i64 o.d):=by go_simp
 have z2:w2.cell? ⟨w.heap.size+1,2,none⟩=some (.int .i64 o.a):=by go_simp
 have z3:w2.cell? ⟨w.heap.size+1,3,none⟩=some (.int .i64 o.b):=by go_simp
 have z4:w2.cell? ⟨w.heap.size+1,4,none⟩=some (.int .u32 o.n):=by go_simp
 have hB2:Below w.heap.size w w2:=Ttb0
 have hsz:w.heap.size+1<w2.heap.size:=by
  have h1:=hb1.size;have h2:=hb2.size;simp at h1;omega
 have HOPS:=Lib.hid (SlAt.more (SlAt.below H3.out hB2 (Nat.le_refl _)) zO:OpsAt w2 w2.heap.size (some ⟨bb,off,none⟩) l);have HS:=Lib.hid hs;clear hc1 hf1 hc1_0 hf1_0 hc1_1 hf1_1 hc1_2 hf1_2 hc2 hf2 hc2_0 hf2_0 hc2_1 hf2_1 hc2_2 hf2_2 hb1 hb2 hs d0 d1 d2 d3 d4
 go_loopw [8] (fun t W=>∃ k:Nat,k≤nr∧t= .int .i64 k∧Hid (∀ v∈(reads o).take k,zsv (seg l i) v=true)∧Below w2.heap.size w2 W) (fun t _=>nr-(intOf t).toNat)
 case atStart=>exact ⟨0,Nat.zero_le _,rfl,by unfold Hid;simp,Below.refl _ _⟩
 case round=>
  obtain ⟨k,hk,rfl,hq,hB⟩:=hrel;by_cases hlt:k<nr
  ·obtain ⟨br,ofr,v,hA,hbr,hx,hcv⟩:=zrc (k:=k) HS.out (by rw [HNR.out];exact hlt)
   subst hA;have hcv':=(hB.cell (p:=⟨br,ofr+k,none⟩) hbr).trans hcv;have HX:=Lib.hid hx;have g3:(0:Int)≤(k:Int):=(by omega);have g4:(k:Int)<(nr:Int):=(by omega);clear hx
   go_wp2
   obtain ⟨wo,rfl⟩:∃ wo:World,wo=wr:=⟨_,rfl⟩
   go_loopw [9,10] (fun kn j W=>∃ (m:Nat) (q:Bool),f≤m∧m≤i∧j= .int .i64 m∧kn= .bool q∧Hid (q=(decide (v<20)||((l.take m).drop f).any fun p=>writes p==v))∧Below w2.heap.size w2 W) (fun _ j _=>i-(intOf j).toNat)
   case atStart=>
    refine ⟨f,decide (v<20),Nat.le_refl _,by omega,rfl,rfl,?_,hB⟩;unfold Hid;rw [List.drop_eq_nil_of_le (by rw [List.length_take];omega)];simp
   case round=>
    obtain ⟨m,q,hfm,hmi,rfl,rfl,hqq,hB'⟩:=hrel;by_cases hlt2:m<i
    ·obtain ⟨bb',off',p,hA,hbb',hx,d0,d1,d2,d3,d4⟩:=zw7 (k:=m) HOPS.out (by rw [HL.out];omega)
     injection hA with hA;injection hA with q1 q2;subst q1;subst q2;have u2:=(hB'.cell (p:=⟨w.heap.size,2,none⟩) (show w.heap.size<w2.heap.size by omega)).trans y2;have e0:=(hB'.cell (p:=⟨bb,off+m*5,none⟩) hbb').trans d0;have e1:=(hB'.cell (p:=⟨bb,off+m*5+1,none⟩) hbb').trans d1;have e2:=(hB'.cell (p:=⟨bb,off+m*5+2,none⟩) hbb').trans d2;have e3:=(hB'.cell (p:=⟨bb,off+m*5+3,none⟩) hbb').trans d3;have e4:=(hB'.cell (p:=⟨bb,off+m*5+4,none⟩) hbb').trans d4;have e5:=(hB'.cell (p:=⟨br,ofr+k,none⟩) hbr).trans hcv;have hw1:=hB'.size;have HSN:=Lib.hid (z3w hfm hx);have g5:(0:Int)≤(m:Int):=(by omega);have g6:(m:Int)<(n3:Int):=(by omega);clear hx d0 d1 d2 d3 d4 y2 z0 z1 z2 z3 z4
     cases q
     ·go_wp2
      (refine ya9 zK zK ?_;(repeat (first|go_big_quiet_skip|(go_big_quiet_want;apply Exists.intro;refine ⟨fun w' hw'=>?_,?_⟩;(focus (obtain ⟨hcq,hfq⟩:=bcell hw';have hcq_0:=fun o=>hcq (w.heap.size) o Ttb2;have hcq_1:=fun o=>hcq (bb) o Ttb2;have hcq_2:=fun o=>hcq (br) o Ttb2;clear hcq hfq;go_simp;first|done|rfl|exact ⟨rfl,rfl⟩|((go_at_call 137;refine (ybk p _).mono ?_;rintro e w'' ⟨rfl,hbq⟩;exact ⟨rfl,zdg hw' hbq hw'.size⟩))));simp only [Act.put,List.setIfInBounds_toArray,List.set_cons_succ,List.set_cons_zero];go_big_quiet_on)));refine wpQuiet_nil ?_;intro w3 hb3;obtain ⟨hc3,hf3⟩:=bcell hb3;have hz3:=hb3.size;(try simp only [World.size_alloc,World.size_setCell,World.heap_drewN,World.size_drew] at hz3);have hy3_0:w.heap.size<w3.heap.size:=zO;have hc3_0:=fun o=>hc3 (w.heap.size) o Ttb2;have hf3_0:=fun o=>hf3 (w.heap.size) o Ttb2;have hy3_1:bb<w3.heap.size:=zO;have hc3_1:=fun o=>hc3 (bb) o Ttb2;have hf3_1:=fun o=>hf3 (bb) o Ttb2;have hy3_2:br<w3.heap.size:=zO;have hc3_2:=fun o=>hc3 (br) o Ttb2;have hf3_2:=fun o=>hf3 (br) o Ttb2)
      go_wp2
      go_roundw
      case rel=>
       refine ⟨m+1,writes p==v,by omega,by omega,by go_num,rfl,?_,Ttb0⟩;have h1:=hqq.out;have h2:=HSN.out;unfold Hid;rw [h2,List.any_append]
       have h3:=(Bool.or_eq_false_iff.1 h1.symm)
       rw [h3.1,h3.2];simp
      case measure=>simp [intOf];omega
     ·go_wp2
      (refine ya9 zK zK ?_;(repeat (first|go_big_quiet_skip|(go_big_quiet_want;apply Exists.intro;refine ⟨fun w' hw'=>?_,?_⟩;(focus (obtain ⟨hcq,hfq⟩:=bcell hw';have hcq_0:=fun o=>hcq (w.heap.size) o Ttb2;have hcq_1:=fun o=>hcq (bb) o Ttb2;have hcq_2:=fun o=>hcq (br) o Ttb2;clear hcq hfq;go_simp;first|done|rfl|exact ⟨rfl,rfl⟩|(fail)));simp only [Act.put,List.setIfInBounds_toArray,List.set_cons_succ,List.set_cons_zero];go_big_quiet_on)));refine wpQuiet_nil ?_;intro w3 hb3;obtain ⟨hc3,hf3⟩:=bcell hb3;have hz3:=hb3.size;(try simp only [World.size_alloc,World.size_setCell,World.heap_drewN,World.size_drew] at hz3);have hy3_0:w.heap.size<w3.heap.size:=zO;have hc3_0:=fun o=>hc3 (w.heap.size) o Ttb2;have hf3_0:=fun o=>hf3 (w.heap.size) o Ttb2;have hy3_1:bb<w3.heap.size:=zO;have hc3_1:=fun o=>hc3 (bb) o Ttb2;have hf3_1:=fun o=>hf3 (bb) o Ttb2;have hy3_2:br<w3.heap.size:=zO;have hc3_2:=fun o=>hc3 (br) o Ttb2;have hf3_2:=fun o=>hf3 (br) o Ttb2)
      go_wp2
      go_roundw
      case rel=>
       refine ⟨m+1,true,by omega,by omega,by go_num,rfl,?_,Ttb0⟩;have h1:=hqq.out;have h2:=HSN.out;unfold Hid;rw [h2,List.any_append, ← Bool.or_assoc, ← h1];simp
      case measure=>simp [intOf];omega
    ·have hmi':m=i:=by omega
     have hseg:Hid (q=zsv (seg l i) v):=by
      unfold Hid zsv seg;rw [HF.out,Int.toNat_natCast,hqq.out,hmi']
     clear hqq
     cases q
     ·go_wp2
      go_ret
      refine ⟨z1x ?_,Ttb0⟩;have hmem:=List.mem_of_getElem? HX.out
      symm
      unfold zxc;rw [Bool.and_eq_false_iff]
      left
      rw [List.all_eq_false];exact ⟨v,hmem,by rw [← hseg.out];simp⟩
     ·go_wp2
      go_roundw
      case rel=>
       refine ⟨k+1,by omega,by go_num,?_,Ttb0⟩;have hxx:=HX.out;have hqo:=hq.out;have hso:=hseg.out;unfold Hid;intro y hy;rw [List.take_add_one,List.mem_append] at hy;rcases hy with hy|hy
       ·exact hqo y hy
       ·rw [hxx] at hy
        simp at hy;subst hy;exact hso.symm
      case measure=>simp [intOf];omega
  ·have hall:Hid ((reads o).all (zsv (seg l i))=true):=by
    unfold Hid;rw [List.all_eq_true];intro x hx;exact hq.out x (by rw [List.take_of_length_le (by rw [HNR.out];omega)];exact hx)
   clear hq;have u0:=(hB.cell (p:=⟨w.heap.size+1,0,none⟩) (show w.heap.size+1<w2.heap.size by omega)).trans z0;have u1:=(hB.cell (p:=⟨w.heap.size+1,1,none⟩) (show w.heap.size+1<w2.heap.size by omega)).trans z1;have u2:=(hB.cell (p:=⟨w.heap.size+1,2,none⟩) (show w.heap.size+1<w2.heap.size by omega)).trans z2;have u3:=(hB.cell (p:=⟨w.heap.size+1,3,none⟩) (show w.heap.size+1<w2.heap.size by omega)).trans z3;have u4:=(hB.cell (p:=⟨w.heap.size+1,4,none⟩) (show w.heap.size+1<w2.heap.size by omega)).trans z4;have v2:=(hB.cell (p:=⟨w.heap.size,2,none⟩) (show w.heap.size<w2.heap.size by omega)).trans y2;have hw1:=hB.size
   cases hL:leaves o.code
   ·have hres:Hid (zxc l i o=true):=by unfold Hid zxc;rw [hall.out,hL];rfl
    go_wp2_with (go_at_call 138;refine (zt2 o _).mono ?_;rintro e w4 ⟨rfl,hb4⟩;obtain ⟨hc4,hf4⟩:=bcell hb4;have hz4:=hb4.size;(try simp only [World.size_alloc,World.size_setCell,World.heap_drewN,World.size_drew] at hz4);have hy4_0:w.heap.size<w4.heap.size:=zO;have hc4_0:=fun o=>hc4 (w.heap.size) o Ttb2;have hf4_0:=fun o=>hf4 (w.heap.size) o Ttb2)
    go_ret
    exact ⟨z1x hres.out.symm,Ttb0⟩
   ·have hres:Hid (zxc l i o=zof (seg l i)):=by unfold Hid zxc;rw [hall.out,hL];rfl
    go_wp2_with (go_at_call 138;refine (zt2 o _).mono ?_;rintro e w4 ⟨rfl,hb4⟩;obtain ⟨hc4,hf4⟩:=bcell hb4;have hz4:=hb4.size;(try simp only [World.size_alloc,World.size_setCell,World.heap_drewN,World.size_drew] at hz4);have hy4_0:w.heap.size<w4.heap.size:=zO;have hc4_0:=fun o=>hc4 (w.heap.size) o Ttb2;have hf4_0:=fun o=>hf4 (w.heap.size) o Ttb2;have hy4_1:bb<w4.heap.size:=zO;have hc4_1:=fun o=>hc4 (bb) o Ttb2;have hf4_1:=fun o=>hf4 (bb) o Ttb2)
    have HOPS4:=Lib.hid (SlAt.more (SlAt.below (SlAt.below HOPS.out hB (Nat.le_refl _)) hb4 zO) zO:OpsAt w4 w4.heap.size (some ⟨bb,off,none⟩) l);have x2:w4.cell? ⟨w.heap.size,2,none⟩=some (.slice (some ⟨bb,off,none⟩) n3 c3):=(by go_simp);have hsz4:w.heap.size+1<w4.heap.size:=(by omega);have hB4:Below w.heap.size w w4:=Ttb0;clear u0 u1 u2 u3 u4 v2 hc4 hf4 hc4_0 hf4_0 hc4_1 hf4_1 hb4 y2 z0 z1 z2 z3 z4
    go_loopw [11] (fun t W=>∃ m:Nat,f≤m∧m≤i∧t= .int .i64 m∧Hid (zof ((l.take m).drop f)=true)∧Below w4.heap.size w4 W) (fun t _=>i-(intOf t).toNat)
    case atStart=>
     refine ⟨f,Nat.le_refl _,by omega,rfl,?_,Below.refl _ _⟩;unfold Hid;rw [List.drop_eq_nil_of_le (by rw [List.length_take];omega)]
     rfl
    case round=>
     obtain ⟨m,hfm,hmi,rfl,hqq,hB'⟩:=hrel;have hw5:=hB'.size;by_cases hlt2:m<i
     ·obtain ⟨bb',off',p,hA,hbb',hx,d0,d1,d2,d3,d4⟩:=zw7 (k:=m) HOPS4.out (by rw [HL.out];omega)
      injection hA with hA;injection hA with q1 q2;subst q1;subst q2;have u2:=(hB'.cell (p:=⟨w.heap.size,2,none⟩) (show w.heap.size<w4.heap.size by omega)).trans x2;have e0:=(hB'.cell (p:=⟨bb,off+m*5,none⟩) hbb').trans d0;have e1:=(hB'.cell (p:=⟨bb,off+m*5+1,none⟩) hbb').trans d1;have e2:=(hB'.cell (p:=⟨bb,off+m*5+2,none⟩) hbb').trans d2;have e3:=(hB'.cell (p:=⟨bb,off+m*5+3,none⟩) hbb').trans d3;have e4:=(hB'.cell (p:=⟨bb,off+m*5+4,none⟩) hbb').trans d4;have HSN:=Lib.hid (z3w hfm hx);have HXP:=Lib.hid hx;have g5:(0:Int)≤(m:Int):=(by omega);have g6:(m:Int)<(n3:Int):=(by omega);clear hx d0 d1 d2 d3 d4 x2
      go_wp2_with (first|(go_at_call 137;refine (ybk p _).mono ?_;rintro e w5 ⟨rfl,hb5⟩;obtain ⟨hc5,hf5⟩:=bcell hb5;have hz5:=hb5.size;(try simp only [World.size_alloc] at hz5);have hy5_0:wr.heap.size<w5.heap.size:=zO;have hc5_0:=fun o=>hc5 (wr.heap.size) o Ttb2;have hf5_0:=fun o=>hf5 (wr.heap.size) o Ttb2;have hy5_1:w.heap.size<w5.heap.size:=zO;have hc5_1:=fun o=>hc5 (w.heap.size) o Ttb2;have hf5_1:=fun o=>hf5 (w.heap.size) o Ttb2;have hy5_2:bb<w5.heap.size:=zO;have hc5_2:=fun o=>hc5 (bb) o Ttb2;have hf5_2:=fun o=>hf5 (bb) o Ttb2)|(go_at_call 139;refine (zpe _ _).mono ?_;rintro e w' ⟨rfl,rfl⟩))
      ·have hv:0≤writes p∧writes p≤18:=by assumption
       go_ret
       exact ⟨z1x (by rw [hres.out,zog HF.out hfm hlt2 HXP.out (by simp [hv])]),Ttb0⟩
      ·have hv:p.code=18:=by assumption
       go_ret
       exact ⟨z1x (by rw [hres.out,zog HF.out hfm hlt2 HXP.out (by simp [hv])]),Ttb0⟩
      ·have hv:(p.code==19)=true:=by assumption
       go_ret
       exact ⟨z1x (by rw [hres.out,zog HF.out hfm hlt2 HXP.out (by rw [hv];simp)]),Ttb0⟩
      ·have v1:¬(0≤writes p∧writes p≤18):=by omega
       have v2:¬p.code=18:=(by assumption);have v3:(p.code==19)=false:=(by assumption)
       go_roundw
       case rel=>
        refine ⟨m+1,by omega,by omega,by go_num,?_,Ttb0⟩;have h1:=hqq.out;have h2:=HSN.out;unfold Hid;unfold zof at h1⊢;rw [h2,List.all_append,h1];have v3':¬p.code=19:=(by simpa using v3);simp [v2,v3'];omega
       case measure=>simp [intOf];omega
     ·have hmi':m=i:=by omega
      have hfin:Hid (zof (seg l i)=true):=by
       unfold Hid seg;rw [HF.out,Int.toNat_natCast, ← hmi'];exact hqq.out
      clear hqq
      go_wp2
      go_ret
      exact ⟨z1x (by rw [hres.out,hfin.out]),Ttb0⟩
end
end
end Go.Proofs.YtocafomnnkmjfaaGreat
