import Derived.Test.YtocafomnnkmjfaaGreatMPredictsA
set_option maxRecDepth 100000
set_option maxHeartbeats 8000000
namespace Go.Proofs.YtocafomnnkmjfaaGreat
open Go.RowKit
section
variable {w:World}
theorem ycl (x y:Int) (t:Bool) (hx:word x) (hy:word y):Calls Tryz.prog 9 #[.int .u32 x,.int .u32 y,.bool t] w fun e w'=>e= .returned (.bool true)∧Below w.heap.size w w':=by
 obtain ⟨a,ha⟩:∃ a,a=zvn:=⟨_,rfl⟩
 have hAl:AlOk a:=(by rw [ha];exact zvs.ok zO);have hal:∀ v,0≤v→v<28→ -1000≤getV a v∧getV a v≤1000:=(by rw [ha];exact zvs.range zO);have hva:=za4 hAl;have hal28:=hAl.len;have hla:=zq3 hal28;refine zfg [.int .u32 x,.int .u32 y,.bool t] Tryz.func9 Tryz.ntmps9 rfl zS ?_;refine z3p ?_;(conv=>whnf);refine z3p ?_;(conv=>whnf);refine ze2 (x:= .bool true) (xs:=[]) rfl zK (fun r w' hR=>z2z) ?_;(conv=>whnf);refine z3k (α:={z:Int//word z}) (fun z=>[(0,one (.int .u32 x)),(1,one (.int .u32 z.1)),(7,one (.bool true))]) (fun _ w1=>Below w.heap.size w w1) ?_ fun z w1 hB1=>?_
 ·refine z3p ?_
  conv=>whnf
  refine z3b (t:=t) rfl (fun hc=>?_) (fun hc=>?_)
  ·refine z3t ?_
   (conv=>whnf);exact zca ⟨x,hx⟩ Tn fun r w3 hR=>hR.toBelow
  ·exact z3q (zca ⟨y,hy⟩ Tn fun r w3 hR=>hR.toBelow)
 obtain ⟨z,hz⟩:=z;dsimp only;refine z3p ?_;(conv=>whnf);refine z3m fun r w2 hR=>?_;obtain ⟨p8,us,e1,e2,e3⟩:=hR.own 2 _ rfl;simp only [denL] at e3;obtain ⟨u1,l1,rfl,k1,u2,l2,rfl,k2,u3,l3,rfl,k3,rfl⟩:=e3;have k1:CV.den r (.sl 0 0 1 1) u1:=k1;have k2:CV.den r (.v (.slice none 0 0)) u2:=k2;have k3:CV.den r (.sl 1 0 2 2) u3:=k3;obtain ⟨b1,rfl,s1⟩:=z6j (xs:=varB.at_.map (.int .u32)) hR rfl k1;obtain ⟨b3,rfl,s3⟩:=z6j (xs:=varB.ops.flatMap opC) hR rfl k3;obtain rfl:u2= .slice none 0 0:=k2;have hB12:=hR.toBelow
 have hBA2:BlkAt w2 varB (some ⟨b1,0,none⟩) none (some ⟨b3,0,none⟩):=⟨s1,fun j u hj=>by simp [varB] at hj,s3⟩
 have hB2:=zdg hB1 hB12 hB1.size;refine ⟨z6k [(0,.int .u32 x),(1,.int .u32 z),(7,.bool true),(8,pV p8)],fun a' hf=>z6t ⟨z6r hf rfl,z6r hf rfl,z6r hf rfl,z6p hf 8 rfl e1,trivial⟩,?_⟩;clear hR k1 k2 k3 s1 s3 e1 hB12 hB1;generalize hA1:(some ⟨b1,0,none⟩:Option Addr)=A1 at*;generalize hA3:(some ⟨b3,0,none⟩:Option Addr)=A3 at*;refine z3d (z3e 1 rfl rfl rfl ?_);(conv=>whnf);refine ⟨by kernel_rfl,fun r w6 us' hR hd=>?_⟩;obtain rfl:=zcs (xs:=[ycb 1 1 1 1]) rfl hd;have hB26:=hR.toBelow
 refine (ycf (w:=w6) 1 1 1 1).mono fun e w7 ⟨G,g,gs,gm,he,hG,hgm,hU7,hfr,hB67⟩=>⟨_,he,?_⟩
 have hB27:=zdg hB26 hB67 hB26.size;have hB7:=zdg hB2 hB27 hB2.size;have hBA7:=hBA2.later hB27;have e27:=(hB27.block p8 (zpt e2)).trans e2;clear hR hd hB2 hB26 hB67 hBA2 hB27 e2 hfr;(conv=>whnf);refine zcd ?_;refine z3p ?_;(conv=>whnf);refine ze2 (x:= .agg (alL zvn).toArray) (xs:=[]) rfl zK (fun r w' hR=>zvv w') ?_;rw [← ha];(conv=>whnf);erw [zdl (l:=List.map CV.v (alL a)) (n:=28) hla];(conv=>whnf);rw [zwl];(conv=>whnf);erw [show Nat.ble (0+(List.map CV.v (alL a)).length) (List.map CV.v (alL (List.replicate 28 0))).length=true from Nat.ble_eq_true_of_le (by rw [hla];decide)];(conv=>whnf);refine z3m fun r w8 hR=>?_;obtain ⟨p10,us,f1,f2,f3⟩:=hR.own 0 _ rfl;have f3':denL r (z36 (List.map CV.v (alL (List.replicate 28 0))) 0 (List.map CV.v (alL a))) us:=f3;rw [z4a (by rw [hla];rfl)] at f3';obtain rfl:=zis (us:=alL a) f3';have hB78:=hR.toBelow;refine ⟨z6k [(0,.int .u32 x),(1,.int .u32 z),(7,.bool true),(8,pV p8),(9,pV g),(10,pV p10)],fun a' hf=>z6t ⟨z6r hf rfl,z6r hf rfl,z6r hf rfl,z6r hf rfl,z6r hf rfl,z6p hf 10 rfl f1,trivial⟩,?_⟩;have hB8:=zdg hB7 hB78 hB7.size;have hBA8:=hBA7.later hB78;have hU8:=zvz (zt4 _ _ _) hU7 hB78;have e28:=(hB78.block p8 (zpt e27)).trans e27;clear hR f3 f3' f1 hB7 hBA7 hU7 hB78 e27;refine z3d (z3f 3 rfl rfl rfl ?_);(conv=>whnf);refine ⟨_,zd0 e28,rfl,?_⟩;(conv=>whnf);refine ⟨alL a,zd0 f2,by rw [List.length_map,hal28];rfl,?_⟩;(conv=>whnf);refine ⟨by kernel_rfl,fun r w9 us' hR hd=>?_⟩;obtain rfl:=zcs (xs:=[blkV varB A1 none A3 1 0 2,.agg (alL a).toArray,pV g]) (yb5 _ _ a) hd;have hB89:=hR.toBelow;refine (yb9 ycs ycy (hBA8.later hB89) hal28 hva hal ⟨hG.1,by omega⟩ (zvz (zt4 _ _ _) hU8 hB89)).mono fun e w10 ⟨A,cp,he,hsl10,hB910⟩=>?_;have hB810:=zdg hB89 hB910 hB89.size;refine ⟨_,AV.of (.tuple #[codV (yan varB a (256*(G:Int)) (256*(G:Int)) 0) A cp,.bool true]),w10,Gs.nil,[(0,one (.int .u32 x)),(1,one (.int .u32 z)),(7,one (.bool true)),(9,one (pV g))],[],Env.none,he,z1v w10,fun a hf=>znv ⟨z6q hf 0 rfl,z6q hf 1 rfl,z6q hf 7 rfl,z6q hf 9 rfl,trivial⟩,AV.of_den _ _,?_⟩;clear hR hd hB89 hB910 he hBA8 e28 f2;(conv=>whnf);refine zcd ?_;refine z3m fun r w11 hR=>?_;obtain ⟨p11,us,y1,y2,y3⟩:=hR.own 0 _ rfl;obtain rfl:=zis (us:=[strV (z8u (yan varB a (256*(G:Int)) (256*(G:Int)) 0)),.slice A (z5x 0 (yan varB a (256*(G:Int)) (256*(G:Int)) 0)).length cp]) y3;have hB1011:=hR.toBelow;refine ⟨z6k [(0,.int .u32 x),(1,.int .u32 z),(7,.bool true),(9,pV g),(11,pV p11),(12,.bool true)],fun a' hf=>z6t ⟨z6r hf rfl,z6r hf rfl,z6r hf rfl,z6r hf rfl,z6p hf 11 rfl y1,z6r hf rfl,trivial⟩,?_⟩;clear hR y1 y3;have hB811:=zdg hB810 hB1011 hB810.size;have hB11:=zdg hB8 hB811 hB8.size;have hU11:=zvz (zt4 _ _ _) hU8 hB811;have hsl11:=(hsl10.below hB1011 (Nat.le_refl _)).more hB1011.size;clear hB8 hU8 hsl10 hB810 hB811 hB1011;refine z3d ?_;refine z3p ?_;(conv=>whnf);refine z3b (t:=false) rfl (fun hc=>Bool.noConfusion (show false=true from hc)) (fun _=>z3q (zcd ?_));refine z3p ?_;(conv=>whnf);refine z3p ?_;(conv=>whnf)
 (refine ⟨⟨by omega,by omega⟩,?_⟩;(conv=>whnf))
 refine z3m fun r w12 hR=>?_;obtain ⟨p13,us,g1,g2,g3⟩:=hR.own 0 _ rfl
 obtain ⟨vs,hvsE⟩:∃ vs,vs=(List.replicate 28 (0:Int)).set 3 x:=⟨_,rfl⟩
 have hvs:VarsOk vs:=(by rw [hvsE];exact z4n yah 3 hx);have hv3:getV vs 3=x:=(by rw [hvsE];rfl);obtain rfl:us=u32L vs:=(by rw [hvsE];exact zis (us:=u32L ((List.replicate 28 (0:Int)).set 3 x)) g3);have hB1112:=hR.toBelow;refine ⟨z6k [(0,.int .u32 x),(1,.int .u32 z),(7,.bool true),(9,pV g),(11,pV p11),(13,pV p13)],fun a' hf=>z6t ⟨z6r hf rfl,z6r hf rfl,z6r hf rfl,z6r hf rfl,z6r hf rfl,z6p hf 13 rfl g1,trivial⟩,?_⟩;clear hR g1 g3;have hB12:=zdg hB11 hB1112 hB11.size;have hU12:=zvz (zt4 _ _ _) hU11 hB1112;have hsl12:=(hsl11.below hB1112 (Nat.le_refl _)).more hB1112.size;have y12:=(hB1112.block p11 (zpt y2)).trans y2;clear hB11 hU11 hsl11 hB1112 y2
 obtain ⟨l,hle⟩:∃ l,l=yan varB a (256*(G:Int)) (256*(G:Int)) 0:=⟨_,rfl⟩
 rw [← hle] at y12 hsl12
 have hll:l.length=16:=by rw [hle,ha];exact ycr _ _ _
 have htl:(z8u l).length=64:=by rw [z8v,hll]
 have hwp:∀ x∈z8u l,0≤x∧x<256:=ya6 _
 obtain ⟨C,hC⟩:∃ C,C=ctxL vs 0 100:=⟨_,rfl⟩
 have hvl:=hvs.len
 obtain ⟨base,hbase⟩:∃ base,base=256*(G+1)+4*0:=⟨_,rfl⟩
 obtain ⟨P,hP⟩:∃ P,P=G+3:=⟨_,rfl⟩
 obtain ⟨M0,hM0⟩:∃ M0,M0=zp7 gm G P base (ctxL vs 0 100) (z8u l):=⟨_,rfl⟩
 have nn:∀ b,b∉Gs.flat ⟨[],[]⟩:=fun b hm=>by rcases zm5.1 hm with h|h<;>cases h
 refine z3d ?_;refine z3r [] (.q 0 (.q 1 (.q 3 (.q 4 (.alt 2 (.alt 5 (.alt 6 .done .no) .no) .no))))) (fun w=>ObjsAt w (g::gs) (memS 0 (256*G) G gm)∧Below w12.heap.size w12 w) (fun w hB=>⟨zvz (zt4 _ _ _) hU12 hB,hB⟩) mixed zK zK ?_;(conv=>whnf);refine ⟨_,zfo (zd0 g2) (nn _),by rw [List.length_map,hvl];rfl,?_⟩;(conv=>whnf);refine ⟨_,zfo (zd1 (off:=0+0) y12 rfl) (nn _),?_⟩;(conv=>whnf);refine ⟨?_,trivial⟩;refine zro (.agg (u32L C).toArray) (us:=[yae vs,.int .u32 0,.int .u32 100]) (zc0 vs _ _ rfl rfl) zK (fun w w' h hB=>⟨zvz (zt4 _ _ _) h.1 hB,zdg h.2 hB h.2.size⟩) (fun w hh hj=>by rw [hC];exact zg2 vs 0 100 hvs w) ?_;(conv=>whnf);refine ⟨?_,trivial⟩;refine ⟨by kernel_rfl,Nat×Nat×Nat×List Nat,fun y=>pV y.1,fun y w'=>HoAt w' y.1 y.2.1 y.2.2.1 y.2.2.2 (stL (zql ((base:Nat):Int) 1 16) []) (256*P) P M0 ((base:Nat):Int) ((256*G:Nat):Int) ((256*G:Nat):Int)∧(∀ b∈y.1::y.2.1::y.2.2.1::y.2.2.2,w12.heap.size≤b)∧Below w12.heap.size w12 w',fun w us hh hj hd=>?_,?_⟩
 ·obtain rfl:=zcs (xs:=[pV g,.agg (u32L C).toArray,strV (z8u l),intV ((0:Nat):Int),.int .u32 1]) (zcv _ _ _ _ C) hd
  refine (zut hj.1 hgm C (by rw [hC];exact zhr _ _ _) (by rw [hC];exact zhs hvs yaw (by unfold word;omega)) (z8u l) hwp zO 0 zO 1 P zO zO).mono fun e w' ⟨h,c,m,ms,he,ho,hfr,hB⟩=>⟨(h,c,m,ms),he,zp1 (gs1:=[]) hh (zpy hB) nofun,?_,fun b hb=>Nat.le_trans hh.size (hfr b hb),zdg hj.2 hB hj.2.size⟩
  rw [hC, ← hbase, ← hM0] at ho;exact ho
 rintro ⟨h,c,m,ms⟩;(conv=>whnf);refine ⟨?_,trivial⟩;(conv=>whnf);intro w13' _ ⟨ho13',hfr13,hB1213'⟩;refine zcd ?_;refine z3m fun r w13 hR=>?_;have hB13':=hR.toBelow;refine ⟨z6k [(0,.int .u32 x),(1,.int .u32 z),(7,.bool true),(11,pV p11),(14,pV h)],fun a' hf=>z6t ⟨z6r hf rfl,z6r hf rfl,z6r hf rfl,z6r hf rfl,z6r hf rfl,trivial⟩,?_⟩;have ho13:=ho13'.later hB13';have hB1213:=zdg hB1213' hB13' hB1213'.size;clear hR ho13' hB1213' hB13'
 obtain ⟨S3,hS3⟩:∃ S3:List SiteP,S3=[⟨24,1,0,0,0,0⟩,⟨56,6,0,0,0,44⟩,⟨60,5,0,0,0,0⟩]:=⟨_,rfl⟩
 have hSS:z5x 0 l=S3:=by rw [hle,ha,hS3];exact ycv _ _ _
 rw [hSS] at y12 hsl12
 have hS3l:S3.length=3:=by rw [hS3];rfl
 obtain ⟨Mp,hMp⟩:∃ Mp,Mp=zqh (G+1) (P-(G+1)) (M0.pokeAt ((base:Int)+44) (z8w (zgz 11 z)) (z8w (zgz 11 z)).length):=⟨_,rfl⟩
 have hcl8:=yb8 z
 have hcw:∀ x∈z8w (zgz 11 z),0≤x∧x<256:=ya6 _
 have his:HostIs gm M0 G P base (ctxL vs 0 100) (z8u l):=by rw [hM0];exact zqs hgm zO zO (zhr _ _ _) hwp zO zO
 have hdat:yb3 M0 base (z8u l):=by rw [hM0];exact ycc hgm zO zO hwp zO
 have hM0k:=his.ok
 have hisp:HostIs gm Mp G P base (ctxL vs 0 100) (z8u (yan varB a (256*(G:Int)) (256*(G:Int)) z)):=by
  rw [hMp];refine ycj his hdat (zhr _ _ _) zO 44 (z8w (zgz 11 z)) hcw zO zO zO _ ?_ (fun j hj=>?_) fun j hj=>?_
  ·rw [z8v,htl,ha,ycr]
  ·rw [ha];exact ycp _ _ _ hj
  ·rw [hle,ha];exact ycu _ _ _ _ zO
 have hMpk:=hisp.ok;obtain ⟨hout1,hout2⟩:=yct vs gm;obtain ⟨k,R',M',j,sk,hk,hit,hri,hlj,hM',hcase⟩:=ycd (junk:=1) hz ycs ycy hAl hG.1 hgm hvs yaw (by unfold word;omega) zO zO zO zO (by rw [ha,ycr];omega) hisp (by rw [ycq];decide) hout1;rw [hout2,hv3] at hcase;rw [ha] at hlj;have hst:=ycw _ _ _ hlj;have hnh:h∉m::ms:=ho13.hm
 have hmf:∀ b,b<w12.heap.size→b∉m::ms:=fun b hb hm=>by have:=hfr13 b (List.mem_cons_of_mem _ (List.mem_cons_of_mem _ hm));omega
 have hAb:∀ b' off',A=some ⟨b',off',none⟩→b'<w12.heap.size:=fun b' off' e=>by
  obtain ⟨b2,o2,e2,h2,_⟩:=hsl12 0 (.int .i64 24) (by rw [hS3];rfl);rw [e] at e2;injection e2 with e2;injection e2 with e2;subst e2;exact h2
 refine z3d ?_;refine z3p ?_;(conv=>whnf);refine z3a ?_;refine z3i (fun j:{j:Nat//j≤3}=>[(0,one (.int .u32 x)),(1,one (.int .u32 z)),(7,one (.bool true)),(11,one (pV p11)),(14,one (pV h)),(15,one (.int .i64 (j.1:Int)))]) (fun j w'=>HoAt w' h c m ms (stL (zql ((base:Nat):Int) 1 16) []) (256*P) P (if j.1≤1 then M0 else Mp) ((base:Nat):Int) ((256*G:Nat):Int) ((256*G:Nat):Int)∧Below w12.heap.size w12 w') (fun j=>3-j.1) ⟨0,by omega⟩ Tn (fun r w' hR=>⟨ho13.later hR.toBelow,zdg hB1213 hR.toBelow hB1213.size⟩) (fun j w' hJ=>?_);obtain ⟨i,hi⟩:=j;dsimp only at hJ⊢;obtain ⟨hoJ,hBJ⟩:=hJ;have y1J:=(hBJ.block p11 (zpt y12)).trans y12;have hslJ:SlAt w' w'.heap.size A (S3.flatMap z5r):=(hsl12.below hBJ (Nat.le_refl _)).more hBJ.size;refine z3d ?_;refine z3p ?_;(conv=>whnf);refine ⟨_,zd1 (off:=0+1) y1J rfl,?_⟩;(conv=>whnf);refine z3b rfl (fun hc=>z3q (zcd ?_)) (fun hc=>?_)
 ·have hlt:i<3:=by have:=of_decide_eq_true hc;omega
  obtain ⟨s,hs⟩:∃ s,S3[i]?=some s:=⟨_,List.getElem?_eq_getElem zO⟩
  obtain ⟨bb,of2,hA,hcl⟩:=zfv hslJ hs
  have hnb:bb∉m::ms:=by
   refine hmf bb (hAb bb of2 hA)
  refine z3k (α:=Unit) (fun _=>[(0,one (.int .u32 x)),(1,one (.int .u32 z)),(7,one (.bool true)),(11,one (pV p11)),(14,one (pV h)),(15,one (.int .i64 (i:Int)))]) (fun _ w2=>HoAt w2 h c m ms (stL (zql ((base:Nat):Int) 1 16) []) (256*P) P (if i+1≤1 then M0 else Mp) ((base:Nat):Int) ((256*G:Nat):Int) ((256*G:Nat):Int)∧Below w12.heap.size w12 w2) ?_ fun _ w2 hJ2=>?_
  ·refine z3a ?_
   refine z3p ?_;(conv=>whnf);refine ⟨_,zd1 (off:=0+1) y1J rfl,?_⟩;rw [hA];(conv=>whnf)
   (refine ⟨⟨by omega,by omega⟩,?_⟩;(conv=>whnf))
   refine ⟨_,zfm (k:=1) hcl rfl,?_⟩;(conv=>whnf);refine z3b rfl (fun hc=>?_) (fun hc=>?_)
   ·have hk6:s.kind=6:=of_decide_eq_true hc
    have hi1:i=1:=by
     rw [hS3] at hs;rcases (by omega:i=0∨i=1∨i=2) with rfl|rfl|rfl
     ·cases hs;cases hk6
     ·rfl
     ·cases hs;cases hk6
    subst hi1;have hsc:s.const=44:=(by rw [hS3] at hs;cases hs;rfl);rw [if_pos (by decide)] at hoJ;refine z3r (m::ms) (.q 0 (.q 1 (.q 2 (.q 3 (.q 4 (.q 5 (.q 6 (.q 7 (.alt 8 (.alt 9 .done .no) .no))))))))) (fun w=>HoAt w h c m ms (stL (zql ((base:Nat):Int) 1 16) []) (256*P) P M0 ((base:Nat):Int) ((256*G:Nat):Int) ((256*G:Nat):Int)) (fun w hB=>hoJ.later hB) mixed zK zK ?_;(conv=>whnf);refine ⟨_,zfo (zd1 (off:=0+1) y1J rfl) (fun hm=>(zm5.1 hm).elim nofun (hmf p11 (zpt y12))),?_⟩;rw [hA];(conv=>whnf)
    (refine ⟨⟨by omega,by omega⟩,?_⟩;(conv=>whnf))
    refine ⟨_,zfo (zfm (k:=5) hcl rfl) (fun hm=>(zm5.1 hm).elim nofun hnb),?_⟩;rw [hsc];(conv=>whnf);refine ⟨?_,trivial⟩;refine zro (strV (z8w (zgz 11 z))) (us:=[.int .u32 z]) rfl zK (fun w w' h hB=>h.later hB) (fun w hh hj=>yck z hz w) ?_;(conv=>whnf);refine ⟨?_,trivial⟩;refine .one zK (.tuple #[]) (fun w=>HoAt w h c m ms (stL (zql ((base:Nat):Int) 1 16) []) (256*P) P Mp ((base:Nat):Int) ((256*G:Nat):Int) ((256*G:Nat):Int)) (fun w us hh hj hd=>?_) ?_
    ·obtain rfl:=zcs (xs:=[pV h,intV 44,strV (z8w (zgz 11 z))]) rfl hd
     refine (zye hj hM0k zO G zO zO 44 (by unfold word;omega) (by unfold word;omega) (z8w (zgz 11 z)) hcw zO).mono fun e w' ⟨he,ho,hh2⟩=>⟨he,zp1 hh hh2 fun b hb=> .inl hb,by rw [hMp];exact ho⟩
    (conv=>whnf);intro w3 hh3 ho3;refine zb4 (zca () Tn fun r w4 hR=>?_);have hB4:=hR.toBelow;refine ⟨ho3.later hB4,?_⟩
    have hB3:Below w12.heap.size w12 w3:=⟨hh3.os.trans hBJ.os,hh3.tape.trans hBJ.tape,hh3.output.trans hBJ.output,Nat.le_trans hBJ.size hh3.size,fun k hk=>(zpu hh3 (Nat.lt_of_lt_of_le hk hBJ.size) (hmf k hk)).trans (hBJ.block k hk)⟩
    exact zdg hB3 hB4 hB3.size
   ·have hk6:¬s.kind=6:=of_decide_eq_false hc
    have hi1:i≠1:=fun e=>by subst e;rw [hS3] at hs;cases hs;exact hk6 rfl
    refine z3q (zb4 (zca () Tn fun r w4 hR=>⟨?_,zdg hBJ hR.toBelow hBJ.size⟩));have:=hoJ.later hR.toBelow;by_cases h0:i≤1
    ·rw [if_pos h0] at this;rw [if_pos zO];exact this
    ·rw [if_neg h0] at this;rw [if_neg zO];exact this
  ·refine z3t ?_
   (conv=>whnf);refine ⟨((i+1:Nat):Int),by rw [show (i:Int)+1=((i+1:Nat):Int) by omega];exact wr64 zO,?_⟩;(conv=>whnf);exact zcc ⟨i+1,by omega⟩ Tn (fun r w3 hR=>⟨hJ2.1.later hR.toBelow,zdg hJ2.2 hR.toBelow hJ2.2.size⟩) (by show 3-(i+1)<3-i;omega)
 ·have hi3:i=3:=by have:=of_decide_eq_false hc;omega
  subst hi3;rw [if_neg (by decide)] at hoJ;refine z3t ?_;(conv=>whnf);refine zb7 (zcf (zb6 (zcd ?_)))
  have hnA:∀ b' off',A=some ⟨b',off',none⟩→b'∉c::m::ms:=fun b' off' e hm=>by
   have:=hAb b' off' e;have:=hfr13 b' (List.mem_cons_of_mem _ hm);omega
  obtain ⟨idx,si,hix,hlt,hoff,hkin⟩:∃ (idx:Nat) (si:SiteP),S3[idx]?=some si∧(∀ (q:Nat) (y:SiteP),q<idx→S3[q]?=some y→y.off<si.off)∧si.off=4*(j:Int)∧((si.kind=6∧x=z)∨(si.kind=5∧x≠z∧M'.load (cxE G 19) 0 4=x)):=by
   rcases hcase with h4|⟨h6,hxz⟩|⟨h5,hxz,hld⟩
   ·omega
   ·refine ⟨1,⟨56,6,0,0,0,44⟩,by rw [hS3];rfl,fun q y hq hy=>?_,by show (56:Int)=_;omega,.inl ⟨rfl,hxz⟩⟩
    obtain rfl:q=0:=(by omega);rw [hS3] at hy;cases hy;decide
   ·refine ⟨2,⟨60,5,0,0,0,0⟩,by rw [hS3];rfl,fun q y hq hy=>?_,by show (60:Int)=_;omega,.inr ⟨rfl,hxz,hld⟩⟩
    rw [hS3] at hy;rcases (by omega:q=0∨q=1) with rfl|rfl
    ·cases hy;decide
    ·cases hy;decide
  have hk56:si.kind=6∨si.kind=5:=(by rcases hkin with h|h<;>omega);refine z3d (z3e 2 rfl rfl rfl ?_);(conv=>whnf);refine ⟨[strV (z8u l),.slice A S3.length cp],zd0 y1J,rfl,?_⟩;(conv=>whnf);refine ⟨by kernel_rfl,fun r w5 us' hR hd=>?_⟩;obtain rfl:=zcs (xs:=[pV h,.agg #[strV (z8u l),.slice A S3.length cp]]) rfl hd;have hB5:=hR.toBelow
  refine (z7n (zql ((base:Nat):Int) 1 16) (zqm (by unfold word;omega)) rfl (by show (0:Int)≤1000000;decide) (hoJ.later hB5) hMpk k hk hit hri (.inl ⟨rfl,rfl⟩) (z8u l) S3 A cp ((hslJ.below hB5 (Nat.le_refl _)).more hB5.size) hnA zO idx si hix hlt (by rw [hoff]) zO ⟨fun h=>by omega,fun h=>absurd rfl h⟩).mono fun e w6 ⟨he,ho6,hh6⟩=>⟨_,he,?_⟩
  have hB56:Below w12.heap.size w12 w6:=zdi (zdg hBJ hB5 hBJ.size) hh6 fun b hb=>hfr13 b (List.mem_cons_of_mem _ hb);clear hR hd hB5 hh6;(conv=>whnf);refine zcd ?_;refine z3m fun r w7 hR=>?_;obtain ⟨p16,us,d1,d2,d3⟩:=hR.own 0 _ rfl;obtain rfl:=zis (us:=z5r si) d3;have hB67:=hR.toBelow;refine ⟨z6k [(0,.int .u32 x),(1,.int .u32 z),(7,.bool true),(14,pV h),(16,pV p16),(17,.bool true)],fun a' hf=>z6t ⟨z6r hf rfl,z6r hf rfl,z6r hf rfl,z6r hf rfl,z6p hf 16 rfl d1,z6r hf rfl,trivial⟩,?_⟩;clear hR d1 d3;have ho7:=ho6.later hB67;have hB7:=zdg hB12 (zdg hB56 hB67 hB56.size) hB12.size;refine z3d ?_;refine z3p ?_;refine kB ?_;refine ze2 (x:=strV (z8w (zgz 11 z))) (xs:=[.int .u32 z]) rfl zK (fun r w' hR=>yck z hz w') ?_;refine kB ?_;refine z0j _ rfl rfl rfl ?_;rw [hcl8];refine kB ?_;refine z3b (t:=false) rfl (fun hc=>Bool.noConfusion (show false=true from hc)) (fun _=>z3q (zcd ?_));refine z3d ?_;refine z3p ?_;(conv=>whnf);refine z3b rfl (fun hc=>?_) (fun hc=>?_)
  ·have hxz:x=z:=of_decide_eq_true hc
   have hk6:si.kind=6:=(by rcases hkin with h|h;exact h.1;exact absurd hxz h.2.1);refine z3p ?_;refine kB ?_;refine ⟨_,zd1 (off:=0+1) d2 rfl,?_⟩;rw [hk6];refine kB ?_;refine z3t ?_;(conv=>whnf);refine zcl (zcg ?_);(conv=>whnf)
   exact zmj rfl fun w9 hB9=>⟨rfl,zdj hB7 hB9⟩
  ·have hxz:¬x=z:=of_decide_eq_false hc
   have hk5:si.kind=5∧M'.load (cxE G 19) 0 4=x:=(by rcases hkin with h|h;exact absurd h.2 hxz;exact ⟨h.1,h.2.2⟩);refine z3q (zcd ?_);refine z3p ?_;refine kB ?_;refine ⟨_,zd1 (off:=0+1) d2 rfl,?_⟩;rw [hk5.1];refine kB ?_;refine ze2 (xs:=[pV h,intV 19]) rfl zK (fun r w' hR=>ya2 (ho7.later hR.toBelow) hM' 19 zO zO) ?_;rw [show ((256*G:Nat):Int)+4*19=cxE G 19 by unfold cxE;omega,hk5.2];refine kB ?_;refine z3t ?_;(conv=>whnf);refine zcg ?_;(conv=>whnf)
   exact zmj rfl fun w9 hB9=>⟨by rw [beq_self_eq_true];rfl,zdj hB7 hB9⟩
end
open Go.ChangeShapes Go.WideShapes Go.ChangeAt Go.RowKit
theorem ycm (os:Os) (started:os.Started) (H:Type) (enc:TypeId×Value→H):
  ReturnsInHanded {} Tryz.checked os 9 .any (Rows.qemitPredictsSpec.pre6 enc Tryz.prog Tryz.f9 Rows.qemitPredictsRow.domain false) (Rows.qemitPredictsSpec.post enc Tryz.prog Tryz.f9 false true false false):=by
 refine returnsInHanded_of_change (C:=Tryz.checked) ownK started zK Tryz.func9
  (ChangeSpec.witness6 (enc:=enc) (C:=Tryz.checked) false ⟨#[],#[.int .u32 0,.int .u32 0,.bool false],[]⟩ 8 zK zK zK zK) ?_
 intro W base args ds gs before hval0 hW hcnd _;have hval:∀ (j:Nat) t v,Tryz.f9.params[j]?=some t→args[j]?=some v→Value.okWide Tryz.prog W .any base t v:=hval0;have hW':=hW;obtain ⟨p,q,hA0,hV,rfl,hfz,hnd⟩:=hW;have hA:DataW.TrodAll enc Tryz.prog W 0 (fun _=>true) true Tryz.f9.params.toList args.toList ds p:=hA0;rw [Tryz.params9] at hA hval;obtain ⟨v0,vs0,d0,ds0,p0,q0,hargs,rfl,rfl,h0,r0⟩:=trodAll_cons hA;obtain ⟨v1,vs1,d1,ds1,p1,q1,rfl,rfl,rfl,h1,r1⟩:=trodAll_cons r0;obtain ⟨v2,vs2,d2,ds2,p2,q2,rfl,rfl,rfl,h2,r2⟩:=trodAll_cons r1;obtain ⟨rfl,rfl,rfl⟩:=trodAll_nil r2;obtain rfl:args= #[v0,v1,v2]:=(by cases args;simp_all);obtain ⟨rfl,rfl⟩:=trodVars_none hV;clear hA0;obtain ⟨x0,rfl⟩:=okWide_int Tryz.underlying41 (hval 0 41 v0 rfl rfl);have hx0:=yci h0;obtain ⟨x1,rfl⟩:=okWide_int Tryz.underlying41 (hval 1 41 v1 rfl rfl);have hx1:=yci h1;obtain ⟨x2,rfl⟩:=okWide_bool Tryz.underlying4 (hval 2 4 v2 rfl rfl);have k0:=h0;have k1:=h1;have k2:=h2;have lt0:∀ x∈p0,x.block<W.heap.size:=(by obtain ⟨m,hm⟩:=k0;exact DataW.trod_lt m _ _ _ hm);have lt1:∀ x∈p1,x.block<W.heap.size:=(by obtain ⟨m,hm⟩:=k1;exact DataW.trod_lt m _ _ _ hm);have lt2:∀ x∈p2,x.block<W.heap.size:=(by obtain ⟨m,hm⟩:=k2;exact DataW.trod_lt m _ _ _ hm);clear hval0;refine (ycl x0 x1 x2 hx0 hx1 (w:=W)).mono fun e W' ⟨he,bel⟩=>?_;subst he;exact ⟨_,rfl,_,_,_,[],_,[],hW',trodAll_mk1 (shut_bool Tryz.underlying4 _),(trodAll_cons_mk (Below.trod yce zK (of_decide_eq_true zK) k0 bel lt0) (trodAll_cons_mk (Below.trod yce zK (of_decide_eq_true zK) k1 bel lt1) (trodAll_cons_mk (Below.trod yce zK (of_decide_eq_true zK) k2 bel lt2) trodAll_mk0))),rfl,bel.frame _,fun h=>by cases h⟩
theorem qemitPredicts_holds:Rows.QemitPredictsSaid:=
 OpenClaim.holds_of_wide 9 Tryz.f9 rfl rfl rfl rfl rfl rfl rfl ⟨rfl,rfl,rfl,rfl,rfl⟩ rfl rfl rfl rfl rfl (by kernel_rfl) Tryz.func9 (by kernel_rfl)
  (of_decide_eq_true (by kernel_rfl)) (by unfold Func.isWrapper;first|(rw [if_pos (by decide+kernel)];kernel_rfl)|(rw [if_neg (by decide+kernel)];exact ⟨rfl,rfl⟩))
  (fun os started H enc _=>ycm os started H enc)
end Go.Proofs.YtocafomnnkmjfaaGreat
#print axioms Go.Proofs.YtocafomnnkmjfaaGreat.qemitPredicts_holds
