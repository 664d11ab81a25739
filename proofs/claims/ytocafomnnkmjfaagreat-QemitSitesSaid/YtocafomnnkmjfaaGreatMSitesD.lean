import Derived.Test.YtocafomnnkmjfaaGreatMSitesC
set_option maxRecDepth 100000
set_option maxHeartbeats 8000000
namespace Go.Proofs.YtocafomnnkmjfaaGreat
open Go.RowKit
def cntL (l:List SiteP):List CV:=[.v (.int .i64 (cntS 0 l:Nat)),.v (.int .i64 (cntS 1 l:Nat)),.v (.int .i64 (cntS 2 l:Nat)),.v (.int .i64 (cntS 3 l:Nat)),.v (.int .i64 (cntS 4 l:Nat)),.v (.int .i64 (cntS 5 l:Nat)),.v (.int .i64 (cntS 6 l:Nat))]
theorem yc7 {x y:Int} (h:x=0∨x=y):bits .andNot .u32 x y=0:=by
 show IntKind.u32.wrap ((BitVec.ofInt 32 x &&& ~~~ BitVec.ofInt 32 y).toNat:Int)=0;rcases h with rfl|rfl
 ·rw [show BitVec.ofInt 32 0=0#32 from rfl,BitVec.zero_and];rfl
 ·rw [BitVec.and_not_self];rfl
theorem ydl (k:Int):∀ l:List SiteP,cntS k l≤l.length
 |[]=>Nat.le_refl 0
 |x::l=>by
  have:=ydl k l;show (if x.kind=k then 1 else 0)+cntS k l≤l.length+1
  split<;>omega
section
variable {w:World}
theorem ye1 (A0:Option Addr) (l0 c0:Nat) (xs0:List Int) (A1':Option Addr) (l1 c1':Nat) (xs1:List Int) (n0 n1 n2 n3:Int) (hs0:SlAt w w.heap.size A0 (xs0.map intV)) (hl0:xs0.length=l0) (hs1:SlAt w w.heap.size A1' (xs1.map intV)) (hl1:xs1.length=l1):
  Calls Tryz.prog 8 #[.slice A0 l0 c0,.slice A1' l1 c1',ycb n0 n1 n2 n3] w fun e w'=>e= .returned (.bool true)∧Below w.heap.size w w':=by
 refine zfg [.slice A0 l0 c0,.slice A1' l1 c1',ycb n0 n1 n2 n3] Tryz.func8 Tryz.ntmps8 rfl zS ?_;refine z3p ?_;(conv=>whnf);refine z3m fun r w1 hR=>?_;obtain ⟨p5,us,n51,n52,n53⟩:=hR.own 0 _ rfl;obtain rfl:=zis (us:=[intV n0,intV n1,intV n2,intV n3]) n53;have hB1:=hR.toBelow;refine ⟨z6k [(0,.slice A0 l0 c0),(1,.slice A1' l1 c1'),(5,pV p5)],fun a' hf=>z6t ⟨z6r hf rfl,z6r hf rfl,z6p hf 5 rfl n51,trivial⟩,?_⟩;clear hR n53 n51;refine z3p ?_;(conv=>whnf);refine ze2 (x:= .bool true) (xs:=[]) rfl zK (fun r w' hR=>z2z) ?_;(conv=>whnf);refine z3d (z3e 1 rfl rfl rfl ?_);(conv=>whnf);refine ⟨by kernel_rfl,fun r w2 us' hR hd=>?_⟩;obtain rfl:=zcs (xs:=[.slice A0 l0 c0]) rfl hd;have hB2:=zdg hB1 hR.toBelow hB1.size;have hB12:=hR.toBelow
 refine (yeh A0 l0 c0 xs0 ((hs0.below hB2 (Nat.le_refl _)).more hB2.size) hl0).mono fun e w3 ⟨b,hb,A1,A2,A3,c1,c2,c3,he,hBA3,hB23⟩=>⟨_,he,?_⟩
 have hB3:=zdg hB2 hB23 hB2.size;have hB13:=zdg hB12 hB23 hB12.size;have n53:=(hB13.block p5 (zpt n52)).trans n52;clear hR hd hB2 hB12 hB23 n52 hB13;(conv=>whnf);refine zcd ?_;refine z3m fun r w4 hR=>?_;obtain ⟨p8,us,e1,e2,e3⟩:=hR.own 0 _ rfl;obtain rfl:=zis (us:=[.slice A1 b.at_.length c1,.slice A2 b.pages.length c2,.slice A3 b.ops.length c3]) e3;have hB34:=hR.toBelow;refine ⟨z6k [(1,.slice A1' l1 c1'),(5,pV p5),(7,.bool true),(8,pV p8)],fun a' hf=>z6t ⟨z6r hf rfl,z6r hf rfl,z6r hf rfl,z6p hf 8 rfl e1,trivial⟩,?_⟩;have hB4:=zdg hB3 hB34 hB3.size;have hBA4:=hBA3.later hB34;have n54:=(hB34.block p5 (zpt n53)).trans n53;clear hR e3 e1 hB3 hBA3 n53 hB34;refine z3p ?_;(conv=>whnf)
 refine yda (fun v=>∃ a,AlR a 9∧v= .agg (alL a).toArray) (xs:=[.slice A1' l1 c1',intV 9]) rfl zK (fun r w' hR=>by
  have hBw:=zdg hB4 hR.toBelow hB4.size;have hm:=yej A1' c1' xs1 (w:=w') ((hs1.below hBw (Nat.le_refl _)).more hBw.size);rw [hl1] at hm
  exact hm.mono fun e w'' ⟨a,h1,h2,h3⟩=>⟨_,h2,⟨a,h1,rfl⟩,h3⟩) ?_
 rintro v ⟨a,ha,rfl⟩;have hA:AlOk a:=ha.ok (Nat.le_refl _);have hva:=za4 hA;have hal:=ha.range (Nat.le_refl _);have hal28:=ha.len;have hla:=zq3 hal28;(conv=>whnf);erw [zdl (l:=List.map CV.v (alL a)) (n:=28) hla];(conv=>whnf);rw [zwl];(conv=>whnf);erw [show Nat.ble (0+(List.map CV.v (alL a)).length) (List.map CV.v (alL (List.replicate 28 0))).length=true from Nat.ble_eq_true_of_le (by rw [hla];decide)];(conv=>whnf);refine z3m fun r w5 hR=>?_;obtain ⟨p9,us,f1,f2,f3⟩:=hR.own 0 _ rfl;have f3':denL r (z36 (List.map CV.v (alL (List.replicate 28 0))) 0 (List.map CV.v (alL a))) us:=f3;rw [z4a (by rw [hla];rfl)] at f3';obtain rfl:=zis (us:=alL a) f3';have hB45:=hR.toBelow;refine ⟨z6k [(5,pV p5),(7,.bool true),(8,pV p8),(9,pV p9)],fun a' hf=>z6t ⟨z6r hf rfl,z6r hf rfl,z6r hf rfl,z6p hf 9 rfl f1,trivial⟩,?_⟩;have hB5:=zdg hB4 hB45 hB4.size;have hBA5:=hBA4.later hB45;have n55:=(hB45.block p5 (zpt n54)).trans n54;have e25:=(hB45.block p8 (zpt e2)).trans e2;clear hR f3 f3' f1 hB4 hBA4 n54 hB45 e2
 have nn:∀ b,b∉Gs.flat ⟨[],[]⟩:=fun b hm=>by rcases zm5.1 hm with h|h<;>cases h
 refine z3k (α:=Nat×(Option Addr×Nat)×Nat) (fun y=>z6k [(7,.bool true),(8,pV p8),(9,pV p9),(10,pV y.2.2),(11,.bool true)]) (fun y w'=>Below w5.heap.size w5 w'∧(1≤y.1∧y.1≤4)∧yc5 (yan b a (256*(y.1:Int)) (256*(y.1:Int)) 0) y.2.1.1 w'∧w'.heap[y.2.2]?=some (.cells (codV (yan b a (256*(y.1:Int)) (256*(y.1:Int)) 0) y.2.1.1 y.2.1.2).cells coT (0,0))) ?_ fun y w6 hJ6=>?_
 ·refine z3r [] (.q 0 (.q 1 (.q 2 (.alt 3 (.alt 4 (.q 5 (.q 6 (.q 7 (.alt 8 (.alt 9 (.q 10 .done) .no) .no)))) (.alt 8 (.alt 4 (.q 5 (.q 6 (.q 7 (.alt 9 (.q 10 .done) .no)))) .no) .no)) (.alt 8 (.alt 3 (.alt 4 (.q 5 (.q 6 (.q 7 (.alt 9 (.q 10 .done) .no)))) .no) .no) .no))))) (fun w=>Below w5.heap.size w5 w) (fun w hB=>hB) mixed zK zK ?_
  (conv=>whnf);refine ⟨_,zfo (zd0 e25) (nn _),rfl,?_⟩;(conv=>whnf);refine ⟨alL a,zfo (zd0 f2) (nn _),by rw [List.length_map,hal28];rfl,?_⟩;(conv=>whnf);refine ⟨_,zfo (zd0 n55) (nn _),rfl,?_⟩;have hst0:=ye6 w5;(conv=>whnf);refine ⟨?_,?_,trivial⟩
  ·refine yef n0 n1 n2 n3 hst0 rfl fun y=>?_
   (conv=>whnf);refine ⟨?_,?_,trivial⟩
   ·refine yed (y:=y) hb.ok hb.valid hBA5 hal28 hva hal (hst0.and (yek y)) (fun w h=>h) (yb5 _ _ a) fun z=>?_
    have hst1:=(hst0.and (yek y)).and (ye2 (yan b a (256*(y.G:Int)) (256*(y.G:Int)) 0) z.1);(conv=>whnf);refine ⟨?_,trivial⟩;(conv=>whnf);intro p hp;(conv=>whnf);refine ⟨?_,trivial⟩;(conv=>whnf);refine ⟨[strV (z8u (yan b a (256*(y.G:Int)) (256*(y.G:Int)) 0)),.slice z.1 (z5x 0 (yan b a (256*(y.G:Int)) (256*(y.G:Int)) 0)).length z.2],[strV [],.slice none 0 0],coT,.inl hp,rfl,rfl,rfl,Nat.le_refl 2,fun w hh hj=>hj.get,?_⟩;(conv=>whnf);intro w' hh hj;obtain ⟨h1,h2⟩:=ydv (yfo _ _ _ _ _) (fun w hj=>⟨(hj.keep hst1).2,hj.get⟩) hj;obtain ⟨w0,hj0,_⟩:=hj.out;have hG:=(hj0.keep hst1).1.2.G
    exact zb9 fun r w9 hR=>⟨(y.G,z,p),fun a' hf=>z6t ⟨z6r hf rfl,z6r hf rfl,z6r hf rfl,z6r hf rfl,z6r hf rfl,trivial⟩,zdg (yc8 hh) hR.toBelow hh.size,hG,ye2 _ _ _ _ h1 hR.toBelow,(hR.toBelow.block p (zpt h2)).trans h2⟩
   ·conv=>whnf
    intro p hp;(conv=>whnf);have hst1:Stable (AllocJ w5 ⟨[],[]⟩ (fun w=>Below w5.heap.size w5 w∧MemY y w) p (.cells #[strV [],.slice none 0 0] coT (0,0))):=yc6;refine ⟨?_,trivial⟩;refine yed (y:=y) hb.ok hb.valid hBA5 hal28 hva hal hst1 (fun w h=>h.keep (hst0.and (yek y))) (yb5 _ _ a) fun z=>?_;(conv=>whnf);refine ⟨?_,trivial⟩;(conv=>whnf);refine ⟨[strV (z8u (yan b a (256*(y.G:Int)) (256*(y.G:Int)) 0)),.slice z.1 (z5x 0 (yan b a (256*(y.G:Int)) (256*(y.G:Int)) 0)).length z.2],[strV [],.slice none 0 0],coT,.inl hp,rfl,rfl,rfl,Nat.le_refl 2,fun w hh hj=>hj.1.get,?_⟩;(conv=>whnf);intro w' hh hj;obtain ⟨h1,h2⟩:=ydv (yfo _ _ _ _ _) (fun w hj=>⟨hj.2,hj.1.get⟩) hj;obtain ⟨w0,hj0,_⟩:=hj.out;have hG:=(hj0.1.keep (hst0.and (yek y))).2.G
    exact zb9 fun r w9 hR=>⟨(y.G,z,p),fun a' hf=>z6t ⟨z6r hf rfl,z6r hf rfl,z6r hf rfl,z6r hf rfl,z6r hf rfl,trivial⟩,zdg (yc8 hh) hR.toBelow hh.size,hG,ye2 _ _ _ _ h1 hR.toBelow,(hR.toBelow.block p (zpt h2)).trans h2⟩
  ·conv=>whnf
   intro p hp;(conv=>whnf);have hst1:Stable (AllocJ w5 ⟨[],[]⟩ (fun w=>Below w5.heap.size w5 w) p (.cells #[strV [],.slice none 0 0] coT (0,0))):=yc6;refine ⟨?_,trivial⟩;refine yef n0 n1 n2 n3 hst1 rfl fun y=>?_;(conv=>whnf);refine ⟨?_,trivial⟩;refine yed (y:=y) hb.ok hb.valid hBA5 hal28 hva hal (hst1.and (yek y)) (fun w h=>⟨h.1.keep hst0,h.2⟩) (yb5 _ _ a) fun z=>?_;(conv=>whnf);refine ⟨?_,trivial⟩;(conv=>whnf);refine ⟨[strV (z8u (yan b a (256*(y.G:Int)) (256*(y.G:Int)) 0)),.slice z.1 (z5x 0 (yan b a (256*(y.G:Int)) (256*(y.G:Int)) 0)).length z.2],[strV [],.slice none 0 0],coT,.inl hp,rfl,rfl,rfl,Nat.le_refl 2,fun w hh hj=>hj.1.1.get,?_⟩;(conv=>whnf);intro w' hh hj;obtain ⟨h1,h2⟩:=ydv (yfo _ _ _ _ _) (fun w hj=>⟨hj.2,hj.1.1.get⟩) hj;obtain ⟨w0,hj0,_⟩:=hj.out;have hG:=hj0.1.2.G
   exact zb9 fun r w9 hR=>⟨(y.G,z,p),fun a' hf=>z6t ⟨z6r hf rfl,z6r hf rfl,z6r hf rfl,z6r hf rfl,z6r hf rfl,trivial⟩,zdg (yc8 hh) hR.toBelow hh.size,hG,ye2 _ _ _ _ h1 hR.toBelow,(hR.toBelow.block p (zpt h2)).trans h2⟩
 obtain ⟨G,⟨A,cp⟩,p10⟩:=y;dsimp only at hJ6⊢;obtain ⟨hB56,hG,hsl6,y6⟩:=hJ6;have hB6:=zdg hB5 hB56 hB5.size;have hBA6:=hBA5.later hB56;have e26:=(hB56.block p8 (zpt e25)).trans e25;have f26:=(hB56.block p9 (zpt f2)).trans f2;clear hB5 hBA5 hB56 n55 e25 f2;have hit:AllIt (yan b a (256*(G:Int)) (256*(G:Int)) 0):=yap hb.ok hb.valid (by unfold word;omega) zO yaw;have hgood:=yfn (a:=a) (ctx:=256*(G:Int)) (size:=256*(G:Int)) hb.ok hb.valid hit;have hc1:=yfl (a:=a) (ctx:=256*(G:Int)) (size:=256*(G:Int)) (pred:=0) (c:=1) (.inl rfl) hb.valid;have hc5:=yfl (a:=a) (ctx:=256*(G:Int)) (size:=256*(G:Int)) (pred:=0) (c:=5) (.inr (.inl rfl)) hb.valid;have hc6:=yfl (a:=a) (ctx:=256*(G:Int)) (size:=256*(G:Int)) (pred:=0) (c:=6) (.inr (.inr rfl)) hb.valid;have hsc:=z5z (yan b a (256*(G:Int)) (256*(G:Int)) 0) 0;have hwl:=yao (b:=b) (a:=a) (ctx:=256*(G:Int)) (size:=256*(G:Int)) (pred:=0) hb.valid;obtain ⟨hll,hlo⟩:=z9x hb.valid
 obtain ⟨l,hle⟩:∃ l,l=yan b a (256*(G:Int)) (256*(G:Int)) 0:=⟨_,rfl⟩
 rw [← hle] at hgood hc1 hc5 hc6 hsc hwl hsl6 y6;rw [← ydm _ _ 0] at hc1 hc5 hc6;have htl:=z8v l;have y6:w6.heap[p10]?=some (.cells ([strV (z8u l),.slice A (z5x 0 l).length cp]:List Value).toArray coT (0,0)):=y6;unfold yc5 at hsl6;generalize z5x 0 l=SS at*;refine z3d ?_;refine z3p ?_;(conv=>whnf);refine z3b (t:=false) rfl (fun hc=>Bool.noConfusion (show false=true from hc)) (fun _=>z3q (zcd ?_));refine z3p ?_;(conv=>whnf);refine z3d ?_;refine z3p ?_;(conv=>whnf);refine z3a ?_;refine z3i (fun j:{j:Nat//j≤19}=>[(7,one (.bool true)),(8,one (pV p8)),(9,one (pV p9)),(10,one (pV p10)),(12,one (.int .u32 (zs4 a j.1:Nat))),(13,one (.int .i64 (j.1:Int)))]) (fun _ w'=>Below w6.heap.size w6 w') (fun j=>19-j.1) ⟨0,by omega⟩ Tn (fun r w' hR=>hR.toBelow) (fun j w' hJ=>?_);obtain ⟨j,hj⟩:=j;dsimp only at hJ⊢;have f2':=(hJ.block p9 (zpt f26)).trans f26;refine z3d ?_;refine z3p ?_;(conv=>whnf);refine z3b rfl (fun hc=>z3q (zcd ?_)) (fun hc=>?_)
 ·have hlt:j<19:=by have:=of_decide_eq_true hc;omega
  refine z3k (α:=Unit) (fun _=>[(7,one (.bool true)),(8,one (pV p8)),(9,one (pV p9)),(10,one (pV p10)),(12,one (.int .u32 (zs4 a (j+1):Nat))),(13,one (.int .i64 (j:Int)))]) (fun _ w2=>Below w6.heap.size w6 w2) ?_ fun _ w2 hB=>?_
  ·refine z3a ?_
   refine z3p ?_;(conv=>whnf);refine z0h (size:=1) p9 0 28 (j:Int) rfl rfl rfl rfl rfl rfl zO zO ?_;(conv=>whnf);refine ⟨_,za3 f2' hal28 (v:=(j:Int)) zO,?_⟩;(conv=>whnf);refine z3b rfl (fun hg=>?_) (fun hg=>?_)
   ·have h0:0≤getV a (j:Int):=of_decide_eq_true hg
    have hlb:zs4 a j<2^32:=zs5 a j zO;refine z3t ?_;(conv=>whnf);refine ⟨(j:Int),ybk zO,?_⟩;(conv=>whnf);refine ⟨by omega,((2^j:Nat):Int),zdu j zO,?_⟩;(conv=>whnf);refine ⟨((zs4 a j|||2^j:Nat):Int),zxg _ hlb j zO,?_⟩;(conv=>whnf);rw [show zs4 a (j+1)=zs4 a j|||2^j by show (if _ then _ else _)=_;rw [if_pos h0]];exact zb4 (zca () Tn fun r w3 hR=>zdg hJ hR.toBelow hJ.size)
   ·have h0:¬0≤getV a (j:Int):=of_decide_eq_false hg
    refine z3q (zb4 ?_);rw [show zs4 a (j+1)=zs4 a j by show (if _ then _ else _)=_;rw [if_neg h0]];exact zca () Tn fun r w3 hR=>zdg hJ hR.toBelow hJ.size
  ·refine z3t ?_
   (conv=>whnf);refine ⟨((j+1:Nat):Int),by rw [show (j:Int)+1=((j+1:Nat):Int) by omega];exact wr64 zO,?_⟩;(conv=>whnf);exact zcc ⟨j+1,by omega⟩ Tn (fun r w3 hR=>zdg hB hR.toBelow hB.size) (by show 19-(j+1)<19-j;omega)
 have hj19:j=19:=(by have:=of_decide_eq_false hc;omega);subst hj19;refine z3t ?_;(conv=>whnf);refine zb7 (zcf (zb6 (zcd ?_)));have hB7:=zdg hB6 hJ hB6.size;have hBA7:=hBA6.later hJ;have e27:=(hJ.block p8 (zpt e26)).trans e26;have y7:=(hJ.block p10 (zpt y6)).trans y6;have hsl7:SlAt w' w'.heap.size A (SS.flatMap z5r):=(hsl6.below hJ (Nat.le_refl _)).more hJ.size;clear hB6 hBA6 e26 y6 hsl6 hJ f2' f26
 obtain ⟨lv,hlv⟩:∃ lv,lv=((zs4 a 19:Nat):Int):=⟨_,rfl⟩
 rw [← hlv];refine z3p ?_;(conv=>whnf);refine z3d ?_;refine z3p ?_;(conv=>whnf);refine z3a ?_;refine z3g (α:={j:Nat//j≤SS.length}) (fun x=>[(7,one (.bool true)),(8,one (pV p8)),(10,one (pV p10)),(12,one (.int .u32 lv)),(14,.p (.c (.ref 0 0))),(15,one (.int .i64 (x.1:Int)))]) (fun x=>[.cells 79 (cntL (SS.take x.1))]) (fun x=>SS.length-x.1) ⟨0,by omega⟩ (zj7 rfl Tn (aI sM trivial)) (fun x=>?_);obtain ⟨i,hi⟩:=x;dsimp only at hi⊢;refine z3d ?_;refine z3p ?_;(conv=>whnf);refine ⟨_,zd1 (off:=0+1) y7 rfl,?_⟩;(conv=>whnf);refine z3b rfl (fun hc=>z3q (zcd ?_)) (fun hc=>?_)
 ·have hlt:i<SS.length:=by have:=of_decide_eq_true hc;omega
  obtain ⟨x,hx⟩:∃ x,SS[i]?=some x:=⟨_,List.getElem?_eq_getElem hlt⟩
  obtain ⟨bb,of2,hA,hcl⟩:=zfv hsl7 hx;have gx:=hgood i x hx;have htk:SS.take (i+1)=SS.take i++[x]:=(by rw [List.take_add_one,hx];rfl);refine z3j (α:=Unit) (fun _=>[(7,one (.bool true)),(8,one (pV p8)),(10,one (pV p10)),(12,one (.int .u32 lv)),(14,.p (.c (.ref 0 0))),(15,one (.int .i64 (i:Int)))]) (fun _=>[.cells 79 (cntL (SS.take (i+1)))]) ?_ fun _=>?_
  ·refine z3a ?_
   refine z3p ?_;(conv=>whnf);refine ⟨_,zd1 (off:=0+1) y7 rfl,?_⟩;rw [hA];(conv=>whnf)
   (refine ⟨⟨by omega,by omega⟩,?_⟩;(conv=>whnf))
   refine ⟨z5r x,hcl,rfl,?_⟩;(conv=>whnf);refine z3d ?_;refine z3p ?_;(conv=>whnf);rw [show decide (x.kind<1)=false from decide_eq_false (by have:=gx.kind;omega)];refine kB ?_;rw [show decide (x.kind>6)=false from decide_eq_false (by have:=gx.kind;omega)];refine kB ?_;refine z3b (t:=false) rfl (fun hc=>Bool.noConfusion (show false=true from hc)) (fun _=>z3q (zcd ?_));refine z3j (α:=Unit) (fun _=>[(7,one (.bool true)),(8,one (pV p8)),(10,one (pV p10)),(12,one (.int .u32 lv)),(14,.p (.c (.ref 0 0))),(15,one (.int .i64 (i:Int))),(16,.p (.c (.ref 1 0)))]) (fun _=>[.cells 79 (cntL (SS.take (i+1))),.cells siT ((z5r x).map .v)]) ?_ fun _=>?_
   ·have hck:∀ k,cntS k (SS.take (i+1))=cntS k (SS.take i)+if x.kind=k then 1 else 0:=fun k=>by rw [htk];exact ydn k x _
    have hcl0:∀ k,cntS k (SS.take i)≤100000:=fun k=>by have:=ydl k (SS.take i);have:=List.length_take_le i SS;omega
    obtain ⟨off,kind,index,target,live,const⟩:=x;have gk:=gx.kind;dsimp only at gk hck;generalize SS.take (i+1)=L1 at*;generalize SS.take i=L0 at*
    have hfin:∀ {c:List CV},[.v (.int .i64 ((cntS 0 L0+if kind=0 then 1 else 0:Nat):Int)),.v (.int .i64 ((cntS 1 L0+if kind=1 then 1 else 0:Nat):Int)),.v (.int .i64 ((cntS 2 L0+if kind=2 then 1 else 0:Nat):Int)),.v (.int .i64 ((cntS 3 L0+if kind=3 then 1 else 0:Nat):Int)),.v (.int .i64 ((cntS 4 L0+if kind=4 then 1 else 0:Nat):Int)),.v (.int .i64 ((cntS 5 L0+if kind=5 then 1 else 0:Nat):Int)),.v (.int .i64 ((cntS 6 L0+if kind=6 then 1 else 0:Nat):Int))]=c→c=cntL L1:=fun {c} h=>by
     subst h;unfold cntL;rw [hck 0,hck 1,hck 2,hck 3,hck 4,hck 5,hck 6]
    refine z3t ?_;rcases (by omega:kind=1∨kind=2∨kind=3∨kind=4∨kind=5∨kind=6) with rfl|rfl|rfl|rfl|rfl|rfl
    ·conv=>whnf
     refine ⟨⟨by show (0:Int)≤1;decide,by show (1:Int)<7;decide⟩,?_⟩;(conv=>whnf);refine ⟨((cntS 1 L0+1:Nat):Int),by have:=hcl0 1;rw [show (cntS 1 L0:Int)+1=((cntS 1 L0+1:Nat):Int) by omega];exact wr64 zO,?_⟩;(conv=>whnf);refine ⟨⟨by show (0:Int)≤1;decide,by show (1:Int)<7;decide⟩,?_⟩;(conv=>whnf);exact zb8 () (zj7 rfl Tn (aI ((aI rfl (Or.inl (hfin rfl)))) (aI sM trivial)))
    ·conv=>whnf
     refine ⟨⟨by show (0:Int)≤2;decide,by show (2:Int)<7;decide⟩,?_⟩;(conv=>whnf);refine ⟨((cntS 2 L0+1:Nat):Int),by have:=hcl0 2;rw [show (cntS 2 L0:Int)+1=((cntS 2 L0+1:Nat):Int) by omega];exact wr64 zO,?_⟩;(conv=>whnf);refine ⟨⟨by show (0:Int)≤2;decide,by show (2:Int)<7;decide⟩,?_⟩;(conv=>whnf);exact zb8 () (zj7 rfl Tn (aI ((aI rfl (Or.inl (hfin rfl)))) (aI sM trivial)))
    ·conv=>whnf
     refine ⟨⟨by show (0:Int)≤3;decide,by show (3:Int)<7;decide⟩,?_⟩;(conv=>whnf);refine ⟨((cntS 3 L0+1:Nat):Int),by have:=hcl0 3;rw [show (cntS 3 L0:Int)+1=((cntS 3 L0+1:Nat):Int) by omega];exact wr64 zO,?_⟩;(conv=>whnf);refine ⟨⟨by show (0:Int)≤3;decide,by show (3:Int)<7;decide⟩,?_⟩;(conv=>whnf);exact zb8 () (zj7 rfl Tn (aI ((aI rfl (Or.inl (hfin rfl)))) (aI sM trivial)))
    ·conv=>whnf
     refine ⟨⟨by show (0:Int)≤4;decide,by show (4:Int)<7;decide⟩,?_⟩;(conv=>whnf);refine ⟨((cntS 4 L0+1:Nat):Int),by have:=hcl0 4;rw [show (cntS 4 L0:Int)+1=((cntS 4 L0+1:Nat):Int) by omega];exact wr64 zO,?_⟩;(conv=>whnf);refine ⟨⟨by show (0:Int)≤4;decide,by show (4:Int)<7;decide⟩,?_⟩;(conv=>whnf);exact zb8 () (zj7 rfl Tn (aI ((aI rfl (Or.inl (hfin rfl)))) (aI sM trivial)))
    ·conv=>whnf
     refine ⟨⟨by show (0:Int)≤5;decide,by show (5:Int)<7;decide⟩,?_⟩;(conv=>whnf);refine ⟨((cntS 5 L0+1:Nat):Int),by have:=hcl0 5;rw [show (cntS 5 L0:Int)+1=((cntS 5 L0+1:Nat):Int) by omega];exact wr64 zO,?_⟩;(conv=>whnf);refine ⟨⟨by show (0:Int)≤5;decide,by show (5:Int)<7;decide⟩,?_⟩;(conv=>whnf);exact zb8 () (zj7 rfl Tn (aI ((aI rfl (Or.inl (hfin rfl)))) (aI sM trivial)))
    ·conv=>whnf
     refine ⟨⟨by show (0:Int)≤6;decide,by show (6:Int)<7;decide⟩,?_⟩;(conv=>whnf);refine ⟨((cntS 6 L0+1:Nat):Int),by have:=hcl0 6;rw [show (cntS 6 L0:Int)+1=((cntS 6 L0+1:Nat):Int) by omega];exact wr64 zO,?_⟩;(conv=>whnf);refine ⟨⟨by show (0:Int)≤6;decide,by show (6:Int)<7;decide⟩,?_⟩;(conv=>whnf);exact zb8 () (zj7 rfl Tn (aI ((aI rfl (Or.inl (hfin rfl)))) (aI sM trivial)))
   ·obtain ⟨off,kind,index,target,live,const⟩:=x
    obtain ⟨gk,glive,gindex,gouter,gtarget,gword,gcon0,gat,gcon⟩:=gx;dsimp only at gk glive gindex gouter gtarget gword gcon0 gat gcon;refine z3p ?_;rcases (by omega:kind=1∨kind=2∨kind=3∨kind=4∨kind=5∨kind=6) with rfl|rfl|rfl|rfl|rfl|rfl
    ·obtain ⟨rfl,rfl⟩:=gouter zO
     obtain rfl:=gtarget (by decide) (by decide);obtain rfl:=gcon0 (by decide);refine kB ?_;refine z3d ?_;refine z3p ?_;refine kB ?_;refine ⟨0,yc7 (.inl rfl),?_⟩;refine kB ?_;refine ⟨_,zd1 (off:=0+0) e27 rfl,?_⟩;refine kB ?_;rw [show decide ((0:Int)≥(b.at_.length:Int))=false from decide_eq_false zO];refine kB ?_;refine z3b (t:=false) rfl (fun hc=>Bool.noConfusion (show false=true from hc)) (fun _=>z3q (zcd ?_))
     obtain ⟨q,rfl,hq1,hq2,hq3⟩:=gat
     refine z3p ?_;(conv=>whnf);refine ⟨_,zd1 (off:=0+0) y7 rfl,?_⟩;(conv=>whnf);refine ⟨((4*q+4:Nat):Int),by rw [show ((4*q:Nat):Int)+4=((4*q+4:Nat):Int) by omega];exact wr64 zO,?_⟩;(conv=>whnf);refine zwx (yeu (z8u l) (4*q) (4*q+4) rfl rfl rfl rfl rfl zO zO ?_) rfl;rw [show 4*q+4-4*q=4 by omega];rw [hq2 (by decide)];(conv=>whnf);refine z3d ?_;refine z3p ?_;(conv=>whnf);refine z3b (t:=false) rfl (fun hc=>Bool.noConfusion (show false=true from hc)) (fun _=>?_);refine z3p ?_;(conv=>whnf);refine ze2 (x:=strV unL) (xs:=[]) rfl zK (fun r w' hR=>yfk w') ?_;(conv=>whnf);refine yet unL rfl rfl rfl ?_;(conv=>whnf);refine z3b (t:=false) rfl (fun hc=>Bool.noConfusion (show false=true from hc)) (fun _=>z3q (zcd ?_));refine z3p ?_;refine z25 mixed zK ?_;refine kB ?_;refine z3b (t:=false) rfl (fun hc=>Bool.noConfusion (show false=true from hc)) (fun _=>?_);exact z3q (zb4 (zb8 () (zjy Tn (aI sM trivial) rfl rfl)))
    ·obtain rfl:=gtarget (by decide) (by decide)
     obtain rfl:=gcon0 (by decide);refine kB ?_;refine z3d ?_;refine z3p ?_;refine kB ?_;refine ⟨0,yc7 (by rw [hlv];exact glive),?_⟩;refine kB ?_;rw [show decide (index<0)=false from decide_eq_false zO];refine kB ?_;refine ⟨_,zd1 (off:=0+0) e27 rfl,?_⟩;refine kB ?_;rw [show decide (index≥(b.at_.length:Int))=false from decide_eq_false zO];refine kB ?_;refine z3b (t:=false) rfl (fun hc=>Bool.noConfusion (show false=true from hc)) (fun _=>z3q (zcd ?_))
     obtain ⟨q,rfl,hq1,hq2,hq3⟩:=gat
     refine z3p ?_;(conv=>whnf);refine ⟨_,zd1 (off:=0+0) y7 rfl,?_⟩;(conv=>whnf);refine ⟨((4*q+4:Nat):Int),by rw [show ((4*q:Nat):Int)+4=((4*q+4:Nat):Int) by omega];exact wr64 zO,?_⟩;(conv=>whnf);refine zwx (yeu (z8u l) (4*q) (4*q+4) rfl rfl rfl rfl rfl zO zO ?_) rfl;rw [show 4*q+4-4*q=4 by omega];rw [hq2 (by decide)];(conv=>whnf);refine z3d ?_;refine z3p ?_;(conv=>whnf);refine z3b (t:=false) rfl (fun hc=>Bool.noConfusion (show false=true from hc)) (fun _=>?_);refine z3p ?_;(conv=>whnf);refine ze2 (x:=strV unL) (xs:=[]) rfl zK (fun r w' hR=>yfk w') ?_;(conv=>whnf);refine yet unL rfl rfl rfl ?_;(conv=>whnf);refine z3b (t:=false) rfl (fun hc=>Bool.noConfusion (show false=true from hc)) (fun _=>z3q (zcd ?_));refine z3p ?_;refine z25 mixed zK ?_;refine kB ?_;refine z3b (t:=false) rfl (fun hc=>Bool.noConfusion (show false=true from hc)) (fun _=>?_);exact z3q (zb4 (zb8 () (zjy Tn (aI sM trivial) rfl rfl)))
    ·obtain rfl:=gtarget (by decide) (by decide)
     obtain rfl:=gcon0 (by decide);refine kB ?_;refine z3d ?_;refine z3p ?_;refine kB ?_;refine ⟨0,yc7 (by rw [hlv];exact glive),?_⟩;refine kB ?_;rw [show decide (index<0)=false from decide_eq_false zO];refine kB ?_;refine ⟨_,zd1 (off:=0+0) e27 rfl,?_⟩;refine kB ?_;rw [show decide (index≥(b.at_.length:Int))=false from decide_eq_false zO];refine kB ?_;refine z3b (t:=false) rfl (fun hc=>Bool.noConfusion (show false=true from hc)) (fun _=>z3q (zcd ?_))
     obtain ⟨q,rfl,hq1,hq2,hq3⟩:=gat
     refine z3p ?_;(conv=>whnf);refine ⟨_,zd1 (off:=0+0) y7 rfl,?_⟩;(conv=>whnf);refine ⟨((4*q+4:Nat):Int),by rw [show ((4*q:Nat):Int)+4=((4*q+4:Nat):Int) by omega];exact wr64 zO,?_⟩;(conv=>whnf);refine zwx (yeu (z8u l) (4*q) (4*q+4) rfl rfl rfl rfl rfl zO zO ?_) rfl;rw [show 4*q+4-4*q=4 by omega];obtain ⟨qi,hv3,hok3,hq23,hq26,htx⟩:=hq3 rfl;rw [htx];have hwq:=(zib hv3 hok3.imm).2;(conv=>whnf);refine z3d ?_;refine z3p ?_;(conv=>whnf);refine z3b (t:=true) rfl (fun _=>?_) (fun hc=>Bool.noConfusion (show true=false from hc));refine z3p ?_;(conv=>whnf)
     refine ze2 (x:= .int .u32 (yaz qi)) (xs:=[strV (putL (yaz qi))]) rfl zK (fun r w' hR=>by
      have:=zop (putL (yaz qi)) (zzi _ _) (yes _) w';rw [yd5 hwq] at this
      exact this) ?_
     conv=>whnf
     refine ze2 (x:=decV (some qi)) (xs:=[.int .u32 (yaz qi)]) rfl zK (fun r w' hR=>by
      have:=zic (yaz qi) w' hwq;rw [(zib hv3 hok3.imm).1] at this
      exact this) ?_
     (conv=>whnf);refine z3p ?_;refine kB ?_;rw [show decide (((some qi).getD QI.zero).op<23)=false from decide_eq_false (by show ¬qi.op<23;omega)];refine kB ?_;rw [show decide (((some qi).getD QI.zero).op>26)=false from decide_eq_false (by show ¬qi.op>26;omega)];refine kB ?_;refine z3b (t:=false) rfl (fun hc=>Bool.noConfusion (show false=true from hc)) (fun _=>z3q (zcd ?_));refine z3p ?_;refine z25 mixed zK ?_;refine kB ?_;refine z3b (t:=false) rfl (fun hc=>Bool.noConfusion (show false=true from hc)) (fun _=>?_);exact z3q (zb4 (zb8 () (zjy Tn (aI sM trivial) rfl rfl)))
    ·obtain ⟨rfl,rfl⟩:=gouter zO
     obtain rfl:=gcon0 (by decide);refine kB ?_;refine z3d ?_;refine z3p ?_;refine kB ?_;refine ⟨0,yc7 (.inl rfl),?_⟩;refine kB ?_;refine ⟨_,zd1 (off:=0+0) e27 rfl,?_⟩;refine kB ?_;rw [show decide ((0:Int)≥(b.at_.length:Int))=false from decide_eq_false zO];refine kB ?_;refine z3b (t:=false) rfl (fun hc=>Bool.noConfusion (show false=true from hc)) (fun _=>z3q (zcd ?_))
     obtain ⟨q,rfl,hq1,hq2,hq3⟩:=gat
     refine z3p ?_;(conv=>whnf);refine ⟨_,zd1 (off:=0+0) y7 rfl,?_⟩;(conv=>whnf);refine ⟨((4*q+4:Nat):Int),by rw [show ((4*q:Nat):Int)+4=((4*q+4:Nat):Int) by omega];exact wr64 zO,?_⟩;(conv=>whnf);refine zwx (yeu (z8u l) (4*q) (4*q+4) rfl rfl rfl rfl rfl zO zO ?_) rfl;rw [show 4*q+4-4*q=4 by omega];rw [hq2 (by decide)];(conv=>whnf);refine z3d ?_;refine z3p ?_;(conv=>whnf);refine z3b (t:=false) rfl (fun hc=>Bool.noConfusion (show false=true from hc)) (fun _=>?_);refine z3p ?_;(conv=>whnf);refine ze2 (x:=strV unL) (xs:=[]) rfl zK (fun r w' hR=>yfk w') ?_;(conv=>whnf);refine yet unL rfl rfl rfl ?_;(conv=>whnf);refine z3b (t:=false) rfl (fun hc=>Bool.noConfusion (show false=true from hc)) (fun _=>z3q (zcd ?_));refine z3p ?_;refine z25 mixed zK ?_;refine kB ?_;refine z3b (t:=false) rfl (fun hc=>Bool.noConfusion (show false=true from hc)) (fun _=>?_);exact z3q (zb4 (zb8 () (zjy Tn (aI sM trivial) rfl rfl)))
    ·obtain ⟨rfl,rfl⟩:=gouter zO
     obtain rfl:=gtarget (by decide) (by decide);obtain rfl:=gcon0 (by decide);refine kB ?_;refine z3d ?_;refine z3p ?_;refine kB ?_;refine ⟨0,yc7 (.inl rfl),?_⟩;refine kB ?_;refine ⟨_,zd1 (off:=0+0) e27 rfl,?_⟩;refine kB ?_;rw [show decide ((0:Int)≥(b.at_.length:Int))=false from decide_eq_false zO];refine kB ?_;refine z3b (t:=false) rfl (fun hc=>Bool.noConfusion (show false=true from hc)) (fun _=>z3q (zcd ?_))
     obtain ⟨q,rfl,hq1,hq2,hq3⟩:=gat
     refine z3p ?_;(conv=>whnf);refine ⟨_,zd1 (off:=0+0) y7 rfl,?_⟩;(conv=>whnf);refine ⟨((4*q+4:Nat):Int),by rw [show ((4*q:Nat):Int)+4=((4*q+4:Nat):Int) by omega];exact wr64 zO,?_⟩;(conv=>whnf);refine zwx (yeu (z8u l) (4*q) (4*q+4) rfl rfl rfl rfl rfl zO zO ?_) rfl;rw [show 4*q+4-4*q=4 by omega];rw [hq2 (by decide)];(conv=>whnf);refine z3d ?_;refine z3p ?_;(conv=>whnf);refine z3b (t:=false) rfl (fun hc=>Bool.noConfusion (show false=true from hc)) (fun _=>?_);refine z3p ?_;(conv=>whnf);refine ze2 (x:=strV unL) (xs:=[]) rfl zK (fun r w' hR=>yfk w') ?_;(conv=>whnf);refine yet unL rfl rfl rfl ?_;(conv=>whnf);refine z3b (t:=false) rfl (fun hc=>Bool.noConfusion (show false=true from hc)) (fun _=>z3q (zcd ?_));refine z3p ?_;refine z25 mixed zK ?_;refine kB ?_;refine z3b (t:=false) rfl (fun hc=>Bool.noConfusion (show false=true from hc)) (fun _=>?_);exact z3q (zb4 (zb8 () (zjy Tn (aI sM trivial) rfl rfl)))
    ·obtain ⟨rfl,rfl⟩:=gouter zO
     obtain ⟨rfl,u,rfl,hu1,hu2⟩:=gcon rfl;refine kB ?_;refine z3d ?_;refine z3p ?_;refine kB ?_;refine ⟨0,yc7 (.inl rfl),?_⟩;refine kB ?_;refine ⟨_,zd1 (off:=0+0) e27 rfl,?_⟩;refine kB ?_;rw [show decide ((0:Int)≥(b.at_.length:Int))=false from decide_eq_false zO];refine kB ?_;refine z3b (t:=false) rfl (fun hc=>Bool.noConfusion (show false=true from hc)) (fun _=>z3q (zcd ?_))
     obtain ⟨q,rfl,hq1,hq2,hq3⟩:=gat
     refine z3p ?_;(conv=>whnf);refine ⟨_,zd1 (off:=0+0) y7 rfl,?_⟩;(conv=>whnf);refine ⟨((4*q+4:Nat):Int),by rw [show ((4*q:Nat):Int)+4=((4*q+4:Nat):Int) by omega];exact wr64 zO,?_⟩;(conv=>whnf);refine zwx (yeu (z8u l) (4*q) (4*q+4) rfl rfl rfl rfl rfl zO zO ?_) rfl;rw [show 4*q+4-4*q=4 by omega];rw [hq2 (by decide)];(conv=>whnf);refine z3d ?_;refine z3p ?_;(conv=>whnf);refine z3b (t:=false) rfl (fun hc=>Bool.noConfusion (show false=true from hc)) (fun _=>?_);refine z3p ?_;(conv=>whnf);refine ze2 (x:=strV unL) (xs:=[]) rfl zK (fun r w' hR=>yfk w') ?_;(conv=>whnf);refine yet unL rfl rfl rfl ?_;(conv=>whnf);refine z3b (t:=false) rfl (fun hc=>Bool.noConfusion (show false=true from hc)) (fun _=>z3q (zcd ?_));refine z3p ?_;refine z25 mixed zK ?_;refine kB ?_;refine ⟨_,zd1 (off:=0+0) y7 rfl,?_⟩;refine kB ?_;refine ⟨((4*u+8:Nat):Int),by rw [show ((4*u:Nat):Int)+8=((4*u+8:Nat):Int) by omega];exact wr64 zO,?_⟩;refine kB ?_;refine yeu (z8u l) (4*u) (4*u+8) rfl rfl rfl rfl rfl zO zO ?_;rw [show 4*u+8-4*u=8 by omega,hu2];refine kB ?_;refine z0b (x:=strV (z8w (zgz 11 0))) (xs:=[.int .u32 0]) rfl zK (fun r w' hR=>yck 0 yaw w') ?_;refine kB ?_;refine yet (z8w (zgz 11 0)) rfl rfl rfl ?_;refine kB ?_;refine z3b (t:=false) rfl (fun hc=>Bool.noConfusion (show false=true from hc)) (fun _=>?_);exact z3q (zb4 (zb8 () (zjy Tn (aI sM trivial) rfl rfl)))
  ·refine z3t ?_
   (conv=>whnf);refine ⟨((i+1:Nat):Int),by rw [show (i:Int)+1=((i+1:Nat):Int) by omega];exact wr64 zO,?_⟩;(conv=>whnf);exact zcb ⟨i+1,by omega⟩ (zj7 rfl Tn (aI sM trivial)) (by show SS.length-(i+1)<SS.length-i;omega)
 have hiS:i=SS.length:=by have:=of_decide_eq_false hc;omega
 subst hiS
 refine z3t ?_
 conv=>whnf
 refine zb7 (zce (zb6 (zcd ?_)))
 have hops:0<b.ops.length:=by omega
 obtain ⟨o,ho⟩:∃ o,b.ops[b.ops.length-1]?=some o:=⟨_,List.getElem?_eq_getElem zO⟩
 have hlast:b.ops.getLast?=some o:=by rw [List.getLast?_eq_getElem?];exact ho
 rw [hlast] at hc5 hc6
 rw [List.take_length]
 refine z3p ?_
 conv=>whnf
 obtain ⟨bo,ofo,hA3,hco⟩:∃ bb off,A3=some ⟨bb,off,none⟩∧zac w' Gs.nil bb (off+((b.ops.length-1:Nat):Int).toNat*5) (opC o):=by
  obtain ⟨bb,off,rfl,_⟩:=OpsAt.open_ hBA7.ops zO;exact ⟨bb,off,rfl,zft hBA7.ops (fun hm=>by rcases hm with hm|hm<;>cases hm) ho⟩
 subst hA3
 have hvar:∀ v:Int,(v=if o.code=25 then 1 else 0)→(cntS 5 SS:Int)=v∧(cntS 6 SS:Int)=v:=fun v hv=>by
  rw [hc5,hc6,hv];by_cases h25:o.code=25
  ·simp [h25]
  ·simp [h25]
 refine z3j (α:={v:Int//v=if o.code=25 then 1 else 0}) (fun v=>[(7,one (.bool true)),(14,.p (.c (.ref 0 0))),(21,one (.int .i64 v.1))]) (fun v=>[.cells 79 (cntL SS)]) ?_ fun v=>?_
 ·refine z3p ?_
  (conv=>whnf);refine ⟨_,zd1 (off:=0+2) e27 rfl,?_⟩;(conv=>whnf);refine ⟨_,zd1 (off:=0+2) e27 rfl,?_⟩;(conv=>whnf);refine ⟨((b.ops.length-1:Nat):Int),by rw [show (b.ops.length:Int)-1=((b.ops.length-1:Nat):Int) by omega];exact wr64 zO,?_⟩;(conv=>whnf)
  (refine ⟨⟨by omega,by omega⟩,?_⟩;(conv=>whnf))
  refine ⟨_,zfm (k:=0) hco rfl,?_⟩;(conv=>whnf);refine z3b rfl (fun hg=>?_) (fun hg=>?_)
  ·refine z3t ?_
   (conv=>whnf);exact zb8 ⟨1,by rw [if_pos (of_decide_eq_true hg)]⟩ (zj7 rfl Tn (aI sM trivial))
  ·exact z3q (zb8 ⟨0,by rw [if_neg (of_decide_eq_false hg)]⟩ (zj7 rfl Tn (aI sM trivial)))
 ·obtain ⟨v,hv⟩:=v
  obtain ⟨h5,h6⟩:=hvar v hv;have h1:(cntS 1 SS:Int)=1:=(by rw [hc1];rfl);dsimp only;unfold cntL;rw [h1,h5,h6];refine z3p ?_;refine kB ?_
  (refine ⟨⟨by omega,by omega⟩,?_⟩;(conv=>whnf))
  refine kA ?_
  (refine ⟨⟨by omega,by omega⟩,?_⟩;(conv=>whnf))
  refine kA ?_;rw [beq_self_eq_true];refine kB ?_
  (refine ⟨⟨by omega,by omega⟩,?_⟩;(conv=>whnf))
  refine kA ?_;rw [beq_self_eq_true];refine kB ?_;refine z3t ?_;(conv=>whnf);refine zcg ?_;(conv=>whnf)
  exact zmj rfl fun w9 hB9=>⟨rfl,zdj hB7 hB9⟩
end
end Go.Proofs.YtocafomnnkmjfaaGreat
