import Derived.Test.YtocafomnnkmjfaaGreatMPlainC
set_option maxRecDepth 100000
set_option maxHeartbeats 8000000
namespace Go.Proofs.YtocafomnnkmjfaaGreat
open Go.RowKit
theorem yfy {P:Program} {f:Fr} {x y z:Operand} {n:Nat} {L0 L1 L2:List Value} (l0:L0.length=n) (l1:L1.length=n) (l2:L2.length=n) (h0:(f.ev x).okCells []=some (L0.map .v)) (h1:(f.ev y).okCells []=some (L1.map .v)) (h2:(f.ev z).okCells []=some (L2.map .v)):
  zl8 P [] f (fun k=>some (k*n,n)) [(0,x),(1,y),(2,z)] (List.replicate (3*n) .any)=some ((L0++L1++L2).map .v):=by
 have m0:(L0.map CV.v).length=n:=by rw [List.length_map,l0]
 have m1:(L1.map CV.v).length=n:=by rw [List.length_map,l1]
 have m2:(L2.map CV.v).length=n:=by rw [List.length_map,l2]
 have e:List.replicate (3*n) CV.any=List.replicate n .any++(List.replicate n .any++List.replicate n .any):=by rw [List.replicate_append_replicate,List.replicate_append_replicate];congr 1;omega
 have s0:z36 (List.replicate (3*n) CV.any) (0*n) (L0.map CV.v)=L0.map CV.v++(List.replicate n .any++List.replicate n .any):=by
  rw [e,Nat.zero_mul,yf4 _ _ _ 0 (by rw [m0,List.length_replicate];omega),z4a (by rw [m0,List.length_replicate])]
 have s1:z36 (L0.map CV.v++(List.replicate n .any++List.replicate n .any)) (1*n) (L1.map CV.v)=L0.map CV.v++(L1.map CV.v++List.replicate n .any):=by
  rw [show 1*n=(L0.map CV.v).length+0 by omega,yf3,yf4 _ _ _ 0 (by rw [m1,List.length_replicate];omega),z4a (by rw [m1,List.length_replicate])]
 have s2:z36 (L0.map CV.v++(L1.map CV.v++List.replicate n .any)) (2*n) (L2.map CV.v)=L0.map CV.v++(L1.map CV.v++L2.map CV.v):=by
  rw [← List.append_assoc,show 2*n=(L0.map CV.v++L1.map CV.v).length+0 by rw [List.length_append];omega,yf3,z4a (by rw [m2,List.length_replicate]),List.append_assoc]
 have b:∀ {l m:Nat},l≤m→Nat.ble l m=true:=fun h=>Nat.ble_eq_true_of_le h
 have q:∀ {l:Nat},l=n→Nat.beq l n=true:=fun h=>by subst h;exact Nat.beq_refl _
 unfold zl8;simp only [h0,q m0,b (show 0*n+n≤(List.replicate (3*n) CV.any).length by rw [List.length_replicate];omega),s0];unfold zl8;simp only [h1,q m1,b (show 1*n+n≤(L0.map CV.v++(List.replicate n CV.any++List.replicate n CV.any)).length by rw [List.length_append,List.length_append,List.length_replicate,m0];omega),s1];unfold zl8;simp only [h2,q m2,b (show 2*n+n≤(L0.map CV.v++(L1.map CV.v++List.replicate n CV.any)).length by rw [List.length_append,List.length_append,List.length_replicate,m0,m1];omega),s2];unfold zl8;rw [List.map_append,List.map_append,List.append_assoc]
section
variable {W:World} {gs:List Nat} {J:World→Prop}
theorem yf0 {args:List AV} {K:Value→(World→Prop)→Prop} (hst:Stable J) (hu:avals args=some []) (hK:K (.agg (alL zvn).toArray) J):JmpJ Tryz.prog W ⟨[],gs⟩ J 21 args K:=
 zro (.agg (alL zvn).toArray) hu zK hst (fun w _ _=>zvv w) hK
theorem yfz {args:List AV} {K:Value→(World→Prop)→Prop} {b:Blk} {A1 A2 A3:Option Addr} {c1 c2 c3:Nat} (hops:b.ops.length≤2000) (hBA:BlkAt W b A1 A2 A3) (regs:Nat) (hr:regs≤9) (hst:Stable J) (hJ:∀ w,J w→Below W.heap.size W w)
  (hu:avals args=some [blkV b A1 A2 A3 c1 c2 c3,intV (regs:Int)]) (hK:∀ a:{a:List Int//AlR a regs},K (.agg (alL a.1).toArray) fun w=>J w∧True):JmpJ Tryz.prog W ⟨[],gs⟩ J 22 args K:=
 yee (fun a:{a:List Int//AlR a regs}=> .agg (alL a.1).toArray) (fun _ _=>True) hu zK hst (fun w _ hj=>(yft b A1 A2 A3 c1 c2 c3 regs hr hops (hBA.later (hJ w hj)).ops).mono fun e w' ⟨a,h1,h2,h3⟩=>⟨⟨a,h1⟩,h2,trivial,h3⟩) hK
end
section
variable {w:World}
theorem yf1 (A0:Option Addr) (l0 c0:Nat) (xs0:List Int) (n0 n1 n2 n3 m0 m1 m2 m3:Int) (hs0:SlAt w w.heap.size A0 (xs0.map intV)) (hl0:xs0.length=l0):
  Calls Tryz.prog 4 #[.slice A0 l0 c0,ycb n0 n1 n2 n3,ycb m0 m1 m2 m3] w fun e w'=>e= .returned (.bool true)∧Below w.heap.size w w':=by
 refine zfg [.slice A0 l0 c0,ycb n0 n1 n2 n3,ycb m0 m1 m2 m3] Tryz.func4 Tryz.ntmps4 rfl zS ?_;refine z3p ?_;(conv=>whnf);refine z3m fun r w1 hR=>?_;obtain ⟨p4,us,n41,n42,n43⟩:=hR.own 0 _ rfl;obtain rfl:=zis (us:=[intV n0,intV n1,intV n2,intV n3]) n43;obtain ⟨p5,us,n51,n52,n53⟩:=hR.own 1 _ rfl;obtain rfl:=zis (us:=[intV m0,intV m1,intV m2,intV m3]) n53;have hB1:=hR.toBelow;refine ⟨z6k [(0,.slice A0 l0 c0),(4,pV p4),(5,pV p5)],fun a' hf=>z6t ⟨z6r hf rfl,z6p hf 4 rfl n41,z6p hf 5 rfl n51,trivial⟩,?_⟩;clear hR n43 n41 n53 n51;refine z3p ?_;(conv=>whnf);refine ze2 (x:= .bool true) (xs:=[]) rfl zK (fun r w' hR=>z2z) ?_;(conv=>whnf);refine z3d (z3e 1 rfl rfl rfl ?_);(conv=>whnf);refine ⟨by kernel_rfl,fun r w2 us' hR hd=>?_⟩;obtain rfl:=zcs (xs:=[.slice A0 l0 c0]) rfl hd;have hB2:=zdg hB1 hR.toBelow hB1.size;have hB12:=hR.toBelow
 refine (yeh A0 l0 c0 xs0 ((hs0.below hB2 (Nat.le_refl _)).more hB2.size) hl0).mono fun e w3 ⟨b,hb,A1,A2,A3,c1,c2,c3,he,hBA3,hB23⟩=>⟨_,he,?_⟩
 have hB3:=zdg hB2 hB23 hB2.size;have hB13:=zdg hB12 hB23 hB12.size;have n43:=(hB13.block p4 (zpt n42)).trans n42;have n53:=(hB13.block p5 (zpt n52)).trans n52;clear hR hd hB2 hB12 hB23 n42 n52 hB13;(conv=>whnf);refine zcd ?_;refine z3m fun r w4 hR=>?_;obtain ⟨p8,us,e1,e2,e3⟩:=hR.own 0 _ rfl;obtain rfl:=zis (us:=[.slice A1 b.at_.length c1,.slice A2 b.pages.length c2,.slice A3 b.ops.length c3]) e3;have hB34:=hR.toBelow;refine ⟨z6k [(4,pV p4),(5,pV p5),(7,.bool true),(8,pV p8)],fun a' hf=>z6t ⟨z6r hf rfl,z6r hf rfl,z6r hf rfl,z6p hf 8 rfl e1,trivial⟩,?_⟩;have hB4:=zdg hB3 hB34 hB3.size;have hBA4:=hBA3.later hB34;have n44:=(hB34.block p4 (zpt n43)).trans n43;have n54:=(hB34.block p5 (zpt n53)).trans n53;clear hR e3 e1 hB3 hBA3 n43 n53 hB34;refine z3d (z3e 1 rfl rfl rfl ?_);(conv=>whnf);refine ⟨_,zd0 n44,rfl,?_⟩;(conv=>whnf);refine ⟨by kernel_rfl,fun r w6 us' hR hd=>?_⟩;obtain rfl:=zcs (xs:=[ycb n0 n1 n2 n3]) rfl hd;have hB46:=hR.toBelow
 refine (ycf (w:=w6) n0 n1 n2 n3).mono fun e w7 ⟨G,g,gs,gm,he,hG,hgm,hU7,hfr,hB67⟩=>⟨_,he,?_⟩
 have hB47:=zdg hB46 hB67 hB46.size;have hB7:=zdg hB4 hB47 hB4.size;have hBA7:=hBA4.later hB47;have n47:=(hB47.block p4 (zpt n44)).trans n44;have n57:=(hB47.block p5 (zpt n54)).trans n54;have e27:=(hB47.block p8 (zpt e2)).trans e2
 have hY7:MemY ⟨g,gs,G,gm⟩ w7:=⟨hG,hgm,hU7⟩
 clear hR hd hB4 hB46 hB67 hBA4 hB47 n44 n54 e2 hfr hU7
 obtain ⟨y,hy⟩:∃ y:MemT,y=⟨g,gs,G,gm⟩:=⟨_,rfl⟩
 have hyg:y.g=g:=by rw [hy]
 rw [← hy] at hY7
 conv=>whnf
 refine zcd ?_
 have nn:∀ b,b∉Gs.flat ⟨[],[]⟩:=fun b hm=>by rcases zm5.1 hm with h|h<;>cases h
 have hops:b.ops.length≤2000:=by have:=hb.len;omega
 refine z3k (α:={a:List Int//AlR a 9}×{a:List Int//AlR a 3}×Nat) (fun x=>z6k [(4,pV p4),(5,pV p5),(7,.bool true),(8,pV p8),(9,pV g),(10,.slice (some ⟨x.2.2,0,none⟩) 3 3)]) (fun x w'=>Below w7.heap.size w7 w'∧w'.heap[x.2.2]?=some (.cells (alL zvn++alL x.1.1++alL x.2.1.1).toArray 31 (0,0))) ?_ fun x w8 hJ8=>?_
 ·refine z3r [] (.q 1 (.q 3 (.alt 0 (.alt 2 (.alt 4 (.alt 5 (.q 6 .done) .no) .no) .no) .no))) (fun w=>Below w7.heap.size w7 w) (fun w hB=>hB) mixed zK zK ?_
  (conv=>whnf);refine ⟨_,zfo (zd0 e27) (nn _),rfl,?_⟩;(conv=>whnf);refine ⟨_,zfo (zd0 e27) (nn _),rfl,?_⟩;have hst0:=ye6 w7;(conv=>whnf);refine ⟨?_,trivial⟩;refine yf0 hst0 rfl ?_;(conv=>whnf);refine ⟨?_,trivial⟩;refine yfz hops hBA7 9 zO hst0 (fun w h=>h) rfl fun a1=>?_;(conv=>whnf);refine ⟨?_,trivial⟩;have hst1:Stable (fun w=>Below w7.heap.size w7 w∧True):=hst0.and fun _ _ h _=>h;refine yfz hops hBA7 3 zO hst1 (fun w h=>h.1) rfl fun a2=>?_;(conv=>whnf);refine ⟨?_,trivial⟩;refine ⟨alL zvn++alL a1.1++alL a2.1,31,_,_,rfl,rfl,rfl,by decide,yfy (n:=28) ?_ ?_ ?_ rfl rfl rfl,fun q hq=>?_⟩
  ·rw [List.length_map];rfl
  ·rw [List.length_map,a1.2.len]
  ·rw [List.length_map,a2.2.len]
  (conv=>whnf);intro w' hh hj;have h2:=hj.get
  exact zb9 fun r w9 hR=>⟨(a1,a2,q),fun a' hf=>z6t ⟨z6r hf rfl,z6r hf rfl,z6r hf rfl,z6r hf rfl,z6r hf rfl,z6r hf rfl,trivial⟩,zdg (yc8 hh) hR.toBelow hh.size,(hR.toBelow.block q (zpt h2)).trans h2⟩
 obtain ⟨⟨a1,ha1⟩,⟨a2,ha2⟩,q⟩:=x;dsimp only at hJ8⊢;obtain ⟨hB78,hq8⟩:=hJ8;have hB8:=zdg hB7 hB78 hB7.size;have hBA8:=hBA7.later hB78;have n48:=(hB78.block p4 (zpt n47)).trans n47;have n58:=(hB78.block p5 (zpt n57)).trans n57;have e28:=(hB78.block p8 (zpt e27)).trans e27;have hY8:=yek y _ _ hY7 hB78;clear hB7 hB78 hBA7 n47 n57 e27 hY7
 have sel:∀ i:Nat,i<3→∃ a,AlOk a∧(∀ v,0≤v→v<28→ -1000≤getV a v∧getV a v≤1000)∧∀ j u,(alL a)[j]?=some u→(alL zvn++alL a1++alL a2)[0+(i:Int).toNat*28+j]?=some u:=fun i hi=>by
  have k0:(alL zvn).length=28:=by rw [List.length_map];rfl
  have k1:(alL a1).length=28:=by rw [List.length_map,ha1.len]
  have k2:(alL a2).length=28:=by rw [List.length_map,ha2.len]
  have lt:∀ {L:List Value} {j:Nat} {u:Value},L.length=28→L[j]?=some u→j<28:=fun {L j u} hl h=>by
   rcases Nat.lt_or_ge j L.length with h1|h1
   ·omega
   ·rw [List.getElem?_eq_none h1] at h;cases h
  rcases (by omega:i=0∨i=1∨i=2) with rfl|rfl|rfl
  ·refine ⟨zvn,zvs.ok zO,zvs.range zO,fun j u hj=>?_⟩
   have:=lt k0 hj;rw [show 0+((0:Nat):Int).toNat*28+j=j by omega,List.getElem?_append_left (by rw [List.length_append];omega),List.getElem?_append_left zO];exact hj
  ·refine ⟨a1,ha1.ok zO,ha1.range zO,fun j u hj=>?_⟩
   have:=lt k1 hj;rw [show 0+((1:Nat):Int).toNat*28+j=28+j by omega,List.getElem?_append_left (by rw [List.length_append];omega),List.getElem?_append_right zO,show 28+j-(alL zvn).length=j by omega];exact hj
  ·refine ⟨a2,ha2.ok zO,ha2.range zO,fun j u hj=>?_⟩
   have:=lt k2 hj;rw [show 0+((2:Nat):Int).toNat*28+j=56+j by omega,List.getElem?_append_right (by rw [List.length_append];omega),show 56+j-(alL zvn++alL a1).length=j by rw [List.length_append];omega];exact hj
 refine z3d ?_;refine z3p ?_;(conv=>whnf);refine z3a ?_;refine z3i (fun j:{j:Nat//j≤3}=>z6k [(4,pV p4),(5,pV p5),(7,.bool true),(8,pV p8),(9,pV g),(10,.slice (some ⟨q,0,none⟩) 3 3),(11,.int .i64 (j.1:Int))]) (fun _ w'=>Below w8.heap.size w8 w') (fun j=>3-j.1) ⟨0,by omega⟩ Tn (fun r w' hR=>hR.toBelow) (fun j w9 hJ=>?_);obtain ⟨i,hi⟩:=j;dsimp only at hJ⊢;have hBA9:=hBA8.later hJ;have hY9:=yek y _ _ hY8 hJ;have n49:=(hJ.block p4 (zpt n48)).trans n48;have n59:=(hJ.block p5 (zpt n58)).trans n58;have e29:=(hJ.block p8 (zpt e28)).trans e28;have q9:=(hJ.block q (zpt hq8)).trans hq8;refine z3d ?_;refine z3p ?_;(conv=>whnf);refine z3b rfl (fun hc=>z3q (zcd ?_)) (fun hc=>?_)
 ·have hlt:i<3:=by have:=of_decide_eq_true hc;omega
  obtain ⟨a,hA,hal,hseg⟩:=sel i hlt;have hva:=za4 hA;have hal28:=hA.len;refine z3k (α:=Unit) (fun _=>z6k [(4,pV p4),(5,pV p5),(7,.bool true),(8,pV p8),(9,pV g),(10,.slice (some ⟨q,0,none⟩) 3 3),(11,.int .i64 (i:Int))]) (fun _ w'=>Below w9.heap.size w9 w') ?_ fun _ w12 hB12=>?_
  ·refine z3a ?_
   refine z3k (α:=(Option Addr×Nat)×Nat) (fun z=>z6k [(4,pV p4),(5,pV p5),(7,.bool true),(8,pV p8),(9,pV g),(10,.slice (some ⟨q,0,none⟩) 3 3),(11,.int .i64 (i:Int)),(12,pV z.2),(13,.bool true)]) (fun z w'=>Below w9.heap.size w9 w'∧yc5 (yan b a (256*(y.G:Int)) (256*(y.G:Int)) 0) z.1.1 w'∧w'.heap[z.2]?=some (.cells (codV (yan b a (256*(y.G:Int)) (256*(y.G:Int)) 0) z.1.1 z.1.2).cells coT (0,0))) ?_ fun z w10 hJ10=>?_
   ·refine z3r [] (.q 0 (.q 1 (.q 2 (.q 3 (.q 4 (.q 5 (.alt 6 (.q 7 (.q 8 (.q 9 (.alt 10 (.alt 11 (.q 12 .done) .no) .no)))) (.alt 10 (.alt 6 (.q 7 (.q 8 (.q 9 (.alt 11 (.q 12 .done) .no)))) .no) .no)))))))) (fun w=>Below w9.heap.size w9 w) (fun w hB=>hB) mixed zK zK ?_
    (conv=>whnf);refine ⟨_,zfo (zd0 e29) (nn _),rfl,?_⟩;(conv=>whnf)
    (refine ⟨⟨by omega,by omega⟩,?_⟩;(conv=>whnf))
    refine ⟨alL a,zd4 q9 (nn _) hseg,by rw [List.length_map,hal28];rfl,?_⟩;have hst0:=ye6 w9
    have hJY:∀ w,Below w9.heap.size w9 w→Below w9.heap.size w9 w∧MemY y w:=fun w h=>⟨h,yek y _ _ hY9 h⟩
    (conv=>whnf);refine ⟨?_,?_,trivial⟩
    ·refine yed (y:=y) hb.ok hb.valid hBA9 hal28 hva hal hst0 hJY (by rw [hyg];exact yb5 _ _ a) fun z=>?_
     have hst1:=hst0.and (ye2 (yan b a (256*(y.G:Int)) (256*(y.G:Int)) 0) z.1);(conv=>whnf);refine ⟨?_,trivial⟩;(conv=>whnf);intro p hp;(conv=>whnf);refine ⟨?_,trivial⟩;(conv=>whnf);refine ⟨[strV (z8u (yan b a (256*(y.G:Int)) (256*(y.G:Int)) 0)),.slice z.1 (z5x 0 (yan b a (256*(y.G:Int)) (256*(y.G:Int)) 0)).length z.2],[strV [],.slice none 0 0],coT,.inl hp,rfl,rfl,rfl,Nat.le_refl 2,fun w hh hj=>hj.get,?_⟩;(conv=>whnf);intro w' hh hj;obtain ⟨h1,h2⟩:=ydv (yfo _ _ _ _ _) (fun w hj=>⟨(hj.keep hst1).2,hj.get⟩) hj
     exact zb9 fun r w9 hR=>⟨(z,p),fun a' hf=>z6t ⟨z6r hf rfl,z6r hf rfl,z6r hf rfl,z6r hf rfl,z6r hf rfl,z6r hf rfl,z6r hf rfl,z6r hf rfl,z6r hf rfl,trivial⟩,zdg (yc8 hh) hR.toBelow hh.size,ye2 _ _ _ _ h1 hR.toBelow,(hR.toBelow.block p (zpt h2)).trans h2⟩
    ·conv=>whnf
     intro p hp;(conv=>whnf);have hst1:Stable (AllocJ w9 ⟨[],[]⟩ (fun w=>Below w9.heap.size w9 w) p (.cells #[strV [],.slice none 0 0] coT (0,0))):=yc6;refine ⟨?_,trivial⟩;refine yed (y:=y) hb.ok hb.valid hBA9 hal28 hva hal hst1 (fun w h=>hJY w (h.keep hst0)) (by rw [hyg];exact yb5 _ _ a) fun z=>?_;(conv=>whnf);refine ⟨?_,trivial⟩;(conv=>whnf);refine ⟨[strV (z8u (yan b a (256*(y.G:Int)) (256*(y.G:Int)) 0)),.slice z.1 (z5x 0 (yan b a (256*(y.G:Int)) (256*(y.G:Int)) 0)).length z.2],[strV [],.slice none 0 0],coT,.inl hp,rfl,rfl,rfl,Nat.le_refl 2,fun w hh hj=>hj.1.get,?_⟩;(conv=>whnf);intro w' hh hj;obtain ⟨h1,h2⟩:=ydv (yfo _ _ _ _ _) (fun w hj=>⟨hj.2,hj.1.get⟩) hj
     exact zb9 fun r w9 hR=>⟨(z,p),fun a' hf=>z6t ⟨z6r hf rfl,z6r hf rfl,z6r hf rfl,z6r hf rfl,z6r hf rfl,z6r hf rfl,z6r hf rfl,z6r hf rfl,z6r hf rfl,trivial⟩,zdg (yc8 hh) hR.toBelow hh.size,ye2 _ _ _ _ h1 hR.toBelow,(hR.toBelow.block p (zpt h2)).trans h2⟩
   obtain ⟨⟨A,cp⟩,p12⟩:=z;dsimp only at hJ10⊢;obtain ⟨hB10,hsl10,c10⟩:=hJ10;have hBA10:=hBA9.later hB10;have hY10:=yek y _ _ hY9 hB10;have n410:=(hB10.block p4 (zpt n49)).trans n49;have n510:=(hB10.block p5 (zpt n59)).trans n59;have e210:=(hB10.block p8 (zpt e29)).trans e29;have q10:=(hB10.block q (zpt q9)).trans q9;have hG10:=hY10.G;refine z3d ?_;refine z3p ?_;(conv=>whnf);refine z3b (t:=false) rfl (fun hc=>Bool.noConfusion (show false=true from hc)) (fun _=>z3q (zcd ?_));refine z3k (α:=Unit) (fun _=>z6k [(4,pV p4),(5,pV p5),(7,.bool true),(8,pV p8),(9,pV g),(10,.slice (some ⟨q,0,none⟩) 3 3),(11,.int .i64 (i:Int)),(12,pV p12),(14,.bool true)]) (fun _ w'=>Below w10.heap.size w10 w') ?_ fun _ w11 hB11=>?_
   ·refine z3t ?_
    refine z21 (.q 0 (.q 1 (.q 2 (.q 3 (.q 4 (.q 5 (.q 6 (.q 7 (.alt 8 (.alt 9 (.q 10 .done) .no) .no))))))))) mixed zK zK ?_;(conv=>whnf);refine ⟨_,zfo (zd0 e210) (nn _),rfl,?_⟩;(conv=>whnf)
    (refine ⟨⟨by omega,by omega⟩,?_⟩;(conv=>whnf))
    refine ⟨alL a,zd4 q10 (nn _) hseg,by rw [List.length_map,hal28];rfl,?_⟩;(conv=>whnf);refine ⟨[strV (z8u (yan b a (256*(y.G:Int)) (256*(y.G:Int)) 0)),.slice A (z5x 0 (yan b a (256*(y.G:Int)) (256*(y.G:Int)) 0)).length cp],zfo (zd0 c10) (nn _),rfl,?_⟩;(conv=>whnf);refine ⟨_,zfo (zd0 n410) (nn _),rfl,?_⟩;(conv=>whnf);refine ⟨?_,trivial⟩;refine yda (fun v=>∃ vs,VarsOk vs∧v=yae vs) (xs:=[ycb n0 n1 n2 n3]) rfl zK (fun r w' hR=>(yf9 (w:=w') n0 n1 n2 n3).mono fun e w'' ⟨vs,k1,k2,k3⟩=>⟨_,k2,⟨vs,k1,rfl⟩,k3⟩) ?_;rintro v ⟨vs,hvs,rfl⟩;(conv=>whnf);refine ⟨?_,trivial⟩
    refine ze2 (x:= .bool true) (xs:=[blkV b A1 A2 A3 c1 c2 c3,.agg (alL a).toArray,codV (yan b a (256*(y.G:Int)) (256*(y.G:Int)) 0) A cp,pV g,yae vs,.int .u32 0,.int .u32 100,intV ((0:Nat):Int)]) (zcq _ a _ _ vs _ _ _) zK (fun r w' hR=>by
     have hBw:=hR.toBelow;have hYw:=yek y _ _ hY10 hBw;have:=za1 (w:=w') (c1:=c1) (c2:=c2) (c3:=c3) (g0:=y.g) (steps:=0) (limit:=100) hb.ok hb.valid (hBA10.later hBw) hA ⟨hG10.1,by omega⟩ hYw.at_ hYw.ok hvs (by unfold word;decide) (by unfold word;decide) 0 zO rfl (ye2 _ _ _ _ hsl10 hBw) (cp:=cp);rw [hyg] at this
     exact this) ?_
    conv=>whnf
    exact zb9 fun r w3 hR=>⟨(),fun a' hf=>z6t ⟨z6r hf rfl,z6r hf rfl,z6r hf rfl,z6r hf rfl,z6r hf rfl,z6r hf rfl,z6r hf rfl,z6r hf rfl,z6r hf rfl,trivial⟩,hR.toBelow⟩
   have hBA11:=hBA10.later hB11;have hY11:=yek y _ _ hY10 hB11;have n511:=(hB11.block p5 (zpt n510)).trans n510;have e211:=(hB11.block p8 (zpt e210)).trans e210;have q11:=(hB11.block q (zpt q10)).trans q10;have hsl11:=ye2 _ _ _ _ hsl10 hB11;have c11:=(hB11.block p12 (zpt c10)).trans c10;refine z3k (α:=Unit) (fun _=>z6k [(4,pV p4),(5,pV p5),(7,.bool true),(8,pV p8),(9,pV g),(10,.slice (some ⟨q,0,none⟩) 3 3),(11,.int .i64 (i:Int)),(12,pV p12),(14,.bool true),(15,.bool true)]) (fun _ w'=>Below w11.heap.size w11 w') ?_ fun _ w12' hB12'=>?_
   ·refine z3t ?_
    refine z21 (.q 0 (.q 1 (.q 2 (.q 3 (.q 4 (.q 5 (.q 6 (.q 7 (.alt 8 (.alt 9 (.q 10 .done) .no) .no))))))))) mixed zK zK ?_;(conv=>whnf);refine ⟨_,zfo (zd0 e211) (nn _),rfl,?_⟩;(conv=>whnf)
    (refine ⟨⟨by omega,by omega⟩,?_⟩;(conv=>whnf))
    refine ⟨alL a,zd4 q11 (nn _) hseg,by rw [List.length_map,hal28];rfl,?_⟩;(conv=>whnf);refine ⟨[strV (z8u (yan b a (256*(y.G:Int)) (256*(y.G:Int)) 0)),.slice A (z5x 0 (yan b a (256*(y.G:Int)) (256*(y.G:Int)) 0)).length cp],zfo (zd0 c11) (nn _),rfl,?_⟩;(conv=>whnf);refine ⟨_,zfo (zd0 n511) (nn _),rfl,?_⟩;(conv=>whnf);refine ⟨?_,trivial⟩;refine yda (fun v=>∃ vs,VarsOk vs∧v=yae vs) (xs:=[ycb m0 m1 m2 m3]) rfl zK (fun r w' hR=>(yf9 (w:=w') m0 m1 m2 m3).mono fun e w'' ⟨vs,k1,k2,k3⟩=>⟨_,k2,⟨vs,k1,rfl⟩,k3⟩) ?_;rintro v ⟨vs,hvs,rfl⟩;(conv=>whnf);refine ⟨?_,trivial⟩
    refine ze2 (x:= .bool true) (xs:=[blkV b A1 A2 A3 c1 c2 c3,.agg (alL a).toArray,codV (yan b a (256*(y.G:Int)) (256*(y.G:Int)) 0) A cp,pV g,yae vs,.int .u32 7,.int .u32 100,intV ((5:Nat):Int)]) (zcq _ a _ _ vs _ _ _) zK (fun r w' hR=>by
     have hBw:=hR.toBelow;have hYw:=yek y _ _ hY11 hBw;have:=za1 (w:=w') (c1:=c1) (c2:=c2) (c3:=c3) (g0:=y.g) (steps:=7) (limit:=100) hb.ok hb.valid (hBA11.later hBw) hA ⟨hG10.1,by omega⟩ hYw.at_ hYw.ok hvs (by unfold word;decide) (by unfold word;decide) 5 zO rfl (ye2 _ _ _ _ hsl11 hBw) (cp:=cp);rw [hyg] at this
     exact this) ?_
    conv=>whnf
    exact zb9 fun r w3 hR=>⟨(),fun a' hf=>z6t ⟨z6r hf rfl,z6r hf rfl,z6r hf rfl,z6r hf rfl,z6r hf rfl,z6r hf rfl,z6r hf rfl,z6r hf rfl,z6r hf rfl,z6r hf rfl,trivial⟩,hR.toBelow⟩
   refine z3p ?_;refine kB ?_;refine z3b (t:=false) rfl (fun hc=>Bool.noConfusion (show false=true from hc)) (fun _=>?_);exact z3q (zb4 (zca () Tn fun r w3 hR=>zdg hB10 (zdj (zdj hB11 hB12') hR.toBelow) hB10.size))
  ·refine z3t ?_
   (conv=>whnf);refine ⟨((i+1:Nat):Int),by rw [show (i:Int)+1=((i+1:Nat):Int) by omega];exact wr64 zO,?_⟩;(conv=>whnf);exact zcc ⟨i+1,by omega⟩ Tn (fun r w3 hR=>zdg hJ (zdj hB12 hR.toBelow) hJ.size) (by show 3-(i+1)<3-i;omega)
 refine z3t ?_
 conv=>whnf
 refine zb7 (zcf (zb6 (zcd ?_)))
 refine z3p ?_
 conv=>whnf
 refine z3t ?_
 conv=>whnf
 refine zcg ?_
 conv=>whnf
 exact zmj rfl fun w9 hB9=>⟨rfl,zdj (zdj hB8 hJ) hB9⟩
end
open Go.ChangeShapes Go.WideShapes Go.ChangeAt Go.RowKit
theorem yf2 (os:Os) (started:os.Started) (H:Type) (enc:TypeId×Value→H):
  ReturnsInHanded {} Tryz.checked os 4 .any (Rows.qemitPlainSpec.pre6 enc Tryz.prog Tryz.f4 Rows.qemitPlainRow.domain false) (Rows.qemitPlainSpec.post enc Tryz.prog Tryz.f4 false true false false):=by
 refine returnsInHanded_of_change (C:=Tryz.checked) ownK started zK Tryz.func4
  (ChangeSpec.witness6 (enc:=enc) (C:=Tryz.checked) false ⟨#[],#[.slice none 0 0,.agg #[.int .i64 0,.int .i64 0,.int .i64 0,.int .i64 0],.agg #[.int .i64 0,.int .i64 0,.int .i64 0,.int .i64 0]],[]⟩ 8 zK zK zK zK) ?_
 intro W base args ds gs before hval0 hW hcnd _;have hval:∀ (j:Nat) t v,Tryz.f4.params[j]?=some t→args[j]?=some v→Value.okWide Tryz.prog W .any base t v:=hval0;have hW':=hW;obtain ⟨p,q,hA0,hV,rfl,hfz,hnd⟩:=hW;have hA:DataW.TrodAll enc Tryz.prog W 0 (fun _=>true) true Tryz.f4.params.toList args.toList ds p:=hA0;rw [Tryz.params4] at hA hval;obtain ⟨v0,vs0,d0,ds0,p0,q0,hargs,rfl,rfl,h0,r0⟩:=trodAll_cons hA;obtain ⟨v1,vs1,d1,ds1,p1,q1,rfl,rfl,rfl,h1,r1⟩:=trodAll_cons r0;obtain ⟨v2,vs2,d2,ds2,p2,q2,rfl,rfl,rfl,h2,r2⟩:=trodAll_cons r1;obtain ⟨rfl,rfl,rfl⟩:=trodAll_nil r2;obtain rfl:args= #[v0,v1,v2]:=(by cases args;simp_all);obtain ⟨rfl,rfl⟩:=trodVars_none hV;clear hA0;obtain ⟨a0,l0,c0,rfl⟩:=okWide_slice Tryz.underlying22 (hval 0 22 v0 rfl rfl);obtain ⟨xs0,s0,hl0,_⟩:=yeo h0;obtain ⟨y10,y11,y12,y13,rfl,_⟩:=yen (hval 1 23 v1 rfl rfl) h1;obtain ⟨y20,y21,y22,y23,rfl,_⟩:=yen (hval 2 23 v2 rfl rfl) h2;have k0:=h0;have k1:=h1;have k2:=h2;have lt0:∀ x∈p0,x.block<W.heap.size:=(by obtain ⟨m,hm⟩:=k0;exact DataW.trod_lt m _ _ _ hm);have lt1:∀ x∈p1,x.block<W.heap.size:=(by obtain ⟨m,hm⟩:=k1;exact DataW.trod_lt m _ _ _ hm);have lt2:∀ x∈p2,x.block<W.heap.size:=(by obtain ⟨m,hm⟩:=k2;exact DataW.trod_lt m _ _ _ hm);clear hval0;refine (yf1 a0 l0 c0 xs0 y10 y11 y12 y13 y20 y21 y22 y23 s0 hl0 (w:=W)).mono fun e W' ⟨he,bel⟩=>?_;subst he;exact ⟨_,rfl,_,_,_,[],_,[],hW',trodAll_mk1 (shut_bool Tryz.underlying4 _),(trodAll_cons_mk (Below.trod yce zK (of_decide_eq_true zK) k0 bel lt0) (trodAll_cons_mk (Below.trod yce zK (of_decide_eq_true zK) k1 bel lt1) (trodAll_cons_mk (Below.trod yce zK (of_decide_eq_true zK) k2 bel lt2) trodAll_mk0))),rfl,bel.frame _,fun h=>by cases h⟩
theorem qemitPlain_holds:Rows.QemitPlainSaid:=
 OpenClaim.holds_of_wide 4 Tryz.f4 rfl rfl rfl rfl rfl rfl rfl ⟨rfl,rfl,rfl,rfl,rfl⟩ rfl rfl rfl rfl rfl (by kernel_rfl) Tryz.func4 (by kernel_rfl)
  (of_decide_eq_true (by kernel_rfl)) (by unfold Func.isWrapper;first|(rw [if_pos (by decide+kernel)];kernel_rfl)|(rw [if_neg (by decide+kernel)];exact ⟨rfl,rfl⟩))
  (fun os started H enc _=>yf2 os started H enc)
end Go.Proofs.YtocafomnnkmjfaaGreat
#print axioms Go.Proofs.YtocafomnnkmjfaaGreat.qemitPlain_holds
