import Derived.Test.YtocafomnnkmjfaaGreatMAccessB
set_option maxRecDepth 100000
set_option maxHeartbeats 8000000
namespace Go.Proofs.YtocafomnnkmjfaaGreat
open Go.RowKit
theorem yda {us vs:List Value} (h:us.length=vs.length):z38 us 0 vs=vs:=by
 have h1:=z4d vs us 0;rw [z4b (by rw [List.length_map,List.length_map,h])] at h1;exact ((List.map_inj_right (fun _ _ e=>by injection e)).1 h1).symm
def zoL:List Value:= .bool false::intV 0::intV 0:: .int .u32 0::u32L (List.replicate 28 0)
def yb3 (W:World) (y:MemT) (z:Nat×List Nat×Tl) (w:World):Prop:=ObjsAt w (z.1::z.2.1) (memS 0 (256*y.G) y.G (y.gm.tl z.2.2))∧∀ b∈z.1::z.2.1,W.heap.size≤b
theorem ycq (W:World) (y:MemT) (z:Nat×List Nat×Tl):Stable (fun w=>yb3 W y z w∧True):=fun _ _ h hB=>⟨⟨zv0 (zt6 _ _ _) h.1.1 hB,h.1.2⟩,trivial⟩
section
variable {W:World} {J:World→Prop}
theorem ycx {args:List AV} {K:Value→(World→Prop)→Prop} {y:MemT} {Z:Nat×List Nat×Tl→Prop} (hst:Stable J) (hY:MemY y W) (hJ:∀ w,J w→Below W.heap.size W w) (hu:avals args=some [pV y.g])
  (hZ:∀ (w:World) (z:Nat×List Nat×Tl),(J w∧∀ b∈z.1::z.2.1,w.heap.size≤b)→Z z) (hK:∀ z:Nat×List Nat×Tl,K (pV z.1) fun w=>J w∧yb3 W y z w∧Z z):JmpJ Tryz.prog W ⟨[],[]⟩ J 32 args K:=
 ycz (fun z:Nat×List Nat×Tl=>pV z.1) (fun z w=>yb3 W y z w∧Z z) hu zK hst (fun w hh hj=>by
  have hY':=yc1 y _ _ hY (hJ w hj)
  exact (zhd y.gm (256*y.G) y.G w y.g y.gs hY'.at_ hY'.ok hY'.G.1).mono fun e w' ⟨q0,qs,gm',he,⟨t1,t2,t3,t4,t5,hgm'⟩,hn⟩=>by
   have hat:=hn.at_
   rw [hgm'] at hat
   exact ⟨(q0,qs,⟨t1,t2,t3,t4,t5⟩),he,⟨⟨hat,fun b hb=>Nat.le_trans hh.size (hn.fresh b hb)⟩,hZ w _ ⟨hj,hn.fresh⟩⟩,hn.below⟩) hK
theorem ycy {J':World→Prop} {args:List AV} {K:Value→(World→Prop)→Prop} {b:Blk} {A1 A2 A3:Option Addr} {c1 c2 c3 G:Nat} {g:Nat} {gs:List Nat} {gm:MemP} {vs:List Int} {z:Nat×List Nat×Tl} (hb:b.ok) (hv:z9o b=true) (hvs:VarsOk vs) (hg:gm.ok (256*G) G) (hBA:BlkAt W b A1 A2 A3)
  (hu:avals args=some [blkV b A1 A2 A3 c1 c2 c3,yaf vs,pV z.1]) (hJ:∀ w,J w→yb3 W ⟨g,gs,G,gm⟩ z w) (hJ':∀ w w',J w→GrownBys w w' (z.1::z.2.1)→J' w') (hK:K (outV (zkq b vs gm).out) J'):JmpJ Tryz.prog W ⟨[],[]⟩ J 31 args K:=by
 refine .one zK (outV (zkq b vs gm).out) J' (fun w us hh hj hd=>?_) hK;obtain rfl:=zcs hu hd;obtain ⟨hat,hq⟩:=hJ w hj;have hB:=yco hh;refine (zk0 b vs (256*G) G (gm.tl z.2.2) A1 A2 A3 c1 c2 c3 w z.1 z.2.1 hat (z82 hg z.2.2) hb hv hvs (z6j hBA.at_ hB hq) (z6j hBA.pages hB hq) (z6j hBA.ops hB hq)).mono fun e w11 ⟨he,hQ11,hG11⟩=>?_;rw [zks] at he;exact ⟨he,zpy (zdi hB (zpz hG11) hq),hJ' w w11 hj hG11⟩
end
section
variable {w:World}
theorem ycg (x0 x1 n0 n1 n2 n3:Int) (hx0:word x0):
  Calls Tryz.prog 7 #[.int .u32 x0,intV x1,yct n0 n1 n2 n3] w fun e w'=>e= .returned (.bool true)∧Below w.heap.size w w':=by
 obtain ⟨c,hc⟩:∃ c,c=16+x1%4:=⟨_,rfl⟩
 have hcc:16≤c∧c≤19:=by omega
 obtain ⟨n,hn⟩:∃ n,n=x0*3%4294967296:=⟨_,rfl⟩
 have hnw:word n:=(by unfold word;omega);refine zfg [.int .u32 x0,intV x1,yct n0 n1 n2 n3] Tryz.func7 Tryz.ntmps7 rfl zS ?_;refine z3q ?_;(conv=>whnf);refine z3n fun r w1 hR=>?_;obtain ⟨p5,us,n51,n52,n53⟩:=hR.own 0 _ rfl;obtain rfl:=zis (us:=[intV n0,intV n1,intV n2,intV n3]) n53;have hB1:=hR.toBelow;refine ⟨z6l [(0,.int .u32 x0),(1,intV x1),(5,pV p5)],fun a' hf=>z6u ⟨z6s hf rfl,z6s hf rfl,z6q hf 5 rfl n51,trivial⟩,?_⟩;clear hR n53 n51;refine z3q ?_;(conv=>whnf);refine ze2 (x:= .bool true) (xs:=[]) rfl zK (fun r w' hR=>z21) ?_;(conv=>whnf);refine z3e (z3f 1 rfl rfl rfl ?_);(conv=>whnf);refine ⟨_,zd0 n52,rfl,?_⟩;(conv=>whnf);refine ⟨by kernel_rfl,fun r w2 us' hR hd=>?_⟩;obtain rfl:=zcs (xs:=[yct n0 n1 n2 n3]) rfl hd;have hB12:=hR.toBelow
 refine (yc2 (w:=w2) n0 n1 n2 n3).mono fun e w3 ⟨G,g,gs,gm,he,hG,hgm,hU3,hfr,hB23⟩=>⟨_,he,?_⟩
 have hB13:=zdg hB12 hB23 hB12.size;have hB3:=zdg hB1 hB13 hB1.size;clear hR hd hB1 hB12 hB23 hB13 n52 hfr;(conv=>whnf);refine zcd ?_;refine z3q ?_;(conv=>whnf);refine ze2 (x:=intV (x1%4)) (xs:=[intV x1,intV 4]) rfl zK (fun r w' hR=>yc3 x1 4 w' zO) ?_;(conv=>whnf);refine ⟨c,by rw [hc];exact wr64 zO,?_⟩;(conv=>whnf);refine ⟨n,by rw [wr32];exact hn.symm,?_⟩;(conv=>whnf);refine z3q ?_;(conv=>whnf);refine z3k (α:=Unit) (fun _=>[(0,one (.int .u32 x0)),(1,one (intV x1)),(7,one (.bool true)),(8,one (pV g)),(9,.p (.c (.ref 0 0))),(10,one (intV (szE c)))]) (fun _=>[.cells 61 [.v (.int .i64 c),.v (.int .i64 0),.v (.int .i64 2),.v (.int .i64 0),.v (.int .u32 n)]]) ?_ fun _=>?_
 ·refine z3q ?_
  rcases ycd hcc with h|h|h|h
  all_goals
   rw [h];refine kB ?_
  ·refine z3c (t:=false) rfl (fun hc=>Bool.noConfusion (show false=true from hc)) (fun _=>?_)
   exact z3r (zb8 () (zj7 rfl Tn (aI (aI rfl (Or.inl rfl)) trivial)))
  ·refine z3c (t:=true) rfl (fun _=>?_) (fun hc=>Bool.noConfusion (show true=false from hc))
   refine z3u ?_;(conv=>whnf);exact zb8 () (zj7 rfl Tn (aI (aI rfl (Or.inl rfl)) trivial))
  ·refine z3c (t:=false) rfl (fun hc=>Bool.noConfusion (show false=true from hc)) (fun _=>?_)
   exact z3r (zb8 () (zj7 rfl Tn (aI (aI rfl (Or.inl rfl)) trivial)))
  ·refine z3c (t:=true) rfl (fun _=>?_) (fun hc=>Bool.noConfusion (show true=false from hc))
   refine z3u ?_;(conv=>whnf);exact zb8 () (zj7 rfl Tn (aI (aI rfl (Or.inl rfl)) trivial))
 refine z3k (α:=Unit) (fun _=>[(0,one (.int .u32 x0)),(1,one (intV x1)),(7,one (.bool true)),(8,one (pV g)),(9,.p (.c (.ref 0 0))),(10,one (intV (szE c)))]) (fun _=>[.cells 61 ((opC (accO c n)).map .v)]) ?_ fun _=>?_
 ·refine z3q ?_
  rcases ycd hcc with h|h|h|h
  all_goals
   rw [h];refine kB ?_
  ·refine z3c (t:=false) rfl (fun hc=>Bool.noConfusion (show false=true from hc)) (fun _=>?_)
   refine z3u ?_;(conv=>whnf);exact zb8 () (zj7 rfl Tn (aI (aI rfl (Or.inl rfl)) trivial))
  ·refine z3c (t:=false) rfl (fun hc=>Bool.noConfusion (show false=true from hc)) (fun _=>?_)
   refine z3u ?_;(conv=>whnf);exact zb8 () (zj7 rfl Tn (aI (aI rfl (Or.inl rfl)) trivial))
  ·refine z3c (t:=true) rfl (fun _=>?_) (fun hc=>Bool.noConfusion (show true=false from hc))
   refine z3u ?_;(conv=>whnf);exact zb8 () (zj7 rfl Tn (aI (aI rfl (Or.inl rfl)) trivial))
  ·refine z3c (t:=true) rfl (fun _=>?_) (fun hc=>Bool.noConfusion (show true=false from hc))
   refine z3u ?_;(conv=>whnf);exact zb8 () (zj7 rfl Tn (aI (aI rfl (Or.inl rfl)) trivial))
 refine z3q ?_;(conv=>whnf);refine z3n fun r w4 hR=>?_;obtain ⟨p9,us,o1,o2,o3⟩:=hR.own 0 _ rfl;obtain rfl:=zis (us:=opC (accO c n)) o3;obtain ⟨p11,us,e1,e2,e3⟩:=hR.own 3 _ rfl;simp only [denL] at e3;obtain ⟨u1,l1,rfl,k1,u2,l2,rfl,k2,u3,l3,rfl,k3,rfl⟩:=e3;have k1:CV.den r (.sl 1 0 1 1) u1:=k1;have k2:CV.den r (.v (.slice none 0 0)) u2:=k2;have k3:CV.den r (.sl 2 0 3 3) u3:=k3;obtain ⟨b1,rfl,s1⟩:=z6k (xs:=(accB c n).at_.map (.int .u32)) hR rfl k1;obtain ⟨b3,rfl,s3⟩:=z6k (xs:=(accB c n).ops.flatMap opC) hR rfl k3;obtain rfl:u2= .slice none 0 0:=k2;have hB34:=hR.toBelow
 have hBA4:BlkAt w4 (accB c n) (some ⟨b1,0,none⟩) none (some ⟨b3,0,none⟩):=⟨s1,fun j u hj=>by simp [accB] at hj,s3⟩
 have hB4:=zdg hB3 hB34 hB3.size
 have hY4:MemY ⟨g,gs,G,gm⟩ w4:=⟨hG,hgm,zv0 (zt6 _ _ _) hU3 hB34⟩
 refine ⟨z6l [(0,.int .u32 x0),(1,intV x1),(7,.bool true),(8,pV g),(9,pV p9),(10,intV (szE c)),(11,pV p11)],fun a' hf=>z6u ⟨z6s hf rfl,z6s hf rfl,z6s hf rfl,z6s hf rfl,z6q hf 9 rfl o1,z6s hf rfl,z6q hf 11 rfl e1,trivial⟩,?_⟩;clear hR k1 k2 k3 s1 s3 e1 o1 o3 hB34 hB3 hU3;have hbv:=yb7 (n:=n) hcc;have hbo:=yb6 hcc hnw;have e2:w4.heap[p11]?=some (.cells ([.slice (some ⟨b1,0,none⟩) (accB c n).at_.length 1,.slice none (accB c n).pages.length 0,.slice (some ⟨b3,0,none⟩) (accB c n).ops.length 3]:List Value).toArray 28 (0,0)):=e2;generalize hA1:(some ⟨b1,0,none⟩:Option Addr)=A1 at*;generalize hA3:(some ⟨b3,0,none⟩:Option Addr)=A3 at*
 obtain ⟨b,hb⟩:∃ b,b=accB c n:=⟨_,rfl⟩
 rw [← hb] at e2 hBA4 hbv hbo
 have hops:b.ops.length≤2000:=by rw [hb];show 3≤2000;omega
 obtain ⟨q,hq⟩:∃ q,q=IntKind.i64.wrap (x1.tdiv 4):=⟨_,rfl⟩
 obtain ⟨r,hr⟩:∃ r:Nat,(r:Int)=q%4:=⟨(q%4).toNat,by omega⟩
 have hr9:r≤9:=by omega
 have nn:∀ b,b∉Gs.flat ⟨[],[]⟩:=fun b hm=>by rcases zm5.1 hm with h|h<;>cases h
 refine z3l (α:={a:List Int//AlR a r}×Nat) (fun y=>z6l [(0,.int .u32 x0),(7,.bool true),(8,pV g),(9,pV p9),(10,intV (szE c)),(11,pV p11),(12,pV y.2)]) (fun y w'=>Below w4.heap.size w4 w'∧w'.heap[y.2]?=some (.cells (alL y.1.1).toArray 31 (0,0))) ?_ fun y w5 hJ5=>?_
 ·refine z3s [] (.q 0 (.q 1 (.q 2 (.alt 3 (.alt 4 (.alt 5 (.alt 6 .done .no) .no) (.alt 5 (.alt 4 (.alt 6 .done .no) .no) .no)) (.alt 5 (.alt 3 (.alt 4 (.alt 6 .done .no) .no) .no) .no))))) (fun w=>Below w4.heap.size w4 w) (fun w hB=>hB) mixed zK zK ?_
  have hst0:=ydc w4;have hz:∀ a:{a:List Int//AlR a r},z38 (alL (List.replicate 28 0)) 0 (alL a.1)=alL a.1:=fun a=>yda (by rw [List.length_map,List.length_map,a.2.len];rfl)
  have hl28:∀ a:{a:List Int//AlR a r},(alL a.1).length=28:=fun a=>by rw [List.length_map,a.2.len]
  (conv=>whnf);refine ⟨_,zfo (zd0 e2) (nn _),rfl,?_⟩;(conv=>whnf);refine ⟨by decide,q,hq.symm,?_⟩;(conv=>whnf);have zero28:∀ {J:World→Prop} {p:Nat} {w:World},AllocJ w4 ⟨[],[]⟩ J p (.cells (alL (List.replicate 28 0)).toArray 31 (0,0)) w→w.heap[p]?=some (.cells (alL (List.replicate 28 0)).toArray 31 (0,0)):=fun h=>h.get;refine ⟨?_,?_,trivial⟩
  ·refine zrq (intV (q%4)) (us:=[intV q,intV 4]) rfl zK hst0 (fun w _ _=>yc3 q 4 w zO) ?_
   rw [← hr];(conv=>whnf);refine ⟨?_,?_,trivial⟩
   ·refine ycw hops hBA4 r hr9 hst0 (fun w h=>h) rfl fun a=>?_
    (conv=>whnf);refine ⟨?_,trivial⟩;(conv=>whnf);intro p hp;(conv=>whnf);refine ⟨?_,trivial⟩;(conv=>whnf);refine ⟨alL a.1,alL (List.replicate 28 0),31,.inl hp,rfl,hl28 a,zwm [] a.1,by rw [hl28 a];exact Nat.le_refl 28,fun w hh hj=>zero28 hj,?_⟩;(conv=>whnf);intro w' hh hj;obtain ⟨w0,_,_,_,h2⟩:=hj.out;rw [hz a] at h2
    exact zb9 fun r w9 hR=>⟨(a,p),fun a' hf=>z6u ⟨z6s hf rfl,z6s hf rfl,z6s hf rfl,z6s hf rfl,z6s hf rfl,z6s hf rfl,z6s hf rfl,trivial⟩,zdg (yco hh) hR.toBelow hh.size,(hR.toBelow.block p (zpt h2)).trans h2⟩
   ·conv=>whnf
    intro p hp;(conv=>whnf);refine ⟨?_,trivial⟩;have hst1:Stable (AllocJ w4 ⟨[],[]⟩ (fun w=>Below w4.heap.size w4 w) p (.cells (alL (List.replicate 28 0)).toArray 31 (0,0))):=yci;refine ycw hops hBA4 r hr9 hst1 (fun w h=>h.keep hst0) rfl fun a=>?_;(conv=>whnf);refine ⟨?_,trivial⟩;(conv=>whnf);refine ⟨alL a.1,alL (List.replicate 28 0),31,.inl hp,rfl,hl28 a,zwm [] a.1,by rw [hl28 a];exact Nat.le_refl 28,fun w hh hj=>zero28 hj.1,?_⟩;(conv=>whnf);intro w' hh hj;obtain ⟨w0,_,_,_,h2⟩:=hj.out;rw [hz a] at h2
    exact zb9 fun r w9 hR=>⟨(a,p),fun a' hf=>z6u ⟨z6s hf rfl,z6s hf rfl,z6s hf rfl,z6s hf rfl,z6s hf rfl,z6s hf rfl,z6s hf rfl,trivial⟩,zdg (yco hh) hR.toBelow hh.size,(hR.toBelow.block p (zpt h2)).trans h2⟩
  ·conv=>whnf
   intro p hp;(conv=>whnf);refine ⟨?_,trivial⟩;have hst1:Stable (AllocJ w4 ⟨[],[]⟩ (fun w=>Below w4.heap.size w4 w) p (.cells (alL (List.replicate 28 0)).toArray 31 (0,0))):=yci;refine zrq (intV (q%4)) (us:=[intV q,intV 4]) rfl zK hst1 (fun w _ _=>yc3 q 4 w zO) ?_;rw [← hr];(conv=>whnf);refine ⟨?_,trivial⟩;refine ycw hops hBA4 r hr9 hst1 (fun w h=>h.keep hst0) rfl fun a=>?_;(conv=>whnf);refine ⟨?_,trivial⟩;(conv=>whnf);refine ⟨alL a.1,alL (List.replicate 28 0),31,.inl hp,rfl,hl28 a,zwm [] a.1,by rw [hl28 a];exact Nat.le_refl 28,fun w hh hj=>zero28 hj.1,?_⟩;(conv=>whnf);intro w' hh hj;obtain ⟨w0,_,_,_,h2⟩:=hj.out;rw [hz a] at h2
   exact zb9 fun r w9 hR=>⟨(a,p),fun a' hf=>z6u ⟨z6s hf rfl,z6s hf rfl,z6s hf rfl,z6s hf rfl,z6s hf rfl,z6s hf rfl,z6s hf rfl,trivial⟩,zdg (yco hh) hR.toBelow hh.size,(hR.toBelow.block p (zpt h2)).trans h2⟩
 obtain ⟨⟨a,ha⟩,p12⟩:=y;dsimp only at hJ5⊢;obtain ⟨hB45,f2⟩:=hJ5;have hA:AlOk a:=ha.ok hr9;have hal:=ha.range hr9;have hva:=za4 hA;have hal28:=ha.len;have hla:=zq4 hal28;have hB5:=zdg hB4 hB45 hB4.size;have hBA5:=hBA4.later hB45;have hY5:=yc1 _ _ _ hY4 hB45;have o25:=(hB45.block p9 (zpt o2)).trans o2;have e25:=(hB45.block p11 (zpt e2)).trans e2;clear hB4 hBA4 hY4 o2 e2 hB45;refine z3e (z3g 3 rfl rfl rfl ?_);(conv=>whnf);refine ⟨_,zd0 e25,rfl,?_⟩;(conv=>whnf);refine ⟨alL a,zd0 f2,by rw [List.length_map,hal28];rfl,?_⟩;(conv=>whnf);refine ⟨by kernel_rfl,fun r w6 us' hR hd=>?_⟩;obtain rfl:=zcs (xs:=[blkV b A1 none A3 1 0 3,.agg (alL a).toArray,pV g]) (ycn _ _ a) hd;have hB56:=hR.toBelow;refine (ycs hbo hbv (hBA5.later hB56) hal28 hva hal ⟨hG.1,by omega⟩ (yc1 _ _ _ hY5 hB56).at_).mono fun e w7 ⟨A,cp,he,hsl7,hB67⟩=>?_;have hB57:=zdg hB56 hB67 hB56.size;refine ⟨_,AV.of (.tuple #[codV (yao b a (256*(G:Int)) (256*(G:Int)) 0) A cp,.bool true]),w7,Gs.nil,[(0,one (.int .u32 x0)),(7,one (.bool true)),(8,one (pV g)),(9,one (pV p9)),(10,one (intV (szE c))),(11,one (pV p11)),(12,one (pV p12))],[],Env.none,he,z1w w7,fun a hf=>znv ⟨z6r hf 0 rfl,z6r hf 7 rfl,z6r hf 8 rfl,z6r hf 9 rfl,z6r hf 10 rfl,z6r hf 11 rfl,z6r hf 12 rfl,trivial⟩,AV.of_den _ _,?_⟩;clear hR hd hB56 hB67 he;(conv=>whnf);refine zcd ?_;refine z3n fun r w8 hR=>?_;obtain ⟨p13,us,y1,y2,y3⟩:=hR.own 0 _ rfl;obtain rfl:=zis (us:=[strV (z8v (yao b a (256*(G:Int)) (256*(G:Int)) 0)),.slice A (z5y 0 (yao b a (256*(G:Int)) (256*(G:Int)) 0)).length cp]) y3;have hB78:=hR.toBelow;refine ⟨z6l [(0,.int .u32 x0),(7,.bool true),(8,pV g),(9,pV p9),(10,intV (szE c)),(11,pV p11),(12,pV p12),(13,pV p13),(14,.bool true)],fun a' hf=>z6u ⟨z6s hf rfl,z6s hf rfl,z6s hf rfl,z6s hf rfl,z6s hf rfl,z6s hf rfl,z6s hf rfl,z6q hf 13 rfl y1,z6s hf rfl,trivial⟩,?_⟩;clear hR y1 y3;have hB58:=zdg hB57 hB78 hB57.size;have hB8:=zdg hB5 hB58 hB5.size;have hBA8:=hBA5.later hB58;have hY8:=yc1 _ _ _ hY5 hB58;have o28:=(hB58.block p9 (zpt o25)).trans o25;have e28:=(hB58.block p11 (zpt e25)).trans e25;have f28:=(hB58.block p12 (zpt f2)).trans f2;have hsl8:yb4 (yao b a (256*(G:Int)) (256*(G:Int)) 0) A w8:=ydb _ _ _ _ (show yb4 _ A w7 from hsl7) hB78;clear hB5 hBA5 hY5 o25 e25 f2 hsl7 hB57 hB58 hB78;refine z3e ?_;refine z3q ?_;(conv=>whnf);refine z3c (t:=false) rfl (fun hc=>Bool.noConfusion (show false=true from hc)) (fun _=>z3r (zcd ?_))
 obtain ⟨v2,hv2⟩:∃ v2,v2=(x0-n)%4294967296:=⟨_,rfl⟩
 have hv2w:word v2:=by unfold word;omega
 refine z3q ?_
 conv=>whnf
 refine z3q ?_
 conv=>whnf
 refine ⟨_,zd1 (off:=0+4) o28 rfl,?_⟩
 conv=>whnf
 refine ⟨v2,by rw [wr32,hv2,ycb],?_⟩
 conv=>whnf
 (refine ⟨⟨by omega,by omega⟩,?_⟩;(conv=>whnf))
 refine z3q ?_
 conv=>whnf
 (refine ⟨⟨by omega,by omega⟩,?_⟩;(conv=>whnf))
 refine z3n fun r w9 hR=>?_;obtain ⟨p15,us,g1,g2,g3⟩:=hR.own 0 _ rfl
 obtain ⟨vs,hvsE⟩:∃ vs,vs=((List.replicate 28 (0:Int)).set 2 v2).set 4 16909060:=⟨_,rfl⟩
 have hvs:VarsOk vs:=(by rw [hvsE];exact z4o (z4o yai 2 hv2w) 4 (by unfold word;decide));have hvg:getV vs 2=v2:=(by rw [hvsE];rfl);obtain rfl:us=u32L vs:=(by rw [hvsE];exact zis (us:=u32L (((List.replicate 28 (0:Int)).set 2 v2).set 4 16909060)) g3);have hB89:=hR.toBelow;refine ⟨z6l [(0,.int .u32 x0),(7,.bool true),(8,pV g),(10,intV (szE c)),(11,pV p11),(12,pV p12),(13,pV p13),(15,pV p15)],fun a' hf=>z6u ⟨z6s hf rfl,z6s hf rfl,z6s hf rfl,z6s hf rfl,z6s hf rfl,z6s hf rfl,z6s hf rfl,z6q hf 15 rfl g1,trivial⟩,?_⟩;clear hR g1 g3;have hB9:=zdg hB8 hB89 hB8.size;have hBA9:=hBA8.later hB89;have hY9:=yc1 _ _ _ hY8 hB89;have e29:=(hB89.block p11 (zpt e28)).trans e28;have f29:=(hB89.block p12 (zpt f28)).trans f28;have y29:=(hB89.block p13 (zpt y2)).trans y2;have hsl9:=ydb _ _ _ _ hsl8 hB89;clear hB8 hBA8 hY8 o28 e28 f28 hsl8 y2;have hvl:=hvs.len;refine z3q ?_;(conv=>whnf);refine ⟨_,zd0 e29,rfl,?_⟩;(conv=>whnf);refine ⟨alL a,zd0 f29,by rw [List.length_map,hal28];rfl,?_⟩;(conv=>whnf);refine ⟨_,zd0 y29,rfl,?_⟩;(conv=>whnf);refine ⟨u32L vs,zd0 g2,by rw [List.length_map,hvl];rfl,?_⟩;(conv=>whnf)
 refine ze2 (x:= .bool true) (xs:=[blkV b A1 none A3 1 0 3,.agg (alL a).toArray,codV (yao b a (256*(G:Int)) (256*(G:Int)) 0) A cp,pV g,yaf vs,.int .u32 0,.int .u32 100,intV ((0:Nat):Int)]) (zcq _ a _ _ vs _ _ _) zK (fun r w' hR=>by
  have hBw:=hR.toBelow;have hYw:=yc1 _ _ _ hY9 hBw
  exact za1 hbo hbv (hBA9.later hBw) hA ⟨hG.1,by omega⟩ hYw.at_ hgm hvs yax (by unfold word;decide) 0 zO rfl (ydb _ _ _ _ hsl9 hBw)) ?_
 (conv=>whnf);refine z3n fun r w10 hR=>?_;have hB910:=hR.toBelow;refine ⟨z6l [(0,.int .u32 x0),(7,.bool true),(8,pV g),(10,intV (szE c)),(11,pV p11),(13,pV p13),(15,pV p15),(16,.bool true)],fun a' hf=>z6u ⟨z6s hf rfl,z6s hf rfl,z6s hf rfl,z6s hf rfl,z6s hf rfl,z6s hf rfl,z6s hf rfl,z6s hf rfl,trivial⟩,?_⟩;have hB10:=zdg hB9 hB910 hB9.size;have hBA10:=hBA9.later hB910;have hY10:=yc1 _ _ _ hY9 hB910;have e210:=(hB910.block p11 (zpt e29)).trans e29;have y210:=(hB910.block p13 (zpt y29)).trans y29;have g210:=(hB910.block p15 (zpt g2)).trans g2;have hsl10:=ydb _ _ _ _ hsl9 hB910;clear hR hB9 hBA9 hY9 e29 y29 g2 hsl9 f29 hB910 hB89;have hU10:=hY10.at_;have hwl:=yap (b:=b) (a:=a) (ctx:=256*(G:Int)) (size:=256*(G:Int)) (pred:=0) hbv;have hwe:=yau b a (256*(G:Int)) (256*(G:Int)) 0;have hbl:b.ops.length=3:=(by rw [hb];rfl);have hlen1:lenE b=1:=(by rw [hb];exact yb5 c n)
 obtain ⟨P,hP⟩:∃ P,P=G+2+(4*0+(z8v (yao b a (256*(G:Int)) (256*(G:Int)) 0)).length+255)/256:=⟨_,rfl⟩
 have htl:=z8w (yao b a (256*(G:Int)) (256*(G:Int)) 0);have hsc:=z50 (yao b a (256*(G:Int)) (256*(G:Int)) 0) 0
 obtain ⟨base,hbase⟩:∃ base,base=256*(G+1)+4*0:=⟨_,rfl⟩
 have hwp:∀ x∈z8v (yao b a (256*(G:Int)) (256*(G:Int)) 0),0≤x∧x<256:=ya7 _
 obtain ⟨M0,hM0⟩:∃ M0,M0=zp7 gm G P base (ctxL vs 0 100) (z8v (yao b a (256*(G:Int)) (256*(G:Int)) 0)):=⟨_,rfl⟩
 have hiss:HostIs gm M0 G P base (ctxL vs 0 100) (z8v (yao b a (256*(G:Int)) (256*(G:Int)) 0)):=by
  rw [hM0];exact zqs hgm zO zO (zhr _ _ _) hwp zO zO
 have hM0k:=hiss.ok
 have hlim:¬(100:Int)<(0+1)%4294967296:=by decide
 obtain ⟨lv,hlv⟩:∃ lv,lv=(zkq b vs gm).out.leaves:=⟨_,rfl⟩
 have hadr:(getV vs 2+n)%4294967296=x0:=by rw [hvg,hv2];unfold word at hx0;omega
 obtain ⟨k,R',pc',M',j,it,sk,hk,hit,hri,hstop,hlj,his,hpc,hkind,hM',hfin⟩:∃ (k:Nat) (R':Int→Int) (pc':Int) (M':MemP) (j:Nat) (it:It) (sk:Sk),k<100000∧zrk (z07 M0.fet) k (zqd 1 16) (base:Int) M0=some (R',pc',M')∧z07 M0.fet pc'=some it.i∧((it.i.op=48∧it.i.imm=0)∨(z7d it.i pc' R' M'=none∧23≤it.i.op∧it.i.op≤26))∧
   (yao b a (256*(G:Int)) (256*(G:Int)) 0)[j]?=some it∧it.s=some sk∧pc'=(base:Int)+4*(j:Int)∧((sk.kind=3→it.i.op≠48)∧(it.i.op≠48→sk.kind=3))∧M'.ok (256*P) P∧((sk.kind==2)==decide (x0+szE c>((256*G:Nat):Int)))=true∧((sk.kind==3)==(!decide (x0+szE c>((256*G:Nat):Int))&&lv))=true:=by
  have hle:lv= !(zbr (accO c n) vs gm).stays:=by rw [hlv,hb];exact yce hcc vs gm
  cases hst:(zbr (accO c n) vs gm).stays with
  |true=>
   have hin:=ycf hcc hgm zO hst;rw [hadr] at hin;obtain ⟨k,R',pc',M',j,it,sk,q1,q2,q3,q4,q5,q6,q7,q8,q9,hAg⟩:=zqq (M0:=M0) (junk:=1) (base:=base) (P:=P) hbo hbv hA hG.1 hgm hvs yax (by unfold word;decide) zO zO zO zO zO hM0;have hlim':¬(100:Int)<(0+lenE b)%4294967296:=(by rw [hlen1];decide);have hend:=hAg.ends hlim' (by rw [← hlv,hle,hst];rfl);have h45:sk.kind=4∨sk.kind=6∨sk.kind=5:=(by rcases hend with ⟨h|h,_⟩|⟨h,_⟩<;>omega);refine ⟨k,R',pc',M',j,it,sk,q1,q2,q3,q4,q5,q6,q7,q8,q9,?_,?_⟩
   ·rw [show (sk.kind==2)=false from beq_eq_false_iff_ne.2 zO,show decide (x0+szE c>((256*G:Nat):Int))=false from decide_eq_false zO];rfl
   ·rw [show (sk.kind==3)=false from beq_eq_false_iff_ne.2 zO,hle,hst,Bool.not_true,Bool.and_false];rfl
  |false=>
   obtain ⟨k,R',pc',M',j,it,sk,q1,q2,q3,q4,q5,q6,q7,q8,q9,hκ⟩:=ycu (junk:=1) (x:=n) (a:=a) (base:=base) (P:=P) hcc hnw hA hG.1 hgm hvs yax (by unfold word;decide:word 100) zO zO zO zO (by rw [← hb];omega) (by rw [← hb];exact hiss) hlim hst;rw [hadr] at hκ;rw [← hb] at q5;refine ⟨k,R',pc',M',j,it,sk,q1,q2,q3,q4,q5,q6,q7,q8,q9,?_,?_⟩
   ·by_cases hin:x0+szE c≤256*(G:Int)
    ·rw [if_pos hin] at hκ
     rw [hκ,show decide (x0+szE c>((256*G:Nat):Int))=false from decide_eq_false zO];rfl
    ·rw [if_neg hin] at hκ
     rw [hκ,show decide (x0+szE c>((256*G:Nat):Int))=true from decide_eq_true zO];rfl
   ·by_cases hin:x0+szE c≤256*(G:Int)
    ·rw [if_pos hin] at hκ
     rw [hκ,show decide (x0+szE c>((256*G:Nat):Int))=false from decide_eq_false zO,hle,hst];rfl
    ·rw [if_neg hin] at hκ
     rw [hκ,show decide (x0+szE c>((256*G:Nat):Int))=true from decide_eq_true zO];rfl
 obtain ⟨idx,hix,hlt⟩:=z5v _ 0 j it sk hlj his;rw [Nat.zero_add] at hix hlt
 obtain ⟨si,hsi⟩:∃ si,si=z5t j sk:=⟨_,rfl⟩
 have hjl:j<(yao b a (256*(G:Int)) (256*(G:Int)) 0).length:=(List.getElem?_eq_some_iff.1 hlj).1;have hso:si.off=4*(j:Int):=(by rw [hsi];rfl);have hsk1:si.kind=sk.kind:=(by rw [hsi];rfl);rw [← hsi] at hix;rw [← hsk1] at hfin hkind;generalize yao b a (256*(G:Int)) (256*(G:Int)) 0=l at*
 obtain ⟨C,hC⟩:∃ C,C=ctxL vs 0 100:=⟨_,rfl⟩
 refine z3e ?_;refine z3s [] (.q 0 (.q 1 (.q 3 (.q 4 (.alt 2 (.alt 5 (.alt 6 .done .no) .no) .no))))) (fun w=>ObjsAt w (g::gs) (memS 0 (256*G) G gm)∧Below w10.heap.size w10 w) (fun w hB=>⟨zv0 (zt6 _ _ _) hU10 hB,hB⟩) mixed zK zK ?_;(conv=>whnf);refine ⟨_,zfo (zd0 g210) (nn _),by rw [List.length_map,hvl];rfl,?_⟩;(conv=>whnf);refine ⟨_,zfo (zd1 (off:=0+0) y210 rfl) (nn _),?_⟩;(conv=>whnf);refine ⟨?_,trivial⟩;refine zrq (.agg (u32L C).toArray) (us:=[yaf vs,.int .u32 0,.int .u32 100]) (zc0 vs _ _ rfl rfl) zK (fun w w' h hB=>⟨zv0 (zt6 _ _ _) h.1 hB,zdg h.2 hB h.2.size⟩) (fun w hh hj=>by rw [hC];exact zg2 vs 0 100 hvs w) ?_;(conv=>whnf);refine ⟨?_,trivial⟩;refine ⟨by kernel_rfl,Nat×Nat×Nat×List Nat,fun y=>pV y.1,fun y w'=>HoAt w' y.1 y.2.1 y.2.2.1 y.2.2.2 (stL (zql ((base:Nat):Int) 1 16) []) (256*P) P M0 ((base:Nat):Int) ((256*G:Nat):Int) ((256*G:Nat):Int)∧(∀ b∈y.1::y.2.1::y.2.2.1::y.2.2.2,w10.heap.size≤b)∧Below w10.heap.size w10 w',fun w us hh hj hd=>?_,?_⟩
 ·obtain rfl:=zcs (xs:=[pV g,.agg (u32L C).toArray,strV (z8v l),intV ((0:Nat):Int),.int .u32 1]) (zcv _ _ _ _ C) hd
  refine (zuv hj.1 hgm C (by rw [hC];exact zhr _ _ _) (by rw [hC];exact zhs hvs yax (by unfold word;omega)) (z8v l) hwp zO 0 zO 1 P hP zO).mono fun e w' ⟨h,c,m,ms,he,ho,hfr,hB⟩=>⟨(h,c,m,ms),he,zp1 (gs1:=[]) hh (zpy hB) nofun,?_,fun b hb=>Nat.le_trans hh.size (hfr b hb),zdg hj.2 hB hj.2.size⟩
  rw [hC, ← hbase, ← hM0] at ho;exact ho
 rintro ⟨h,cc,m,ms⟩;(conv=>whnf);refine ⟨?_,trivial⟩;(conv=>whnf);intro w11' _ ⟨ho11',hfr11,hB1011'⟩;refine zcd ?_;refine z3n fun r w11 hR=>?_;have hB11':=hR.toBelow;refine ⟨z6l [(0,.int .u32 x0),(7,.bool true),(8,pV g),(10,intV (szE c)),(11,pV p11),(13,pV p13),(15,pV p15),(16,.bool true),(17,pV h)],fun a' hf=>z6u ⟨z6s hf rfl,z6s hf rfl,z6s hf rfl,z6s hf rfl,z6s hf rfl,z6s hf rfl,z6s hf rfl,z6s hf rfl,z6s hf rfl,trivial⟩,?_⟩;have ho11:=ho11'.later hB11';have hB1011:=zdg hB1011' hB11' hB1011'.size;clear hR ho11' hB1011' hB11';have y211:=(hB1011.block p13 (zpt y210)).trans y210;have hsl11:=ydb _ _ _ _ hsl10 hB1011
 have hnA:∀ b' off',A=some ⟨b',off',none⟩→b'∉cc::m::ms:=fun b' off' e hm=>by
  obtain ⟨b2,o2,e2,h2,_⟩:=hsl10 (idx*6) (.int .i64 si.off) ((zm6 _ idx si hix 0 zO).trans rfl);rw [e] at e2;injection e2 with e2;injection e2 with e2;subst e2;have:=hfr11 b' (List.mem_cons_of_mem _ hm);omega
 refine z3e (z3f 2 rfl rfl rfl ?_);(conv=>whnf);refine ⟨[strV (z8v l),.slice A (z5y 0 l).length cp],zd0 y211,rfl,?_⟩;(conv=>whnf);refine ⟨by kernel_rfl,fun r w12 us' hR hd=>?_⟩;obtain rfl:=zcs (xs:=[pV h,codV l A cp]) rfl hd;have hB12:=hR.toBelow
 refine (z7o (zql ((base:Nat):Int) 1 16) (zqm (by unfold word;omega)) rfl (by show (0:Int)≤1000000;decide) (ho11.later hB12) hM0k k hk hit hri hstop (z8v l) (z5y 0 l) A cp (ydb _ _ _ _ hsl11 hB12) hnA zO idx si hix (fun i x hi hx=>by rw [hso];exact hlt i x hi hx) (by rw [hpc,hso]) zO hkind).mono fun e w13 ⟨he,ho13,hh13⟩=>⟨_,he,?_⟩
 have hB1013:Below w10.heap.size w10 w13:=zdi (zdg hB1011 hB12 hB1011.size) hh13 fun b hb=>hfr11 b (List.mem_cons_of_mem _ hb);clear hR hd hB12 hh13;(conv=>whnf);refine zcd ?_;refine z3n fun r w14 hR=>?_;obtain ⟨p18,us,d1,d2,d3⟩:=hR.own 0 _ rfl;obtain rfl:=zis (us:=z5s si) d3;have hB1314:=hR.toBelow;refine ⟨z6l [(0,.int .u32 x0),(7,.bool true),(8,pV g),(10,intV (szE c)),(11,pV p11),(15,pV p15),(16,.bool true),(17,pV h),(18,pV p18)],fun a' hf=>z6u ⟨z6s hf rfl,z6s hf rfl,z6s hf rfl,z6s hf rfl,z6s hf rfl,z6s hf rfl,z6s hf rfl,z6s hf rfl,z6q hf 18 rfl d1,trivial⟩,?_⟩;have hB1014:=zdg hB1013 hB1314 hB1013.size;have ho14:=ho13.later hB1314;have hB14:=zdg hB10 hB1014 hB10.size;have hBA14:=hBA10.later hB1014;have hY14:=yc1 _ _ _ hY10 hB1014;have e214:=(hB1014.block p11 (zpt e210)).trans e210;have g214:=(hB1014.block p15 (zpt g210)).trans g210;clear hR d1 d3 hB10 hBA10 hY10 e210 g210 y210 y211 hsl10 hsl11 hB1011 hB1013 hB1014 hB1314 ho11 ho13;refine z3q ?_;(conv=>whnf);have hsz:szE c=1∨szE c=4:=(by unfold szE;split<;>simp);refine ⟨x0,wr64 (by unfold word at hx0;omega),?_⟩;(conv=>whnf);refine ⟨x0+szE c,wr64 (by unfold word at hx0;omega),?_⟩;(conv=>whnf);refine ⟨_,zd1 (off:=0+3) ho14.host rfl,?_⟩
 obtain ⟨O,hO⟩:∃ O,O=decide (x0+szE c>((256*G:Nat):Int)):=⟨_,rfl⟩
 conv=>whnf
 rw [← hO] at hfin⊢
 obtain ⟨hvlen,_⟩:=zkr (b:=b) hbo hvs hgm
 have hol:(zoL).length=(outL (zkq b vs gm).out).length:=by simp [zoL,hvlen]
 have hol2:(outL (zkq b vs gm).out).length=32:=by simp [hvlen]
 refine z3l (α:=Nat) (fun p=>z6l [(7,.bool true),(16,.bool true),(18,pV p18),(20,.bool O),(21,pV p)]) (fun p w'=>Below w14.heap.size w14 w'∧w'.heap[p]?=some (.cells (outL (zkq b vs gm).out).toArray 74 (0,0))) ?_ fun p w15 hJ15=>?_
 ·refine z3s [] (.q 0 (.q 1 (.q 2 (.alt 3 (.alt 4 (.alt 5 (.alt 6 .done .no) .no) (.alt 5 (.alt 4 (.alt 6 .done .no) .no) .no)) (.alt 5 (.alt 3 (.alt 4 (.alt 6 .done .no) .no) .no) .no))))) (fun w=>Below w14.heap.size w14 w) (fun w hB=>hB) mixed zK zK ?_
  have hst0:=ydc w14;(conv=>whnf);refine ⟨_,zfo (zd0 e214) (nn _),rfl,?_⟩;(conv=>whnf);refine ⟨u32L vs,zfo (zd0 g214) (nn _),by rw [List.length_map,hvl];rfl,?_⟩;(conv=>whnf);have zeroO:∀ {J:World→Prop} {p:Nat} {w:World},AllocJ w14 ⟨[],[]⟩ J p (.cells zoL.toArray 74 (0,0)) w→w.heap[p]?=some (.cells zoL.toArray 74 (0,0)):=fun h=>h.get;refine ⟨?_,?_,trivial⟩
  ·refine ycx (y:=⟨g,gs,G,gm⟩) (Z:=fun _=>True) hst0 hY14 (fun w h=>h) rfl (fun _ _ _=>trivial) fun z=>?_
   (conv=>whnf);refine ⟨?_,?_,trivial⟩
   ·refine ycy (J':=fun _=>True) hbo hbv hvs hgm hBA14 (zcu (pV z.1) _ vs) (fun w h=>h.2.1) (fun _ _ _ _=>trivial) ?_
    generalize (zkq b vs gm).out=o at*;(conv=>whnf);refine ⟨?_,trivial⟩;(conv=>whnf);intro p hp;(conv=>whnf);refine ⟨?_,trivial⟩;(conv=>whnf);refine ⟨outL o,zoL,74,.inl hp,rfl,hol2,zwp [] o.vars,by rw [← hol];exact Nat.le_refl _,fun w hh hj=>zeroO hj,?_⟩;(conv=>whnf);intro w' hh hj;obtain ⟨w0,_,_,_,h2⟩:=hj.out;rw [yda hol] at h2
    exact zb9 fun r w9 hR=>⟨p,fun a' hf=>z6u ⟨z6s hf rfl,z6s hf rfl,z6s hf rfl,z6s hf rfl,z6s hf rfl,trivial⟩,zdg (yco hh) hR.toBelow hh.size,(hR.toBelow.block p (zpt h2)).trans h2⟩
   ·conv=>whnf
    intro p hp;(conv=>whnf);refine ⟨?_,trivial⟩;refine ycy (J':=fun w=>w.heap[p]?=some (.cells zoL.toArray 74 (0,0))) hbo hbv hvs hgm hBA14 (zcu (pV z.1) _ vs) (fun w h=>(h.keep (hst0.and (ycq _ _ z))).2.1) (fun w w' h hg=>?_) ?_
    ·obtain ⟨w0,h1,h2,h3,h4,h5⟩:=h.out
     exact (hg.block p (zpt h5) fun hm=>by have:=h1.2.1.1.lt p hm;omega).trans h5
    generalize (zkq b vs gm).out=o at*;(conv=>whnf);refine ⟨?_,trivial⟩;(conv=>whnf);refine ⟨outL o,zoL,74,.inl hp,rfl,hol2,zwp [] o.vars,by rw [← hol];exact Nat.le_refl _,fun w hh hj=>hj,?_⟩;(conv=>whnf);intro w' hh hj;obtain ⟨w0,_,_,_,h2⟩:=hj.out;rw [yda hol] at h2
    exact zb9 fun r w9 hR=>⟨p,fun a' hf=>z6u ⟨z6s hf rfl,z6s hf rfl,z6s hf rfl,z6s hf rfl,z6s hf rfl,trivial⟩,zdg (yco hh) hR.toBelow hh.size,(hR.toBelow.block p (zpt h2)).trans h2⟩
  ·conv=>whnf
   intro p hp;(conv=>whnf);refine ⟨?_,trivial⟩;refine ycx (y:=⟨g,gs,G,gm⟩) (Z:=fun z=>p∉z.1::z.2.1) (J:=AllocJ w14 ⟨[],[]⟩ (fun w=>Below w14.heap.size w14 w) p (.cells zoL.toArray 74 (0,0))) yci hY14 (fun w h=>h.keep hst0) rfl (fun w z ⟨hj,hf⟩ hm=>by have:=zpt hj.get;have:=hf p hm;omega) fun z=>?_;(conv=>whnf);refine ⟨?_,trivial⟩;refine ycy (J':=fun w=>w.heap[p]?=some (.cells zoL.toArray 74 (0,0))) hbo hbv hvs hgm hBA14 (zcu (pV z.1) _ vs) (fun w h=>h.2.1) (fun w w' h hg=>(hg.block p (zpt h.1.get) h.2.2).trans h.1.get) ?_;generalize (zkq b vs gm).out=o at*;(conv=>whnf);refine ⟨?_,trivial⟩;(conv=>whnf);refine ⟨outL o,zoL,74,.inl hp,rfl,hol2,zwp [] o.vars,by rw [← hol];exact Nat.le_refl _,fun w hh hj=>hj,?_⟩;(conv=>whnf);intro w' hh hj;obtain ⟨w0,_,_,_,h2⟩:=hj.out;rw [yda hol] at h2
   exact zb9 fun r w9 hR=>⟨p,fun a' hf=>z6u ⟨z6s hf rfl,z6s hf rfl,z6s hf rfl,z6s hf rfl,z6s hf rfl,trivial⟩,zdg (yco hh) hR.toBelow hh.size,(hR.toBelow.block p (zpt h2)).trans h2⟩
 obtain ⟨hB1415,x15⟩:=hJ15;have d15:=(hB1415.block p18 (zpt d2)).trans d2;have hB15:=zdg hB14 hB1415 hB14.size;obtain ⟨hf1,hf2⟩:=hfin;generalize (zkq b vs gm).out=o at*;refine z3q ?_;refine kB ?_;refine ⟨_,zd1 (off:=0+1) d15 rfl,?_⟩;refine kB ?_;refine yc8 (si.kind==2) O rfl rfl rfl rfl ?_;rw [hf1];refine kB ?_;refine ⟨_,zd1 (off:=0+1) d15 rfl,?_⟩;refine kB ?_;rw [hlv] at hf2
 cases O
 ·conv=>whnf
  refine kA ?_;refine ⟨.bool o.leaves,zd1 (off:=0+0) x15 rfl,?_⟩;refine kB ?_;refine yc8 (si.kind==3) o.leaves rfl rfl rfl rfl ?_;have hf2:((si.kind==3)==o.leaves)=true:=hf2;rw [hf2];refine kB ?_;refine z3u ?_;(conv=>whnf);refine zcg ?_;(conv=>whnf)
  exact zmj rfl fun w9 hB9=>⟨rfl,zdj hB15 hB9⟩
 ·conv=>whnf
  refine kA ?_;refine yc8 (si.kind==3) false rfl rfl rfl rfl ?_;have hf2:((si.kind==3)==false)=true:=hf2;rw [hf2];refine kB ?_;refine z3u ?_;(conv=>whnf);refine zcg ?_;(conv=>whnf)
  exact zmj rfl fun w9 hB9=>⟨rfl,zdj hB15 hB9⟩
end
open Go.ChangeShapes Go.WideShapes Go.ChangeAt Go.RowKit
theorem yc9 (os:Os) (started:os.Started) (H:Type) (enc:TypeId×Value→H):
  ReturnsInHanded {} Tryz.checked os 7 .any (Rows.qemitAccessSpec.pre6 enc Tryz.prog Tryz.f7 Rows.qemitAccessRow.domain false) (Rows.qemitAccessSpec.post enc Tryz.prog Tryz.f7 false true false false):=by
 refine returnsInHanded_of_change (C:=Tryz.checked) ownK started zK Tryz.func7
  (ChangeSpec.witness6 (enc:=enc) (C:=Tryz.checked) false ⟨#[],#[.int .u32 0,.int .i64 0,.agg #[.int .i64 0,.int .i64 0,.int .i64 0,.int .i64 0]],[]⟩ 8 zK zK zK zK) ?_
 intro W base args ds gs before hval0 hW hcnd _;have hval:∀ (j:Nat) t v,Tryz.f7.params[j]?=some t→args[j]?=some v→Value.okWide Tryz.prog W .any base t v:=hval0;have hW':=hW;obtain ⟨p,q,hA0,hV,rfl,hfz,hnd⟩:=hW;have hA:DataW.TrodAll enc Tryz.prog W 0 (fun _=>true) true Tryz.f7.params.toList args.toList ds p:=hA0;rw [Tryz.params7] at hA hval;obtain ⟨v0,vs0,d0,ds0,p0,q0,hargs,rfl,rfl,h0,r0⟩:=trodAll_cons hA;obtain ⟨v1,vs1,d1,ds1,p1,q1,rfl,rfl,rfl,h1,r1⟩:=trodAll_cons r0;obtain ⟨v2,vs2,d2,ds2,p2,q2,rfl,rfl,rfl,h2,r2⟩:=trodAll_cons r1;obtain ⟨rfl,rfl,rfl⟩:=trodAll_nil r2;obtain rfl:args= #[v0,v1,v2]:=(by cases args;simp_all);obtain ⟨rfl,rfl⟩:=trodVars_none hV;clear hA0;obtain ⟨x0,rfl⟩:=okWide_int Tryz.underlying41 (hval 0 41 v0 rfl rfl);have hx0:=yc7 h0;obtain ⟨x1,rfl⟩:=okWide_int Tryz.underlying3 (hval 1 3 v1 rfl rfl);obtain ⟨y20,y21,y22,y23,rfl,_⟩:=yc6 (hval 2 23 v2 rfl rfl) h2;have k0:=h0;have k1:=h1;have k2:=h2;have lt0:∀ x∈p0,x.block<W.heap.size:=(by obtain ⟨m,hm⟩:=k0;exact DataW.trod_lt m _ _ _ hm);have lt1:∀ x∈p1,x.block<W.heap.size:=(by obtain ⟨m,hm⟩:=k1;exact DataW.trod_lt m _ _ _ hm);have lt2:∀ x∈p2,x.block<W.heap.size:=(by obtain ⟨m,hm⟩:=k2;exact DataW.trod_lt m _ _ _ hm);clear hval0;refine (ycg x0 x1 y20 y21 y22 y23 hx0 (w:=W)).mono fun e W' ⟨he,bel⟩=>?_;subst he;exact ⟨_,rfl,_,_,_,[],_,[],hW',trodAll_mk1 (shut_bool Tryz.underlying4 _),(trodAll_cons_mk (Below.trod yc0 zK (of_decide_eq_true zK) k0 bel lt0) (trodAll_cons_mk (Below.trod yc0 zK (of_decide_eq_true zK) k1 bel lt1) (trodAll_cons_mk (Below.trod yc0 zK (of_decide_eq_true zK) k2 bel lt2) trodAll_mk0))),rfl,bel.frame _,fun h=>by cases h⟩
theorem qemitAccess_holds:Rows.QemitAccessSaid:=
 OpenClaim.holds_of_wide 7 Tryz.f7 rfl rfl rfl rfl rfl rfl rfl ⟨rfl,rfl,rfl,rfl,rfl⟩ rfl rfl rfl rfl rfl (by kernel_rfl) Tryz.func7 (by kernel_rfl)
  (of_decide_eq_true (by kernel_rfl)) (by unfold Func.isWrapper;first|(rw [if_pos (by decide+kernel)];kernel_rfl)|(rw [if_neg (by decide+kernel)];exact ⟨rfl,rfl⟩))
  (fun os started H enc _=>yc9 os started H enc)
end Go.Proofs.YtocafomnnkmjfaaGreat
#print axioms Go.Proofs.YtocafomnnkmjfaaGreat.qemitAccess_holds
