import Derived.Test.YtocafomnnkmjfaaGreatMChainedB
set_option maxRecDepth 100000
set_option maxHeartbeats 8000000
namespace Go.Proofs.YtocafomnnkmjfaaGreat
open Go.RowKit
abbrev usT:TypeId:=30
structure UsOk (u:List Int):Prop where
 len:u.length=28
 pc:getV u 19=0
theorem ye7:UsOk (List.replicate 28 0):=⟨rfl,rfl⟩
theorem UsOk.set {u:List Int} (h:UsOk u) {v x:Int} (hv:0≤v∧v<28) (h19:v≠19):UsOk (u.set v.toNat x):=⟨by rw [List.length_set];exact h.len,by rw [yb2 h.len hv 19 zO,if_neg zO];exact h.pc⟩
section
variable {w:World}
theorem ydb (u:List Int) (hu:UsOk u) (has:Bool) (v:Int):Calls Tryz.prog 108 #[.agg (alL u).toArray,.bool has,.int .i64 v] w fun e w'=>∃ u',UsOk u'∧e= .returned (.agg (alL u').toArray)∧Below w.heap.size w w':=by
 refine zfh [.agg (alL u).toArray,.bool has,.int .i64 v] Tryz.func108 Tryz.ntmps108 rfl zS ?_;refine z3i ?_;(conv=>whnf);refine z3c (α:={u:List Int//UsOk u}) (fun _=>[(3,.p (.c (.ref 0 0))),(6,.p (.c (.ref 1 0)))]) (fun x=>[.cells usT ((alL x.1).map .v),.cells usT ((alL (List.replicate 28 0)).map .v)]) ?_ fun x=>?_
 ·refine z3i ?_
  conv=>whnf
  have hul:=zra hu.len
  cases has
  ·conv=>whnf
   refine kA ?_;refine z23 (t:=false) rfl (fun hc=>Bool.noConfusion (show false=true from hc)) (fun _=>?_);exact z3j (zb8 ⟨u,hu⟩ (zkb rfl Tn Tn))
  refine kB ?_;by_cases h1:v≥0;rotate_left
  ·rw [show decide (v≥0)=false from decide_eq_false h1]
   refine kB ?_;refine z23 (t:=false) rfl (fun hc=>Bool.noConfusion (show false=true from hc)) (fun _=>?_);exact z3j (zb8 ⟨u,hu⟩ (zkb rfl Tn Tn))
  rw [show decide (v≥0)=true from decide_eq_true h1];refine kB ?_;by_cases h2:v<28;rotate_left
  ·rw [show decide (v<28)=false from decide_eq_false h2]
   refine kB ?_;refine z23 (t:=false) rfl (fun hc=>Bool.noConfusion (show false=true from hc)) (fun _=>?_);exact z3j (zb8 ⟨u,hu⟩ (zkb rfl Tn Tn))
  rw [show decide (v<28)=true from decide_eq_true h2];refine kB ?_;by_cases h3:v=19
  ·rw [show (v !=19)=false from bne_eq_false_iff_eq.2 h3]
   refine kB ?_;refine z23 (t:=false) rfl (fun hc=>Bool.noConfusion (show false=true from hc)) (fun _=>?_);exact z3j (zb8 ⟨u,hu⟩ (zkb rfl Tn Tn))
  rw [show (v !=19)=true from bne_iff_ne.2 h3];refine kB ?_;refine z23 (t:=true) rfl (fun _=>?_) (fun hc=>Bool.noConfusion (show true=false from hc));refine z3m ?_;(conv=>whnf)
  (refine ⟨⟨by omega,by omega⟩,?_⟩;(conv=>whnf))
  rw [zq9 hu.len ⟨h1,h2⟩];(conv=>whnf);refine ⟨_,rfl,?_⟩;(conv=>whnf)
  (refine ⟨⟨by omega,by omega⟩,?_⟩;(conv=>whnf))
  rw [show ∀ y:Value,Nat.ble (0+v.toNat*tsz Tryz.prog 3+[CV.v y].length) (List.map CV.v (alL u)).length=true from fun y=>Nat.ble_eq_true_of_le (by rw [hul];show 0+v.toNat*1+1≤28;omega)];(conv=>whnf);rw [show Nat.ble (List.map CV.v (alL u)).length 8=false from zdy (by rw [hul];decide)];(conv=>whnf);exact zb8 ⟨u.set v.toNat _,hu.set ⟨h1,h2⟩ h3⟩ (zkb rfl Tn (aI ((aI rfl (Or.inl zrb))) (aI sM trivial)))
 ·obtain ⟨u',hu'⟩:=x
  dsimp only;have hlen:=zra hu'.len;have hz:(List.map CV.v (alL (List.replicate 28 0))).length=28:=rfl;refine z3i ?_;(conv=>whnf);rw [show cut (List.map CV.v (alL u')) 0 (Tryz.prog.types[30].size)=some (List.map CV.v (alL u')) from zh1 hlen];(conv=>whnf);rw [show Nat.beq (List.map CV.v (alL u')).length (Tryz.prog.types[30].size)=true from by rw [hlen];rfl,zwi];(conv=>whnf);rw [show Nat.ble (0+(List.map CV.v (alL u')).length) (List.map CV.v (alL (List.replicate 28 0))).length=true from Nat.ble_eq_true_of_le (by rw [hlen,hz];omega)];(conv=>whnf);rw [z32 (show (List.map CV.v (alL (List.replicate 28 0))).length=(List.map CV.v (alL u')).length by rw [hlen,hz])];refine z3m ?_;(conv=>whnf);refine zcg ?_;(conv=>whnf);rw [show cut (List.map CV.v (alL u')) 0 (Tryz.prog.types[30].size)=some (List.map CV.v (alL u')) from zh1 hlen];(conv=>whnf)
  exact zmp (z9e _) fun w2 hB=>⟨u',hu',rfl,hB⟩
theorem ye8 (x y z:Value) (u:List Int):zoz Gs.nil [Ow.cells 28 [.v x,.v y,.v z],Ow.cells usT ((alL (List.replicate 28 0)).map .v),Ow.cells usT ((alL u).map .v)]=true:=by
 show sbnd 3 _=true;simp only [sbnd,Ow.bnd,zd6]
 rfl
theorem yb8 (u:List Int) (x y:Value):avals [.p (.agg (List.map CV.v (alL u))),.p (.c (.v x)),.p (.c (.v y))]=some [.agg (alL u).toArray,x,y]:=by
 simp only [avals,AV.val,Pc.val,z9d,CV.val]
theorem ye9 (b:Blk) (A1 A2 A3:Option Addr) (c1 c2 c3:Nat) (hops:b.ops.length≤2000) (h3:OpsAt w w.heap.size A3 b.ops):Calls Tryz.prog 64 #[blkV b A1 A2 A3 c1 c2 c3] w fun e w'=>∃ u,UsOk u∧e= .returned (.agg (alL u).toArray)∧Below w.heap.size w w':=by
 refine zfh [blkV b A1 A2 A3 c1 c2 c3] Tryz.func64 Tryz.ntmps64 rfl zS ?_;refine z3i ?_;(conv=>whnf);refine z3i ?_;(conv=>whnf);refine z3c (α:={u:List Int//UsOk u}) (fun _=>[(1,.p (.c (.ref 0 0))),(2,.p (.c (.ref 1 0))),(3,.p (.c (.ref 2 0)))]) (fun x=>[.cells 28 [.v (.slice A1 b.at_.length c1),.v (.slice A2 b.pages.length c2),.v (.slice A3 b.ops.length c3)],.cells usT ((alL (List.replicate 28 0)).map .v),.cells usT ((alL x.1).map .v)]) ?_ fun x=>?_
 ·refine z3i ?_
  (conv=>whnf);refine z21 ?_;refine z29 (α:={x:Nat×List Int//x.1≤b.ops.length∧UsOk x.2}) (fun x=>[(1,.p (.c (.ref 0 0))),(2,.p (.c (.ref 1 0))),(3,.p (.c (.ref 2 0))),(4,one (intV (x.1.1:Int)))]) (fun x=>[.cells 28 [.v (.slice A1 b.at_.length c1),.v (.slice A2 b.pages.length c2),.v (.slice A3 b.ops.length c3)],.cells usT ((alL (List.replicate 28 0)).map .v),.cells usT ((alL x.1.2).map .v)]) (fun x=>b.ops.length-x.1.1) ⟨(0,List.replicate 28 0),by omega,ye7⟩ (zkb rfl Tn Tn) (fun x=>?_);obtain ⟨⟨j,u⟩,hj,hu⟩:=x;dsimp only at hj hu⊢;refine z25 ?_;refine z3i ?_;(conv=>whnf);refine z23 rfl (fun hc=>z3j (zcd ?_)) (fun hc=>?_)
  ·have hlt:j<b.ops.length:=by have:=of_decide_eq_true hc;omega
   obtain ⟨o,ho⟩:∃ o,b.ops[j]?=some o:=⟨_,List.getElem?_eq_getElem hlt⟩
   obtain ⟨bb,off,rfl,hcell⟩:∃ bb off,A3=some ⟨bb,off,none⟩∧zac w Gs.nil bb (off+(j:Int).toNat*5) (opC o):=by
    obtain ⟨bb,off,rfl,_⟩:=OpsAt.open_ h3 zO;exact ⟨bb,off,rfl,zfv h3 (fun hm=>by rcases hm with hm|hm<;>cases hm) ho⟩
   refine z25 ?_;refine z21 ?_;refine z3i ?_;(conv=>whnf)
   (refine ⟨⟨by omega,by omega⟩,?_⟩;(conv=>whnf))
   refine ⟨opC o,hcell,rfl,?_⟩;(conv=>whnf);refine z3i ?_;(conv=>whnf);refine ze2 rfl zK (fun r w' hR=>z4w o.code w') ?_;(conv=>whnf);refine z3i ?_;(conv=>whnf);erw [show cut (List.map CV.v (alL u)) 0 (Tryz.prog.types[30].size)=some (List.map CV.v (alL u)) from zh1 (zra hu.len)];(conv=>whnf);refine yca (fun v=>∃ u',UsOk u'∧v= .agg (alL u').toArray) (xs:=[.agg (alL u).toArray,.bool (hasD o.code),.int .i64 o.d]) (yb8 u _ _) zK (fun r w' hR=>(ydb u hu (hasD o.code) o.d).mono fun e w'' ⟨u',h1,h2,h3⟩=>⟨_,h2,⟨u',h1,rfl⟩,h3⟩) ?_;rintro v ⟨u1,hu1,rfl⟩;(conv=>whnf);erw [zdl (l:=List.map CV.v (alL u1)) (n:=28) (zra hu1.len)];(conv=>whnf);erw [zwi];(conv=>whnf);erw [zdz (l:=List.map CV.v (alL u1)) (m:=List.map CV.v (alL u)) (by rw [zra hu1.len,zra hu.len])];(conv=>whnf);erw [z32 (l:=List.map CV.v (alL u)) (m:=List.map CV.v (alL u1)) (by rw [zra hu1.len,zra hu.len])];erw [show Nat.ble (List.map CV.v (alL u)).length 8=false from zdy (by rw [zra hu.len];decide)];(conv=>whnf);refine z3i ?_;(conv=>whnf);erw [show cut (List.map CV.v (alL u1)) 0 (Tryz.prog.types[30].size)=some (List.map CV.v (alL u1)) from zh1 (zra hu1.len)];(conv=>whnf);refine yca (fun v=>∃ u',UsOk u'∧v= .agg (alL u').toArray) (xs:=[.agg (alL u1).toArray,.bool (hasA o.code),.int .i64 o.a]) (yb8 u1 _ _) zK (fun r w' hR=>(ydb u1 hu1 (hasA o.code) o.a).mono fun e w'' ⟨u',h1,h2,h3⟩=>⟨_,h2,⟨u',h1,rfl⟩,h3⟩) ?_;rintro v ⟨u2,hu2,rfl⟩;(conv=>whnf);erw [zdl (l:=List.map CV.v (alL u2)) (n:=28) (zra hu2.len)];(conv=>whnf);erw [zwi];(conv=>whnf);erw [zdz (l:=List.map CV.v (alL u2)) (m:=List.map CV.v (alL u1)) (by rw [zra hu2.len,zra hu1.len])];(conv=>whnf);erw [z32 (l:=List.map CV.v (alL u1)) (m:=List.map CV.v (alL u2)) (by rw [zra hu2.len,zra hu1.len])];erw [show Nat.ble (List.map CV.v (alL u1)).length 8=false from zdy (by rw [zra hu1.len];decide)];(conv=>whnf);refine z3m ?_;(conv=>whnf);erw [show cut (List.map CV.v (alL u2)) 0 (Tryz.prog.types[30].size)=some (List.map CV.v (alL u2)) from zh1 (zra hu2.len)];(conv=>whnf);refine yca (fun v=>∃ u',UsOk u'∧v= .agg (alL u').toArray) (xs:=[.agg (alL u2).toArray,.bool (hasB o.code),.int .i64 o.b]) (yb8 u2 _ _) zK (fun r w' hR=>(ydb u2 hu2 (hasB o.code) o.b).mono fun e w'' ⟨u',h1,h2,h3⟩=>⟨_,h2,⟨u',h1,rfl⟩,h3⟩) ?_;rintro v ⟨u3,hu3,rfl⟩;(conv=>whnf);erw [zdl (l:=List.map CV.v (alL u3)) (n:=28) (zra hu3.len)];(conv=>whnf);erw [zwi];(conv=>whnf);erw [zdz (l:=List.map CV.v (alL u3)) (m:=List.map CV.v (alL u2)) (by rw [zra hu3.len,zra hu2.len])];(conv=>whnf);erw [z32 (l:=List.map CV.v (alL u2)) (m:=List.map CV.v (alL u3)) (by rw [zra hu3.len,zra hu2.len])];erw [show Nat.ble (List.map CV.v (alL u2)).length 8=false from zdy (by rw [zra hu2.len];decide)];(conv=>whnf);refine zb4 (zcd ?_);refine z3m ?_;(conv=>whnf);refine ⟨((j+1:Nat):Int),by rw [show (j:Int)+1=((j+1:Nat):Int) by omega];exact wr64 zO,?_⟩;(conv=>whnf);exact zcb ⟨(j+1,u3),by omega,hu3⟩ (zj2 Tn Tn rfl (ye8 _ _ _ _)) (by show b.ops.length-(j+1)<b.ops.length-j;omega)
  ·have hje:j=b.ops.length:=by have:=of_decide_eq_false hc;omega
   refine z3m ?_;(conv=>whnf);exact zb7 (zce (zb6 (zb8 ⟨u,hu⟩ (zkb rfl Tn Tn))))
 ·obtain ⟨u',hu'⟩:=x
  dsimp only;have hlen:=zra hu'.len;have hz:(List.map CV.v (alL (List.replicate 28 0))).length=28:=rfl;refine z3i ?_;(conv=>whnf);rw [show cut (List.map CV.v (alL u')) 0 (Tryz.prog.types[30].size)=some (List.map CV.v (alL u')) from zh1 hlen];(conv=>whnf);rw [show Nat.beq (List.map CV.v (alL u')).length (Tryz.prog.types[30].size)=true from by rw [hlen];rfl,zwi];(conv=>whnf);rw [show Nat.ble (0+(List.map CV.v (alL u')).length) (List.map CV.v (alL (List.replicate 28 0))).length=true from Nat.ble_eq_true_of_le (by rw [hlen,hz];omega)];(conv=>whnf);rw [z32 (show (List.map CV.v (alL (List.replicate 28 0))).length=(List.map CV.v (alL u')).length by rw [hlen,hz])];refine z3m ?_;(conv=>whnf);refine zcg ?_;(conv=>whnf);rw [show cut (List.map CV.v (alL u')) 0 (Tryz.prog.types[30].size)=some (List.map CV.v (alL u')) from zh1 hlen];(conv=>whnf)
  exact zmp (z9e _) fun w2 hB=>⟨u',hu',rfl,hB⟩
end
theorem yel {B:Nat} {w':World} {v1 v2 v3:Value} {b:Blk} (h:Rows3 B w' v1 v2 v3 b):∃ A1 A2 A3 c1 c2 c3,(.agg #[v1,v2,v3]:Value)=blkV b A1 A2 A3 c1 c2 c3∧BlkAt w' b A1 A2 A3:=by
 obtain ⟨A1,c1,rfl⟩:=z13 h.at_;obtain ⟨A2,c2,rfl⟩:=z13 h.pages;obtain ⟨A3,c3,rfl⟩:=z13 h.ops;exact ⟨A1,A2,A3,c1,c2,c3,rfl,SlAt.of_own h.at_,SlAt.of_own h.pages,SlAt.of_own h.ops⟩
section
variable {w:World}
theorem yb9 (xs:List Value) (x2:Value) (a:List Int):avals [.p (.agg (List.map CV.v xs)),.p (.agg (List.map CV.v (alL a))),.p (.c (.v x2))]=some [.agg xs.toArray,.agg (alL a).toArray,x2]:=by
 simp only [avals,AV.val,Pc.val,z9d,CV.val]
theorem ydz (A:Option Addr) (n c:Nat) (xs:List Int) (hs:SlAt w w.heap.size A (xs.map intV)) (hl:xs.length=n):Calls Tryz.prog 14 #[.slice A n c] w fun e w'=>∃ b,MadeOk b∧Blky b w e w':=
 (ydy A n c xs w hs hl (Nat.zero_le n)).mono fun e w' ⟨b,v1,v2,v3,hb,he,hr,hB⟩=>by
  obtain ⟨A1,A2,A3,c1,c2,c3,hv,hBA⟩:=yel hr;exact ⟨b,hb,A1,A2,A3,c1,c2,c3,by rw [he,hv],hBA,hB⟩
end
def Stable (J:World→Prop):Prop:=∀ w w',J w→Below w.heap.size w w'→J w'
theorem Stable.and {J K:World→Prop} (h:Stable J) (k:Stable K):Stable (fun w=>J w∧K w):=fun w w' hj hB=>⟨h w w' hj.1 hB,k w w' hj.2 hB⟩
section
variable {W:World} {G:Gs} {J:World→Prop} {p:Nat} {x:Obj}
theorem AllocJ.get {w:World} (h:AllocJ W G J p x w):w.heap[p]?=some x:=by
 obtain ⟨w0,h1,h2,h3,h4,h5⟩:=h.out;exact h5
theorem AllocJ.keep {w:World} (hst:Stable J) (h:AllocJ W G J p x w):J w:=by
 obtain ⟨w0,h1,h2,h3,h4,h5⟩:=h.out;exact hst _ _ h1 h4
end
section
variable {P:Program} {W:World} {gs:List Nat} {J:World→Prop}
end
structure MemT where
 g:Nat
 gs:List Nat
 G:Nat
 gm:MemP
structure MemY (y:MemT) (w:World):Prop where
 G:1≤y.G∧y.G≤4
 ok:y.gm.ok (256*y.G) y.G
 at_:ObjsAt w (y.g::y.gs) (memS 0 (256*y.G) y.G y.gm)
theorem yd1 (y:MemT):Stable (MemY y):=fun _ _ h hB=>⟨h.G,h.ok,zvw (zuc _ _ _) h.at_ hB⟩
def yby (l:List It) (A:Option Addr) (w:World):Prop:=SlAt w w.heap.size A ((z5q 0 l).flatMap z5k)
theorem yeo (l:List It) (A:Option Addr):Stable (yby l A):=fun _ _ h hB=>(h.below hB (Nat.le_refl _)).more hB.size
section
variable {W:World} {gs:List Nat} {J:World→Prop}
end
theorem yb7 {w0:World} {G:Gs} {N:Nd} {f:Fr} {S:List Ow} {Q:Exit→Act→World→Prop} {id id':Nat} (hne:id≠id') (h:AtQ w0 G N (.exit id) f S Q):AtQ w0 G N (.exit id) f S (Exit.inBlock id' Q):=⟨fun a w hg=>by
 show (if id=id' then Q .normal a w else Q (.exit id) a w)
 rw [if_neg hne];exact h.out a w hg⟩
section
variable {w:World}
theorem yb4 (b:Blk) (A1 A2 A3:Option Addr) (c1 c2 c3:Nat) (regs:Nat) (hr9:regs≤9) (hops:b.ops.length≤2000) (h3:OpsAt w w.heap.size A3 b.ops):Calls Tryz.prog 22 #[blkV b A1 A2 A3 c1 c2 c3,intV (regs:Int)] w fun e w'=>∃ a,AlR a regs∧e= .returned (.agg (alL a).toArray)∧Below w.heap.size w w':=by
 refine zfh [blkV b A1 A2 A3 c1 c2 c3,intV (regs:Int)] Tryz.func22 Tryz.ntmps22 rfl zS ?_
 obtain ⟨a0,ha0⟩:∃ a0,a0=zvk:=⟨_,rfl⟩
 have hal0:AlR a0 0:=(by rw [ha0];exact zvp);have hl0:=zra hal0.len;refine z3i ?_;(conv=>whnf);refine z3i ?_;(conv=>whnf);refine yca (fun v=>∃ u,UsOk u∧v= .agg (alL u).toArray) (xs:=[blkV b A1 A2 A3 c1 c2 c3]) rfl zK (fun r w' hR=>(ye9 b A1 A2 A3 c1 c2 c3 hops (z59 h3 hR.toBelow)).mono fun e w'' ⟨u,k1,k2,k3⟩=>⟨_,k2,⟨u,k1,rfl⟩,k3⟩) ?_;rintro v ⟨u,hu,rfl⟩;have hlu:=zra hu.len;(conv=>whnf);erw [zdl (l:=List.map CV.v (alL u)) (n:=28) hlu];(conv=>whnf);erw [zwi];(conv=>whnf);erw [show Nat.ble (0+(List.map CV.v (alL u)).length) (List.map CV.v (alL (List.replicate 28 0))).length=true from Nat.ble_eq_true_of_le (by rw [hlu];decide)];(conv=>whnf);erw [z32 (l:=List.map CV.v (alL (List.replicate 28 0))) (m:=List.map CV.v (alL u)) (by rw [hlu];rfl)];refine z3i ?_;(conv=>whnf);refine ze2 (x:= .agg (alL zvk).toArray) (xs:=[]) rfl zK (fun r w' hR=>zvs w') ?_;rw [← ha0];(conv=>whnf);erw [zdl (l:=List.map CV.v (alL a0)) (n:=28) hl0];(conv=>whnf);erw [zwi];(conv=>whnf);erw [show Nat.ble (0+(List.map CV.v (alL a0)).length) (List.map CV.v (alL (List.replicate 28 0))).length=true from Nat.ble_eq_true_of_le (by rw [hl0];decide)];(conv=>whnf);erw [z32 (l:=List.map CV.v (alL (List.replicate 28 0))) (m:=List.map CV.v (alL a0)) (by rw [hl0];rfl)];refine z3f fun r w3 hR=>?_;obtain ⟨p4,us,e1,e2,e3⟩:=hR.own 1 _ rfl;obtain rfl:=ziw (us:=alL (List.replicate 28 0)) e3;obtain ⟨p5,us,f1,f2,f3⟩:=hR.own 2 _ rfl;obtain rfl:=ziw (us:=alL u) f3;obtain ⟨p6,us,g1,g2,g3⟩:=hR.own 3 _ rfl;obtain rfl:=ziw (us:=alL a0) g3;have hB3:=hR.toBelow;have hp4:=zoi hR e1;have hp6:=zoi hR g1
 have n46:p4≠p6:=fun e=>by subst e;exact absurd (hR.inj 1 3 _ e1 g1) (by decide)
 have n56:p5≠p6:=fun e=>by subst e;exact absurd (hR.inj 2 3 _ f1 g1) (by decide)
 refine ⟨z6d [(1,intV (regs:Int)),(4,pV p4),(5,pV p5),(6,pV p6)],fun a' hf=>z6m ⟨z6k hf rfl,z6i hf 4 rfl e1,z6i hf 5 rfl f1,z6i hf 6 rfl g1,trivial⟩,?_⟩;clear hR e3 f3 g3 e1 f1 g1;have kept:∀ {w':World} {q:Nat} {t:TypeId} {us:List Value},q≠p6→w3.heap[q]?=some (.cells us.toArray t (0,0))→Held w3 ⟨[],[p6]⟩ w'→w'.heap[q]?=some (.cells us.toArray t (0,0)):=fun hn hq hh=>(zp0 hh (zpz hq) fun hm=>hn (List.mem_singleton.1 hm)).trans hq;refine z3d (α:=Unit) (fun _=>[(4,one (pV p4)),(6,one (pV p6))]) (fun _ w2=>∃ a,AlR a regs∧w2.heap[p6]?=some (.cells (alL a).toArray alT (0,0))∧Held w3 ⟨[],[p6]⟩ w2) ?_ fun _ w2 hl=>?_
 ·refine z3i ?_
  (conv=>whnf);refine z21 ?_;refine z3b (fun j:{j:Nat//j≤regs}=>[(1,one (intV (regs:Int))),(4,one (pV p4)),(5,one (pV p5)),(6,one (pV p6)),(7,one (intV (j.1:Int)))]) (fun j w'=>∃ a,AlR a j.1∧w'.heap[p6]?=some (.cells (alL a).toArray alT (0,0))∧Held w3 ⟨[],[p6]⟩ w') (fun j=>regs-j.1) ⟨0,by omega⟩ Tn (fun r w' hR=>⟨a0,hal0,(hR.toBelow.block p6 (zpz g2)).trans g2,zp4 hR.toBelow⟩) (fun j w' hJ=>?_);obtain ⟨j,hj⟩:=j;dsimp only at hJ⊢;obtain ⟨a,ha,g24,hh4⟩:=hJ;have f24:=kept n56 f2 hh4;refine z25 ?_;refine z3i ?_;(conv=>whnf);by_cases hjr:j<regs;rotate_left
  ·rw [show decide ((j:Int)<(regs:Int))=false from decide_eq_false zO]
   refine kB ?_;refine z23 (t:=false) rfl (fun hc=>Bool.noConfusion (show false=true from hc)) (fun _=>?_);refine z3m ?_;(conv=>whnf);exact zb7 (zcf (zb6 (zca () Tn fun r w3 hR=>⟨a,ha.up hj,(hR.toBelow.block p6 (zpz g24)).trans g24,zp7 (gs1:=[]) hh4 (zp4 hR.toBelow) nofun⟩)))
  rw [show decide ((j:Int)<(regs:Int))=true from decide_eq_true zO];refine kB ?_;rw [show decide ((j:Int)<28)=true from decide_eq_true zO];refine kB ?_;refine z23 (t:=true) rfl (fun _=>z3j (zcd ?_)) (fun hc=>Bool.noConfusion (show true=false from hc));refine z3d (α:=Unit) (fun _=>[(1,one (intV (regs:Int))),(4,one (pV p4)),(5,one (pV p5)),(6,one (pV p6)),(7,one (intV (j:Int)))]) (fun _ w2=>∃ a,AlR a (j+1)∧w2.heap[p6]?=some (.cells (alL a).toArray alT (0,0))∧Held w3 ⟨[],[p6]⟩ w2) ?_ fun _ w2 hl=>?_
  ·refine z21 ?_
   refine z3i ?_;(conv=>whnf);refine z3d (α:={x:Int//x= -1∨((0≤x∧x<28)∧x≠19)}) (fun x=>[(1,one (intV (regs:Int))),(4,one (pV p4)),(5,one (pV p5)),(6,one (pV p6)),(7,one (intV (j:Int))),(8,one (intV x.1))]) (fun _ w2=>Below w'.heap.size w' w2) ?_ fun x w5 hB5=>?_
   ·refine z3i ?_
    (conv=>whnf);refine z21 ?_;refine z3b (fun x:{x:Nat×Int//x.1≤28∧(x.2= -1∨((0≤x.2∧x.2<28)∧x.2≠19))}=>[(1,one (intV (regs:Int))),(4,one (pV p4)),(5,one (pV p5)),(6,one (pV p6)),(7,one (intV (j:Int))),(8,one (intV x.1.2)),(9,one (intV (x.1.1:Int)))]) (fun _ w2=>Below w'.heap.size w' w2) (fun x=>28-x.1.1) ⟨(0,-1),by omega,.inl rfl⟩ Tn (fun r w'' hR=>hR.toBelow) (fun x w5 hJ=>?_);obtain ⟨⟨v,best⟩,hv,hbest⟩:=x;dsimp only at hv hbest hJ⊢;have f25:=(hJ.block p5 (zpz f24)).trans f24;have g25:=(hJ.block p6 (zpz g24)).trans g24;refine z25 ?_;refine z3i ?_;(conv=>whnf);refine z23 rfl (fun hc=>z3j (zcd ?_)) (fun hc=>?_)
    ·have hlt:v<28:=by have:=of_decide_eq_true hc;omega
     refine z3d (α:={x:Int//x= -1∨((0≤x∧x<28)∧x≠19)}) (fun x=>[(1,one (intV (regs:Int))),(4,one (pV p4)),(5,one (pV p5)),(6,one (pV p6)),(7,one (intV (j:Int))),(8,one (intV x.1)),(9,one (intV (v:Int)))]) (fun _ w2=>Below w'.heap.size w' w2) ?_ fun x w6 hB6=>?_
     ·refine z21 ?_
      refine z3i ?_;refine z2w mixed zK ?_;(conv=>whnf);refine zz9 (size:=1) p6 0 28 (v:Int) rfl rfl rfl rfl rfl rfl zO zO ?_;(conv=>whnf);refine ⟨_,za3 g25 ha.len (v:=(v:Int)) zO,?_⟩;(conv=>whnf);by_cases k1:getV a (v:Int)<0;rotate_left
      ·rw [show decide (getV a (v:Int)<0)=false from decide_eq_false k1]
       refine kB ?_;refine z23 (t:=false) rfl (fun hc=>Bool.noConfusion (show false=true from hc)) (fun _=>?_);exact z3j (zb4 (zca ⟨best,hbest⟩ Tn fun r w3 hR=>zdg hJ hR.toBelow hJ.size))
      rw [show decide (getV a (v:Int)<0)=true from decide_eq_true k1];refine kB ?_;refine zz9 (size:=1) p5 0 28 (v:Int) rfl rfl rfl rfl rfl rfl zO zO ?_;refine kB ?_;refine ⟨_,za3 f25 hu.len (v:=(v:Int)) zO,?_⟩;refine kB ?_;by_cases k2:getV u (v:Int)>0;rotate_left
      ·rw [show decide (getV u (v:Int)>0)=false from decide_eq_false k2]
       refine kB ?_;refine z23 (t:=false) rfl (fun hc=>Bool.noConfusion (show false=true from hc)) (fun _=>?_);exact z3j (zb4 (zca ⟨best,hbest⟩ Tn fun r w3 hR=>zdg hJ hR.toBelow hJ.size))
      rw [show decide (getV u (v:Int)>0)=true from decide_eq_true k2]
      have h19:(v:Int)≠19:=fun e=>by rw [e,hu.pc] at k2;omega
      refine kB ?_;by_cases k3:best<0
      ·rw [show decide (best<0)=true from decide_eq_true k3]
       refine kB ?_;refine z23 (t:=true) rfl (fun _=>?_) (fun hc=>Bool.noConfusion (show true=false from hc));refine z3m ?_;(conv=>whnf);exact zb4 (zca ⟨(v:Int),.inr ⟨by omega,h19⟩⟩ Tn fun r w3 hR=>zdg hJ hR.toBelow hJ.size)
      rw [show decide (best<0)=false from decide_eq_false k3];have hb:(0≤best∧best<28)∧best≠19:=(by rcases hbest with h|h;omega;exact h);refine kB ?_;refine zz9 (size:=1) p5 0 28 (v:Int) rfl rfl rfl rfl rfl rfl zO zO ?_;refine kB ?_;refine ⟨_,za3 f25 hu.len (v:=(v:Int)) zO,?_⟩;refine kB ?_;refine zz9 (size:=1) p5 0 28 best rfl rfl rfl rfl rfl rfl zO zO ?_;refine kB ?_;refine ⟨_,za3 f25 hu.len (v:=best) zO,?_⟩;refine kB ?_;by_cases k4:getV u (v:Int)>getV u best;rotate_left
      ·rw [show decide (getV u (v:Int)>getV u best)=false from decide_eq_false k4]
       refine kB ?_;refine z23 (t:=false) rfl (fun hc=>Bool.noConfusion (show false=true from hc)) (fun _=>?_);exact z3j (zb4 (zca ⟨best,hbest⟩ Tn fun r w3 hR=>zdg hJ hR.toBelow hJ.size))
      rw [show decide (getV u (v:Int)>getV u best)=true from decide_eq_true k4];refine kB ?_;refine z23 (t:=true) rfl (fun _=>?_) (fun hc=>Bool.noConfusion (show true=false from hc));refine z3m ?_;(conv=>whnf);exact zb4 (zca ⟨(v:Int),.inr ⟨by omega,h19⟩⟩ Tn fun r w3 hR=>zdg hJ hR.toBelow hJ.size)
     ·obtain ⟨x,hx⟩:=x
      dsimp only;refine z3m ?_;(conv=>whnf);refine ⟨((v+1:Nat):Int),by rw [show (v:Int)+1=((v+1:Nat):Int) by omega];exact wr64 zO,?_⟩;(conv=>whnf);exact zcc ⟨(v+1,x),by omega,hx⟩ Tn (fun r w3 hR=>zdg hB6 hR.toBelow hB6.size) (by show 28-(v+1)<28-v;omega)
    ·refine z3m ?_
     (conv=>whnf);exact zb7 (zcf (zb6 (zca ⟨best,hbest⟩ Tn fun r w3 hR=>zdg hJ hR.toBelow hJ.size)))
   ·obtain ⟨x,hx⟩:=x
    dsimp only;have g25:=(hB5.block p6 (zpz g24)).trans g24;have hh5:=zp7 (gs1:=[]) hh4 (zp4 hB5) nofun;refine z25 ?_;refine z3i ?_;(conv=>whnf);by_cases hx0:x<0
    ·rw [show decide (x<0)=true from decide_eq_true hx0]
     refine z23 (t:=true) rfl (fun _=>?_) (fun hc=>Bool.noConfusion (show true=false from hc));refine z3m ?_;(conv=>whnf);exact zb7 (yb7 (by decide) (yb6 (zcf (zb6 (zca () Tn fun r w3 hR=>⟨a,ha.up hj,(hR.toBelow.block p6 (zpz g25)).trans g25,zp7 (gs1:=[]) hh5 (zp4 hR.toBelow) nofun⟩)))))
    ·rw [show decide (x<0)=false from decide_eq_false hx0]
     refine z23 (t:=false) rfl (fun hc=>Bool.noConfusion (show false=true from hc)) (fun _=>z3j (zcd ?_));have hx2:(0≤x∧x<28)∧x≠19:=(by rcases hx with h|h;omega;exact h);refine z3n 6 0 p6 rfl ⟨[p6],[]⟩ [.cells alT ((alL a).map .v)] fun r w6 hR6=>?_;have hB6:=hR6.toBelow;have g26:=(hB6.block p6 (zpz g25)).trans g25;have hh6:=zp7 (gs1:=[]) hh5 (zp4 hB6) nofun;have hal:=zra ha.len;refine ⟨_,z1p (zvy g26),rfl,?_⟩;refine z3m ?_;(conv=>whnf)
     (refine ⟨⟨by omega,by omega⟩,?_⟩;(conv=>whnf))
     rw [show ∀ y:Value,Nat.ble (0+x.toNat*tsz Tryz.prog 3+[CV.v y].length) (List.map CV.v (alL a)).length=true from fun y=>Nat.ble_eq_true_of_le (by rw [hal];show 0+x.toNat*1+1≤28;omega)];(conv=>whnf);rw [show Nat.ble (List.map CV.v (alL a)).length 8=false from zdy (by rw [hal];decide)];(conv=>whnf);refine zb4 (zb9 fun r7 w7 hR7=>?_);obtain ⟨p',us,b1,b2,b3⟩:=hR7.own 0 _ rfl;have hcc:=hR7.first 0 p6 rfl;rw [hcc] at b1;injection b1 with b1;subst b1;have b4:denL r7 (z3z (List.map CV.v (alL a)) (0+x.toNat*tsz Tryz.prog 3) [CV.v (.int .i64 (j:Int))]) us:=b3;rw [zrb] at b4;obtain rfl:=ziw b4;have hgr:=hR7.growns;refine ⟨(),fun a' hf=>?_,⟨a.set x.toNat (j:Int),ha.give hx2.1 hx2.2,b2,zp7 hh6 (zp5 hgr) fun b hb=> .inl hb⟩⟩;show FDen Env.none (z6d [(1,intV (regs:Int)),(4,pV p4),(5,pV p5),(6,pV p6),(7,intV (j:Int))]) a';exact z6m ⟨z6k hf rfl,z6k hf rfl,z6k hf rfl,z6i hf 6 rfl hcc,z6k hf rfl,trivial⟩
  ·obtain ⟨a2,ha2,g26,hh6⟩:=hl
   refine z3m ?_;(conv=>whnf);refine ⟨((j+1:Nat):Int),by rw [show (j:Int)+1=((j+1:Nat):Int) by omega];exact wr64 zO,?_⟩;(conv=>whnf);exact zcc ⟨j+1,by omega⟩ Tn (fun r w3 hR=>⟨a2,ha2,(hR.toBelow.block p6 (zpz g26)).trans g26,zp7 (gs1:=[]) hh6 (zp4 hR.toBelow) nofun⟩) (by show regs-(j+1)<regs-j;omega)
 ·obtain ⟨a,ha,g24,hh4⟩:=hl
  have hla:=zra ha.len;refine z3n 4 0 p4 rfl ⟨[p4],[]⟩ [.cells alT ((alL (List.replicate 28 0)).map .v)] fun r w6 hR6=>?_;have hB6:=hR6.toBelow;have e26:=(hB6.block p4 (zpz (kept n46 e2 hh4))).trans (kept n46 e2 hh4);have g26:=(hB6.block p6 (zpz g24)).trans g24;have hh6:=zp7 (gs1:=[]) hh4 (zp4 hB6) nofun
  have nG:p6∉(⟨[p4],[]⟩:Gs):=fun hm=>by
   rcases hm with hm|hm
   ·exact n46 (List.mem_singleton.1 hm).symm
   ·cases hm
  refine ⟨_,z1p (zvy e26),rfl,?_⟩;refine z3i ?_;(conv=>whnf);refine ⟨alL a,zfq (zd0 g26) nG,by rw [List.length_map,ha.len];rfl,?_⟩;(conv=>whnf);erw [zdl (l:=List.map CV.v (alL a)) (n:=28) hla];(conv=>whnf);erw [zwi];(conv=>whnf);erw [show Nat.ble (0+(List.map CV.v (alL a)).length) (List.map CV.v (alL (List.replicate 28 0))).length=true from Nat.ble_eq_true_of_le (by rw [hla];decide)];(conv=>whnf);erw [z32 (l:=List.map CV.v (alL (List.replicate 28 0))) (m:=List.map CV.v (alL a)) (by rw [hla];rfl)];refine z3m ?_;(conv=>whnf);refine zcg ?_;(conv=>whnf);rw [show cut (List.map CV.v (alL a)) 0 (Tryz.prog.types[alT].size)=some (List.map CV.v (alL a)) from zh1 hla];(conv=>whnf);refine ⟨fun r2 w9 u hR hd=>?_⟩;rw [AV.val_den (x:= .agg (alL a).toArray) (z9e _) hd];have hgr:=hR.growns;have hz3:=hB3.size;have hz6:=hh6.size;have hh36:=hh6;refine ⟨a,ha,rfl,hgr.os.trans (hh6.os.trans hB3.os),hgr.tape.trans (hh6.tape.trans hB3.tape),hgr.output.trans (hh6.output.trans hB3.output),Nat.le_trans hz3 (Nat.le_trans hz6 hgr.size),fun k hk=>(hgr.block k zO fun hm=>by rw [List.mem_singleton] at hm;omega).trans ((zp0 hh6 zO fun hm=>by rw [List.mem_singleton] at hm;omega).trans (hB3.block k hk))⟩
end
theorem ycp {a b:Int} (_ha:word a) (hb:word b) (h4:(b-a)%4294967296%4=0):(a+(4*(yck a b).imm)%4294967296)%4294967296=b:=by
 show (a+(4*yaq 10 ((b-a)%4294967296) 2)%4294967296)%4294967296=b
 obtain ⟨d,hd⟩:∃ d,d=(b-a)%4294967296:=⟨_,rfl⟩
 rw [← hd] at h4⊢;have e:yaq 10 d 2=z5e d/4%4294967296:=rfl;rw [e];unfold z5e;unfold word at _ha hb
 split<;>omega
section
variable {w:World}
end
def cntI (k:Int):List It→Nat
 |[]=>0
 |x::l=>(match x.s with|some s=>if s.kind=k then 1 else 0|none=>0)+cntI k l
theorem ycx (k:Int) (m:List It):∀ l:List It,cntI k (l++m)=cntI k l+cntI k m
 |[]=>(Nat.zero_add _).symm
 |x::l=>by show _+cntI k (l++m)=(_+cntI k l)+_;rw [ycx k m l,Nat.add_assoc]
theorem yc4 {k:Int} {E:Em}:∀ {l:List It},SitesOk E 0 l→cntI k l=0
 |[],_=>rfl
 |x::l,h=>by
  unfold cntI
  cases hx:x.s with
  |none=>rw [yc4 (E:=E) (l:=l) fun it hm=>h it (List.mem_cons_of_mem _ hm)]
  |some s=>have:=(h x (List.mem_cons_self ..) s hx).index;omega
section
variable {E:Em} {c k:Int}
theorem yc7:cntI c [zq1 (skIn E 2 k)]=if 2=c then 1 else 0:=rfl
theorem ycz (hc:c=1∨c=5∨c=6) (n:Int):cntI c (exE E n)=0:=by
 unfold exE;rw [ycx,show cntI c (svE E)=0 from yc4 (zvf E (E:=E) 19)];show 0+((if (4:Int)=c then 1 else 0)+0)=0;rw [if_neg zO]
theorem ycy (hc:c=1∨c=5∨c=6) (o:BOp):cntI c (accE E k o)=0:=by
 have h2:cntI c [zq1 (skIn E 2 k)]=0:=by rw [yc7,if_neg zO]
 unfold accE
 split
 ·exact h2
 ·rw [ycx,ycx,ycx,ycx,yc4 (zve E (E:=E) _ _),yc4 (zu7 E (E:=E) o),yc4 (zu8 (E:=E) _ _)]
  have h3:cntI c [iI 35 13 12 2,zq1 (skIn E 2 k)]=0:=by show 0+(cntI c [zq1 (skIn E 2 k)])=0;rw [h2]
  rw [h3]
  split
  ·rw [ycx,yc4 (zve E (E:=E) _ _)]
   show 0+(0+(0+(0+(0+((if (3:Int)=c then 1 else 0)+0)))))=0;rw [if_neg zO]
  ·rw [ycx,yc4 (zva E (E:=E) _)]
   show 0+(0+(0+(0+(((if (3:Int)=c then 1 else 0)+0)+0))))=0;rw [if_neg zO]
theorem yc2 {l:List It} (h:(l.all fun it=>it.s.isNone)=true):cntI c l=0:=yc4 (E:=⟨[],0,0,0,0⟩) (zvc h)
theorem yc0 (hc:c=1∨c=5∨c=6) (o:BOp):cntI c (zn2 E k o)=if o.code=25∧c≠1 then 1 else 0:=by
 have h2:cntI c [zq1 (skIn E 2 k)]=0:=(by rw [yc7,if_neg zO]);have hrd:∀ v s,cntI c (rdE E v s)=0:=fun v s=>yc4 (zve E (E:=E) v s);have hdn:∀ v,cntI c (dnE E v)=0:=fun v=>yc4 (zva E (E:=E) v);have hsv:cntI c (svE E)=0:=yc4 (zvf E (E:=E) 19);have hcon:∀ d n,cntI c (conE d n)=0:=fun d n=>yc4 (zu8 (E:=E) d n);have hcon2:∀ d n,cntI c (con2 d n)=0:=fun d n=>yc4 (zu9 (E:=E) d n);have hone:∀ op d a n,cntI c [iI op d a n]=0:=fun op d a n=>rfl;unfold zn2;by_cases c1:o.code=1
 ·rw [if_pos c1,if_neg zO,ycx,hcon,hdn]
 rw [if_neg c1];by_cases c2:o.code=2
 ·rw [if_pos c2,if_neg zO,ycx,ycx,hrd,yc2 rfl,hdn]
 rw [if_neg c2];by_cases c3:o.code=12
 ·rw [if_pos c3,if_neg zO,ycx,ycx,ycx,hrd,hrd,yc2 rfl,hdn]
 rw [if_neg c3];by_cases c4:o.code=13
 ·rw [if_pos c4,if_neg zO,ycx,ycx,ycx,hrd,hrd,yc2 rfl,hdn]
 rw [if_neg c4];by_cases c5:3≤o.code∧o.code≤15
 ·rw [if_pos c5,if_neg zO,ycx,ycx,ycx,hrd,hrd,yc2 rfl,hdn]
 rw [if_neg c5];by_cases c6:16≤o.code∧o.code≤19
 ·rw [if_pos c6,if_neg zO,ycy hc]
 rw [if_neg c6];by_cases c7:o.code=21
 ·rw [if_pos c7,if_neg zO,ycx,hrd]
  show 0+(0+cntI c [zq1 (skIn E 2 k)])=0;rw [h2]
 rw [if_neg c7];by_cases c8:o.code=22
 ·rw [if_pos c8,if_neg zO,h2]
 rw [if_neg c8];by_cases c9:o.code=23
 ·rw [if_pos c9,if_neg zO,ycx,ycx,hrd,hone,ycz hc]
 rw [if_neg c9];by_cases c10:o.code=24
 ·rw [if_pos c10,if_neg zO,ycz hc]
 rw [if_neg c10];by_cases c11:o.code=25
 ·rw [if_pos c11,ycx,ycx,ycx,ycx,ycx,hrd,yc2 rfl,hsv,hone,hcon2]
  show 0+(0+(0+(0+(0+(0+((if (6:Int)=c then 1 else 0)+((if (5:Int)=c then 1 else 0)+0)))))))=_;rcases hc with rfl|rfl|rfl
  ·rw [if_neg zO,if_neg zO,if_neg zO]
  ·rw [if_neg zO,if_pos rfl,if_pos ⟨c11,by omega⟩]
  ·rw [if_pos rfl,if_neg zO,if_pos ⟨c11,by omega⟩]
 rw [if_neg c11,if_neg zO]
 rfl
end
def ConAt (p:Int) (l:List It):Prop:=∀ (k:Nat) (it:It) (s:Sk),l[k]?=some it→it.s=some s→s.kind=6→∃ j:Nat,k=j+3∧l[j]?=some (iI 41 11 0 (p/1024))∧l[j+1]?=some (iI 18 11 11 (p%1024))
theorem ConAt.app {p:Int} {l m:List It} (h1:ConAt p l) (h2:ConAt p m):ConAt p (l++m):=fun k it s hk hs h6=>by
 rcases Nat.lt_or_ge k l.length with h|h
 ·rw [List.getElem?_append_left h] at hk
  obtain ⟨j,rfl,e1,e2⟩:=h1 k it s hk hs h6;exact ⟨j,rfl,by rw [List.getElem?_append_left zO];exact e1,by rw [List.getElem?_append_left zO];exact e2⟩
 ·rw [List.getElem?_append_right h] at hk
  obtain ⟨j,hj,e1,e2⟩:=h2 _ it s hk hs h6;refine ⟨j+l.length,by omega,?_,?_⟩
  ·rw [List.getElem?_append_right zO,Nat.add_sub_cancel];exact e1
  ·rw [List.getElem?_append_right zO,show j+l.length+1-l.length=j+1 by omega];exact e2
theorem ConAt.none {p:Int} {l:List It} (h:cntI 6 l=0):ConAt p l:=fun k it s hk hs h6=>by
 exfalso
 have:∀ (l:List It) (k:Nat),l[k]?=some it→cntI 6 l≠0:=by
  intro l
  induction l with
  |nil=>intro k hk;simp at hk
  |cons x l ih=>
   intro k hk h0;unfold cntI at h0
   cases k with
   |zero=>
    have:x=it:=(by simpa using hk);subst this;rw [hs] at h0;dsimp only at h0;rw [if_pos h6] at h0;omega
   |succ k=>exact ih k (by simpa using hk) zO
 exact this l k hk h
theorem yc6 {c:Int}:∀ {l:List It} {j:Nat} {it:It} {s:Sk},l[j]?=some it→it.s=some s→s.kind=c→1≤cntI c l
 |[],j,it,s,h,_,_=>by simp at h
 |x::l,0,it,s,h,hs,hk=>by
  have h:x=it:=(by simpa using h);subst h;unfold cntI;rw [hs];show 1≤(if s.kind=c then 1 else 0)+cntI c l;rw [if_pos hk];omega
 |x::l,j+1,it,s,h,hs,hk=>by
  have:=yc6 (l:=l) (by simpa using h) hs hk;unfold cntI;omega
theorem yc8 {c:Int}:∀ {l:List It} {j j':Nat} {it it':It} {s s':Sk},cntI c l≤1→l[j]?=some it→it.s=some s→s.kind=c→l[j']?=some it'→it'.s=some s'→s'.kind=c→j=j'
 |[],j,j',it,it',s,s',_,h,_,_,_,_,_=>by simp at h
 |x::l,0,0,it,it',s,s',_,_,_,_,_,_,_=>rfl
 |x::l,0,j'+1,it,it',s,s',hc,h,hs,hk,h',hs',hk'=>by
  have h:x=it:=(by simpa using h);subst h;have h1:=yc6 (l:=l) (by simpa using h') hs' hk';unfold cntI at hc;rw [hs] at hc;have hc:(if s.kind=c then 1 else 0)+cntI c l≤1:=hc;rw [if_pos hk] at hc;omega
 |x::l,j+1,0,it,it',s,s',hc,h,hs,hk,h',hs',hk'=>by
  have h':x=it':=(by simpa using h');subst h';have h1:=yc6 (l:=l) (by simpa using h) hs hk;unfold cntI at hc;rw [hs'] at hc;have hc:(if s'.kind=c then 1 else 0)+cntI c l≤1:=hc;rw [if_pos hk'] at hc;omega
 |x::l,j+1,j'+1,it,it',s,s',hc,h,hs,hk,h',hs',hk'=>by
  unfold cntI at hc;exact congrArg Nat.succ (yc8 (l:=l) zO (by simpa using h) hs hk (by simpa using h') hs' hk')
theorem yc5 {E:Em} {c k:Int} (o:BOp):cntI c (zn2 E k o)≤1:=by
 have i1:∀ a:Int,(if a=c then 1 else 0)≤1:=fun a=>by split<;>omega
 have h2:cntI c [zq1 (skIn E 2 k)]≤1:=(by rw [yc7];exact i1 2);have hrd:∀ v s,cntI c (rdE E v s)=0:=fun v s=>yc4 (zve E (E:=E) v s);have hdn:∀ v,cntI c (dnE E v)=0:=fun v=>yc4 (zva E (E:=E) v);have hsv:cntI c (svE E)=0:=yc4 (zvf E (E:=E) 19);have hcon:∀ d n,cntI c (conE d n)=0:=fun d n=>yc4 (zu8 (E:=E) d n);have hcon2:∀ d n,cntI c (con2 d n)=0:=fun d n=>yc4 (zu9 (E:=E) d n);have hone:∀ op d a n,cntI c [iI op d a n]=0:=fun op d a n=>rfl
 have hex:∀ n,cntI c (exE E n)≤1:=fun n=>by
  unfold exE;rw [ycx,hsv];show 0+((if (4:Int)=c then 1 else 0)+0)≤1;have:=i1 4;omega
 unfold zn2;by_cases c1:o.code=1
 ·rw [if_pos c1,ycx,hcon,hdn];omega
 rw [if_neg c1];by_cases c2:o.code=2
 ·rw [if_pos c2,ycx,ycx,hrd,yc2 rfl,hdn];omega
 rw [if_neg c2];by_cases c3:o.code=12
 ·rw [if_pos c3,ycx,ycx,ycx,hrd,hrd,yc2 rfl,hdn];omega
 rw [if_neg c3];by_cases c4:o.code=13
 ·rw [if_pos c4,ycx,ycx,ycx,hrd,hrd,yc2 rfl,hdn];omega
 rw [if_neg c4];by_cases c5:3≤o.code∧o.code≤15
 ·rw [if_pos c5,ycx,ycx,ycx,hrd,hrd,yc2 rfl,hdn];omega
 rw [if_neg c5];by_cases c6:16≤o.code∧o.code≤19
 ·rw [if_pos c6]
  unfold accE
  split
  ·exact h2
  ·rw [ycx,ycx,ycx,ycx,hrd,yc4 (zu7 E (E:=E) o),hcon]
   have h3:cntI c [iI 35 13 12 2,zq1 (skIn E 2 k)]=if (2:Int)=c then 1 else 0:=by show 0+(cntI c [zq1 (skIn E 2 k)])=_;rw [yc7,Nat.zero_add]
   have h23:(if (2:Int)=c then 1 else 0)+(if (3:Int)=c then 1 else 0)≤1:=by
    by_cases e:(2:Int)=c
    ·rw [if_pos e,if_neg zO];omega
    ·rw [if_neg e];have:=i1 3;omega
   rw [h3];by_cases h18:18≤o.code
   ·rw [if_pos h18,ycx,hrd]
    show 0+(0+(0+((if (2:Int)=c then 1 else 0)+(0+((if (3:Int)=c then 1 else 0)+0)))))≤1;omega
   ·rw [if_neg h18,ycx,hdn]
    show 0+(0+(0+((if (2:Int)=c then 1 else 0)+(((if (3:Int)=c then 1 else 0)+0)+0))))≤1;omega
 rw [if_neg c6];by_cases c7:o.code=21
 ·rw [if_pos c7,ycx,hrd]
  show 0+(0+cntI c [zq1 (skIn E 2 k)])≤1;omega
 rw [if_neg c7];by_cases c8:o.code=22
 ·rw [if_pos c8];exact h2
 rw [if_neg c8];by_cases c9:o.code=23
 ·rw [if_pos c9,ycx,ycx,hrd,hone];have:=hex o.n;omega
 rw [if_neg c9];by_cases c10:o.code=24
 ·rw [if_pos c10];exact hex o.n
 rw [if_neg c10];by_cases c11:o.code=25
 ·rw [if_pos c11,ycx,ycx,ycx,ycx,ycx,hrd,yc2 rfl,hsv,hone,hcon2]
  show 0+(0+(0+(0+(0+(0+((if (6:Int)=c then 1 else 0)+((if (5:Int)=c then 1 else 0)+0)))))))≤1;by_cases e:(6:Int)=c
  ·rw [if_pos e,if_neg zO];omega
  ·rw [if_neg e];have:=i1 5;omega
 rw [if_neg c11];exact Nat.zero_le 1
def ybw (l:List It) (j:Nat) (c:Int):Prop:=∃ it s,l[j]?=some it∧it.s=some s∧s.kind=c
def ybz (E:Em):List BOp→Int→List Int→MemP→Nat→Prop
 |[],_,_,_,_=>False
 |o::l,i,vs,g,j=>
  if o.code=24∨(o.code=23∧getV vs o.a≠0) then ybw (zn2 E (ztx o i) o) j 4
  else if o.code=25 then ybw (zn2 E (ztx o i) o) j (if getV vs o.a=E.pred then 6 else 5)
  else if (zbr o vs g).stays=true then ∃ q,j=(zn2 E (ztx o i) o).length+q∧ybz E l (ztx o i) (zbr o vs g).vs (zbr o vs g).mem q
  else ybw (zn2 E (ztx o i) o) j (if 16≤o.code∧o.code≤19∧(getV vs o.a+o.n)%4294967296+szE o.code≤E.size then 3 else 2)
theorem ydw {E:Em} {k c:Int} {o:BOp} {j j':Nat} (h:ybw (zn2 E k o) j c) (h':ybw (zn2 E k o) j' c):j=j':=by
 obtain ⟨it,s,h1,h2,h3⟩:=h;obtain ⟨it',s',h1',h2',h3'⟩:=h';exact yc8 (yc5 o) h1 h2 h3 h1' h2' h3'
theorem yes {E:Em}:∀ {l:List BOp} {i:Int} {vs:List Int} {g:MemP} {j j':Nat},ybz E l i vs g j→ybz E l i vs g j'→j=j'
 |[],_,_,_,_,_,h,_=>h.elim
 |o::l,i,vs,g,j,j',h,h'=>by
  unfold ybz at h h'
  split at h
  ·rename_i c;rw [if_pos c] at h';exact ydw h h'
  ·rename_i c;rw [if_neg c] at h'
   split at h
   ·rename_i c;rw [if_pos c] at h';exact ydw h h'
   ·rename_i c;rw [if_neg c] at h'
    split at h
    ·rename_i c;rw [if_pos c] at h'
     obtain ⟨q,rfl,hq⟩:=h;obtain ⟨q',rfl,hq'⟩:=h';rw [yes hq hq']
    ·rename_i c;rw [if_neg c] at h';exact ydw h h'
end Go.Proofs.YtocafomnnkmjfaaGreat
