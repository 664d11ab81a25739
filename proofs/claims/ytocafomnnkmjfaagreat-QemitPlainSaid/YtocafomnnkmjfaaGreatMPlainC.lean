import Derived.Test.YtocafomnnkmjfaaGreatMPlainB
set_option maxRecDepth 100000
set_option maxHeartbeats 8000000
namespace Go.Proofs.YtocafomnnkmjfaaGreat
open Go.RowKit
abbrev usT:TypeId:=30
structure UsOk (u:List Int):Prop where
 len:u.length=28
 pc:getV u 19=0
theorem yf5:UsOk (List.replicate 28 0):=⟨rfl,rfl⟩
theorem UsOk.set {u:List Int} (h:UsOk u) {v x:Int} (hv:0≤v∧v<28) (h19:v≠19):UsOk (u.set v.toNat x):=⟨by rw [List.length_set];exact h.len,by rw [yb4 h.len hv 19 zO,if_neg zO];exact h.pc⟩
section
variable {w:World}
theorem yfx (u:List Int) (hu:UsOk u) (has:Bool) (v:Int):Calls Tryz.prog 108 #[.agg (alL u).toArray,.bool has,.int .i64 v] w fun e w'=>∃ u',UsOk u'∧e= .returned (.agg (alL u').toArray)∧Below w.heap.size w w':=by
 refine zfg [.agg (alL u).toArray,.bool has,.int .i64 v] Tryz.func108 Tryz.ntmps108 rfl zS ?_;refine z3p ?_;(conv=>whnf);refine z3j (α:={u:List Int//UsOk u}) (fun _=>[(3,.p (.c (.ref 0 0))),(6,.p (.c (.ref 1 0)))]) (fun x=>[.cells usT ((alL x.1).map .v),.cells usT ((alL (List.replicate 28 0)).map .v)]) ?_ fun x=>?_
 ·refine z3p ?_
  conv=>whnf
  have hul:=zq3 hu.len
  cases has
  ·conv=>whnf
   refine kA ?_;refine z3b (t:=false) rfl (fun hc=>Bool.noConfusion (show false=true from hc)) (fun _=>?_);exact z3q (zb8 ⟨u,hu⟩ (zj7 rfl Tn Tn))
  refine kB ?_;by_cases h1:v≥0;rotate_left
  ·rw [show decide (v≥0)=false from decide_eq_false h1]
   refine kB ?_;refine z3b (t:=false) rfl (fun hc=>Bool.noConfusion (show false=true from hc)) (fun _=>?_);exact z3q (zb8 ⟨u,hu⟩ (zj7 rfl Tn Tn))
  rw [show decide (v≥0)=true from decide_eq_true h1];refine kB ?_;by_cases h2:v<28;rotate_left
  ·rw [show decide (v<28)=false from decide_eq_false h2]
   refine kB ?_;refine z3b (t:=false) rfl (fun hc=>Bool.noConfusion (show false=true from hc)) (fun _=>?_);exact z3q (zb8 ⟨u,hu⟩ (zj7 rfl Tn Tn))
  rw [show decide (v<28)=true from decide_eq_true h2];refine kB ?_;by_cases h3:v=19
  ·rw [show (v !=19)=false from bne_eq_false_iff_eq.2 h3]
   refine kB ?_;refine z3b (t:=false) rfl (fun hc=>Bool.noConfusion (show false=true from hc)) (fun _=>?_);exact z3q (zb8 ⟨u,hu⟩ (zj7 rfl Tn Tn))
  rw [show (v !=19)=true from bne_iff_ne.2 h3];refine kB ?_;refine z3b (t:=true) rfl (fun _=>?_) (fun hc=>Bool.noConfusion (show true=false from hc));refine z3t ?_;(conv=>whnf)
  (refine ⟨⟨by omega,by omega⟩,?_⟩;(conv=>whnf))
  rw [yea hu.len ⟨h1,h2⟩];(conv=>whnf);refine ⟨_,rfl,?_⟩;(conv=>whnf)
  (refine ⟨⟨by omega,by omega⟩,?_⟩;(conv=>whnf))
  rw [show ∀ y:Value,Nat.ble (0+v.toNat*tsz Tryz.prog 3+[CV.v y].length) (List.map CV.v (alL u)).length=true from fun y=>Nat.ble_eq_true_of_le (by rw [hul];show 0+v.toNat*1+1≤28;omega)];(conv=>whnf);rw [show Nat.ble (List.map CV.v (alL u)).length 8=false from zdy (by rw [hul];decide)];(conv=>whnf);exact zb8 ⟨u.set v.toNat _,hu.set ⟨h1,h2⟩ h3⟩ (zj7 rfl Tn (aI ((aI rfl (Or.inl yeb))) (aI sM trivial)))
 ·obtain ⟨u',hu'⟩:=x
  dsimp only;have hlen:=zq3 hu'.len;have hz:(List.map CV.v (alL (List.replicate 28 0))).length=28:=rfl;refine z3p ?_;(conv=>whnf);rw [show cut (List.map CV.v (alL u')) 0 (Tryz.prog.types[30].size)=some (List.map CV.v (alL u')) from zhx hlen];(conv=>whnf);rw [show Nat.beq (List.map CV.v (alL u')).length (Tryz.prog.types[30].size)=true from by rw [hlen];rfl,zwl];(conv=>whnf);rw [show Nat.ble (0+(List.map CV.v (alL u')).length) (List.map CV.v (alL (List.replicate 28 0))).length=true from Nat.ble_eq_true_of_le (by rw [hlen,hz];omega)];(conv=>whnf);rw [z4a (show (List.map CV.v (alL (List.replicate 28 0))).length=(List.map CV.v (alL u')).length by rw [hlen,hz])];refine z3t ?_;(conv=>whnf);refine zcg ?_;(conv=>whnf);rw [show cut (List.map CV.v (alL u')) 0 (Tryz.prog.types[30].size)=some (List.map CV.v (alL u')) from zhx hlen];(conv=>whnf)
  exact zmj (z9l _) fun w2 hB=>⟨u',hu',rfl,hB⟩
theorem yf6 (x y z:Value) (u:List Int):zot Gs.nil [Ow.cells 28 [.v x,.v y,.v z],Ow.cells usT ((alL (List.replicate 28 0)).map .v),Ow.cells usT ((alL u).map .v)]=true:=by
 show sbnd 3 _=true;simp only [sbnd,Ow.bnd,zd6]
 rfl
theorem yfw (u:List Int) (x y:Value):avals [.p (.agg (List.map CV.v (alL u))),.p (.c (.v x)),.p (.c (.v y))]=some [.agg (alL u).toArray,x,y]:=by
 simp only [avals,AV.val,Pc.val,z9k,CV.val]
theorem yf7 (b:Blk) (A1 A2 A3:Option Addr) (c1 c2 c3:Nat) (hops:b.ops.length≤2000) (h3:OpsAt w w.heap.size A3 b.ops):Calls Tryz.prog 64 #[blkV b A1 A2 A3 c1 c2 c3] w fun e w'=>∃ u,UsOk u∧e= .returned (.agg (alL u).toArray)∧Below w.heap.size w w':=by
 refine zfg [blkV b A1 A2 A3 c1 c2 c3] Tryz.func64 Tryz.ntmps64 rfl zS ?_;refine z3p ?_;(conv=>whnf);refine z3p ?_;(conv=>whnf);refine z3j (α:={u:List Int//UsOk u}) (fun _=>[(1,.p (.c (.ref 0 0))),(2,.p (.c (.ref 1 0))),(3,.p (.c (.ref 2 0)))]) (fun x=>[.cells 28 [.v (.slice A1 b.at_.length c1),.v (.slice A2 b.pages.length c2),.v (.slice A3 b.ops.length c3)],.cells usT ((alL (List.replicate 28 0)).map .v),.cells usT ((alL x.1).map .v)]) ?_ fun x=>?_
 ·refine z3p ?_
  (conv=>whnf);refine z3a ?_;refine z3g (α:={x:Nat×List Int//x.1≤b.ops.length∧UsOk x.2}) (fun x=>[(1,.p (.c (.ref 0 0))),(2,.p (.c (.ref 1 0))),(3,.p (.c (.ref 2 0))),(4,one (intV (x.1.1:Int)))]) (fun x=>[.cells 28 [.v (.slice A1 b.at_.length c1),.v (.slice A2 b.pages.length c2),.v (.slice A3 b.ops.length c3)],.cells usT ((alL (List.replicate 28 0)).map .v),.cells usT ((alL x.1.2).map .v)]) (fun x=>b.ops.length-x.1.1) ⟨(0,List.replicate 28 0),by omega,yf5⟩ (zj7 rfl Tn Tn) (fun x=>?_);obtain ⟨⟨j,u⟩,hj,hu⟩:=x;dsimp only at hj hu⊢;refine z3d ?_;refine z3p ?_;(conv=>whnf);refine z3b rfl (fun hc=>z3q (zcd ?_)) (fun hc=>?_)
  ·have hlt:j<b.ops.length:=by have:=of_decide_eq_true hc;omega
   obtain ⟨o,ho⟩:∃ o,b.ops[j]?=some o:=⟨_,List.getElem?_eq_getElem hlt⟩
   obtain ⟨bb,off,rfl,hcell⟩:∃ bb off,A3=some ⟨bb,off,none⟩∧zac w Gs.nil bb (off+(j:Int).toNat*5) (opC o):=by
    obtain ⟨bb,off,rfl,_⟩:=OpsAt.open_ h3 zO;exact ⟨bb,off,rfl,zft h3 (fun hm=>by rcases hm with hm|hm<;>cases hm) ho⟩
   refine z3d ?_;refine z3a ?_;refine z3p ?_;(conv=>whnf)
   (refine ⟨⟨by omega,by omega⟩,?_⟩;(conv=>whnf))
   refine ⟨opC o,hcell,rfl,?_⟩;(conv=>whnf);refine z3p ?_;(conv=>whnf);refine ze2 rfl zK (fun r w' hR=>z43 o.code w') ?_;(conv=>whnf);refine z3p ?_;(conv=>whnf);erw [show cut (List.map CV.v (alL u)) 0 (Tryz.prog.types[30].size)=some (List.map CV.v (alL u)) from zhx (zq3 hu.len)];(conv=>whnf);refine yda (fun v=>∃ u',UsOk u'∧v= .agg (alL u').toArray) (xs:=[.agg (alL u).toArray,.bool (hasD o.code),.int .i64 o.d]) (yfw u _ _) zK (fun r w' hR=>(yfx u hu (hasD o.code) o.d).mono fun e w'' ⟨u',h1,h2,h3⟩=>⟨_,h2,⟨u',h1,rfl⟩,h3⟩) ?_;rintro v ⟨u1,hu1,rfl⟩;(conv=>whnf);erw [zdl (l:=List.map CV.v (alL u1)) (n:=28) (zq3 hu1.len)];(conv=>whnf);erw [zwl];(conv=>whnf);erw [zdz (l:=List.map CV.v (alL u1)) (m:=List.map CV.v (alL u)) (by rw [zq3 hu1.len,zq3 hu.len])];(conv=>whnf);erw [z4a (l:=List.map CV.v (alL u)) (m:=List.map CV.v (alL u1)) (by rw [zq3 hu1.len,zq3 hu.len])];erw [show Nat.ble (List.map CV.v (alL u)).length 8=false from zdy (by rw [zq3 hu.len];decide)];(conv=>whnf);refine z3p ?_;(conv=>whnf);erw [show cut (List.map CV.v (alL u1)) 0 (Tryz.prog.types[30].size)=some (List.map CV.v (alL u1)) from zhx (zq3 hu1.len)];(conv=>whnf);refine yda (fun v=>∃ u',UsOk u'∧v= .agg (alL u').toArray) (xs:=[.agg (alL u1).toArray,.bool (hasA o.code),.int .i64 o.a]) (yfw u1 _ _) zK (fun r w' hR=>(yfx u1 hu1 (hasA o.code) o.a).mono fun e w'' ⟨u',h1,h2,h3⟩=>⟨_,h2,⟨u',h1,rfl⟩,h3⟩) ?_;rintro v ⟨u2,hu2,rfl⟩;(conv=>whnf);erw [zdl (l:=List.map CV.v (alL u2)) (n:=28) (zq3 hu2.len)];(conv=>whnf);erw [zwl];(conv=>whnf);erw [zdz (l:=List.map CV.v (alL u2)) (m:=List.map CV.v (alL u1)) (by rw [zq3 hu2.len,zq3 hu1.len])];(conv=>whnf);erw [z4a (l:=List.map CV.v (alL u1)) (m:=List.map CV.v (alL u2)) (by rw [zq3 hu2.len,zq3 hu1.len])];erw [show Nat.ble (List.map CV.v (alL u1)).length 8=false from zdy (by rw [zq3 hu1.len];decide)];(conv=>whnf);refine z3t ?_;(conv=>whnf);erw [show cut (List.map CV.v (alL u2)) 0 (Tryz.prog.types[30].size)=some (List.map CV.v (alL u2)) from zhx (zq3 hu2.len)];(conv=>whnf);refine yda (fun v=>∃ u',UsOk u'∧v= .agg (alL u').toArray) (xs:=[.agg (alL u2).toArray,.bool (hasB o.code),.int .i64 o.b]) (yfw u2 _ _) zK (fun r w' hR=>(yfx u2 hu2 (hasB o.code) o.b).mono fun e w'' ⟨u',h1,h2,h3⟩=>⟨_,h2,⟨u',h1,rfl⟩,h3⟩) ?_;rintro v ⟨u3,hu3,rfl⟩;(conv=>whnf);erw [zdl (l:=List.map CV.v (alL u3)) (n:=28) (zq3 hu3.len)];(conv=>whnf);erw [zwl];(conv=>whnf);erw [zdz (l:=List.map CV.v (alL u3)) (m:=List.map CV.v (alL u2)) (by rw [zq3 hu3.len,zq3 hu2.len])];(conv=>whnf);erw [z4a (l:=List.map CV.v (alL u2)) (m:=List.map CV.v (alL u3)) (by rw [zq3 hu3.len,zq3 hu2.len])];erw [show Nat.ble (List.map CV.v (alL u2)).length 8=false from zdy (by rw [zq3 hu2.len];decide)];(conv=>whnf);refine zb4 (zcd ?_);refine z3t ?_;(conv=>whnf);refine ⟨((j+1:Nat):Int),by rw [show (j:Int)+1=((j+1:Nat):Int) by omega];exact wr64 zO,?_⟩;(conv=>whnf);exact zcb ⟨(j+1,u3),by omega,hu3⟩ (zjy Tn Tn rfl (yf6 _ _ _ _)) (by show b.ops.length-(j+1)<b.ops.length-j;omega)
  ·have hje:j=b.ops.length:=by have:=of_decide_eq_false hc;omega
   refine z3t ?_;(conv=>whnf);exact zb7 (zce (zb6 (zb8 ⟨u,hu⟩ (zj7 rfl Tn Tn))))
 ·obtain ⟨u',hu'⟩:=x
  dsimp only;have hlen:=zq3 hu'.len;have hz:(List.map CV.v (alL (List.replicate 28 0))).length=28:=rfl;refine z3p ?_;(conv=>whnf);rw [show cut (List.map CV.v (alL u')) 0 (Tryz.prog.types[30].size)=some (List.map CV.v (alL u')) from zhx hlen];(conv=>whnf);rw [show Nat.beq (List.map CV.v (alL u')).length (Tryz.prog.types[30].size)=true from by rw [hlen];rfl,zwl];(conv=>whnf);rw [show Nat.ble (0+(List.map CV.v (alL u')).length) (List.map CV.v (alL (List.replicate 28 0))).length=true from Nat.ble_eq_true_of_le (by rw [hlen,hz];omega)];(conv=>whnf);rw [z4a (show (List.map CV.v (alL (List.replicate 28 0))).length=(List.map CV.v (alL u')).length by rw [hlen,hz])];refine z3t ?_;(conv=>whnf);refine zcg ?_;(conv=>whnf);rw [show cut (List.map CV.v (alL u')) 0 (Tryz.prog.types[30].size)=some (List.map CV.v (alL u')) from zhx hlen];(conv=>whnf)
  exact zmj (z9l _) fun w2 hB=>⟨u',hu',rfl,hB⟩
end
theorem yey {B:Nat} {w':World} {v1 v2 v3:Value} {b:Blk} (h:Rows3 B w' v1 v2 v3 b):∃ A1 A2 A3 c1 c2 c3,(.agg #[v1,v2,v3]:Value)=blkV b A1 A2 A3 c1 c2 c3∧BlkAt w' b A1 A2 A3:=by
 obtain ⟨A1,c1,rfl⟩:=z2a h.at_;obtain ⟨A2,c2,rfl⟩:=z2a h.pages;obtain ⟨A3,c3,rfl⟩:=z2a h.ops;exact ⟨A1,A2,A3,c1,c2,c3,rfl,SlAt.of_own h.at_,SlAt.of_own h.pages,SlAt.of_own h.ops⟩
section
variable {w:World}
theorem yb5 (xs:List Value) (x2:Value) (a:List Int):avals [.p (.agg (List.map CV.v xs)),.p (.agg (List.map CV.v (alL a))),.p (.c (.v x2))]=some [.agg xs.toArray,.agg (alL a).toArray,x2]:=by
 simp only [avals,AV.val,Pc.val,z9k,CV.val]
theorem yeh (A:Option Addr) (n c:Nat) (xs:List Int) (hs:SlAt w w.heap.size A (xs.map intV)) (hl:xs.length=n):Calls Tryz.prog 14 #[.slice A n c] w fun e w'=>∃ b,MadeOk b∧Blky b w e w':=
 (yeg A n c xs w hs hl (Nat.zero_le n)).mono fun e w' ⟨b,v1,v2,v3,hb,he,hr,hB⟩=>by
  obtain ⟨A1,A2,A3,c1,c2,c3,hv,hBA⟩:=yey hr;exact ⟨b,hb,A1,A2,A3,c1,c2,c3,by rw [he,hv],hBA,hB⟩
end
def Stable (J:World→Prop):Prop:=∀ w w',J w→Below w.heap.size w w'→J w'
theorem ye6 (W:World):Stable (fun w=>Below W.heap.size W w):=fun _ _ h hB=>zdg h hB h.size
theorem Stable.and {J K:World→Prop} (h:Stable J) (k:Stable K):Stable (fun w=>J w∧K w):=fun w w' hj hB=>⟨h w w' hj.1 hB,k w w' hj.2 hB⟩
theorem yc8 {W w:World} (h:Held W ⟨[],[]⟩ w):Below W.heap.size W w:=⟨h.os,h.tape,h.output,h.size,fun _ hk=>zpu h hk nofun⟩
section
variable {W:World} {G:Gs} {J:World→Prop} {p:Nat} {x:Obj}
theorem yc6:Stable (AllocJ W G J p x):=fun _ w' h hB=>by
 obtain ⟨w0,h1,h2,h3,h4,h5⟩:=h.out;exact ⟨w0,h1,h2,h3,zdg h4 hB h4.size,(hB.block p (zpt h5)).trans h5⟩
theorem AllocJ.get {w:World} (h:AllocJ W G J p x w):w.heap[p]?=some x:=by
 obtain ⟨w0,h1,h2,h3,h4,h5⟩:=h.out;exact h5
theorem AllocJ.keep {w:World} (hst:Stable J) (h:AllocJ W G J p x w):J w:=by
 obtain ⟨w0,h1,h2,h3,h4,h5⟩:=h.out;exact hst _ _ h1 h4
end
section
variable {P:Program} {W:World} {gs:List Nat} {J:World→Prop}
theorem yee {fid:FuncId} {args:List AV} {us:List Value} {K:Value→(World→Prop)→Prop} {α:Type} (val:α→Value) (Y:α→World→Prop) (hu:avals args=some us) (hok:fnOk P fid=true) (hst:Stable J)
  (hc:∀ w,Held W ⟨[],gs⟩ w→J w→Calls P fid us.toArray w fun e w'=>∃ y,e= .returned (val y)∧Y y w'∧Below w.heap.size w w') (hK:∀ y,K (val y) fun w=>J w∧Y y w):JmpJ P W ⟨[],gs⟩ J fid args K:=
 ⟨hok,α,val,fun y w=>J w∧Y y w,fun w us' hh hj hd=>by
  obtain rfl:=zcs hu hd
  exact (hc w hh hj).mono fun e w' ⟨y,he,hy,hB⟩=>⟨y,he,zp1 (gs1:=[]) hh (zpy hB) nofun,hst _ _ hj hB,hy⟩,hK⟩
end
structure MemT where
 g:Nat
 gs:List Nat
 G:Nat
 gm:MemP
structure MemY (y:MemT) (w:World):Prop where
 G:1≤y.G∧y.G≤4
 ok:y.gm.ok (256*y.G) y.G
 at_:ObjsAt w (y.g::y.gs) (memS 0 (256*y.G) y.G y.gm)
theorem yek (y:MemT):Stable (MemY y):=fun _ _ h hB=>⟨h.G,h.ok,zvz (zt4 _ _ _) h.at_ hB⟩
def yc5 (l:List It) (A:Option Addr) (w:World):Prop:=SlAt w w.heap.size A ((z5x 0 l).flatMap z5r)
theorem ye2 (l:List It) (A:Option Addr):Stable (yc5 l A):=fun _ _ h hB=>(h.below hB (Nat.le_refl _)).more hB.size
section
variable {W:World} {gs:List Nat} {J:World→Prop}
theorem yed {args:List AV} {K:Value→(World→Prop)→Prop} {b:Blk} {A1 A2 A3:Option Addr} {c1 c2 c3:Nat} {a:List Int} {y:MemT} (hb:b.ok) (hv:z9n b=true) (hBA:BlkAt W b A1 A2 A3) (ha:a.length=28) (hva:za2 a=true) (hal:∀ v,0≤v→v<28→ -1000≤getV a v∧getV a v≤1000) (hst:Stable J) (hJ:∀ w,J w→Below W.heap.size W w∧MemY y w)
  (hu:avals args=some [blkV b A1 A2 A3 c1 c2 c3,.agg (alL a).toArray,pV y.g]) (hK:∀ z:Option Addr×Nat,K (.tuple #[codV (yan b a (256*(y.G:Int)) (256*(y.G:Int)) 0) z.1 z.2,.bool true]) fun w=>J w∧yc5 (yan b a (256*(y.G:Int)) (256*(y.G:Int)) 0) z.1 w):JmpJ Tryz.prog W ⟨[],gs⟩ J 17 args K:=
 yee (fun z:Option Addr×Nat=> .tuple #[codV (yan b a (256*(y.G:Int)) (256*(y.G:Int)) 0) z.1 z.2,.bool true]) (fun z=>yc5 _ z.1) hu zK hst (fun w _ hj=>by
  obtain ⟨hB,hm⟩:=hJ w hj;have hG:=hm.G
  exact (yb9 hb hv (hBA.later hB) ha hva hal ⟨hG.1,by omega⟩ hm.at_).mono fun e w' ⟨A,cp,he,hsl,hB2⟩=>⟨(A,cp),he,hsl,hB2⟩) hK
theorem ye3 {w:World} {B:Nat} {A:Option Addr} {l:List SiteP} {p:Nat} {us:List Value} {t:TypeId} (h:SlAt w B A (l.flatMap z5r)) (hl:0<l.length) (hp:w.heap[p]?=some (.cells us.toArray t (0,0))) (hz:∀ i,Value.int .i64 i∉us):∀ b off,A=some ⟨b,off,none⟩→b≠p:=fun b off e hbp=>by
 subst hbp;have hs:=List.getElem?_eq_getElem hl;obtain ⟨b2,o2,e2,_,hc⟩:=h (0*6+0) _ (zm6 l 0 _ hs 0 zO);rw [e] at e2;injection e2 with e2;injection e2 with e3 e4;subst e3;have hc:w.cell? ⟨b,o2+(0*6+0),none⟩=some (.int .i64 (l[0]'hl).off):=hc;unfold World.cell? at hc;rw [hp] at hc;have hc:us[o2+(0*6+0)]?=some (.int .i64 (l[0]'hl).off):=(by simpa using hc);exact hz _ (List.mem_of_getElem? hc)
theorem ye4 {w w':World} {A:Option Addr} {xs:List Value} {p:Nat} (h:SlAt w w.heap.size A xs) (hg:w.grownBy w' (some p)) (hn:∀ b off,A=some ⟨b,off,none⟩→b≠p):SlAt w' w'.heap.size A xs:=fun j u hj=>by
 obtain ⟨b,off,e1,e2,e3⟩:=h j u hj;refine ⟨b,off,e1,Nat.lt_of_lt_of_le e2 hg.size,(World.cell?_of_block (hg.block b e2 fun e=>?_)).trans e3⟩;injection e with e;exact hn b off e1 e
theorem ydv {l:List It} {A:Option Addr} {p:Nat} {x:Obj} {w':World} (hl:0<(z5x 0 l).length) (hJ:∀ w,J w→yc5 l A w∧w.heap[p]?=some (.cells #[strV [],.slice none 0 0] coT (0,0))) (h:StoreJ W ⟨[],gs⟩ J p x w'):yc5 l A w'∧w'.heap[p]?=some x:=by
 obtain ⟨w,hj,hh,hg,hx⟩:=h.out;obtain ⟨h1,h2⟩:=hJ w hj
 exact ⟨ye4 h1 hg (ye3 h1 hl (us:=[strV [],.slice none 0 0]) h2 fun i hm=>by
  rcases List.mem_cons.1 hm with hm|hm
  ·cases hm
  ·rcases List.mem_cons.1 hm with hm|hm
   ·cases hm
   ·cases hm),hx⟩
theorem yfo (b:Blk) (a:List Int) (ctx size pred:Int):0<(z5x 0 (yan b a ctx size pred)).length:=by
 obtain ⟨idx,hix,_⟩:=z5u (yan b a ctx size pred) 0 6 (zqv ⟨1,0,0,0,0⟩) ⟨1,0,0,0,0⟩ rfl rfl;exact Nat.lt_of_le_of_lt (Nat.zero_le _) (List.getElem?_eq_some_iff.1 hix).1
end
theorem yfv {w0:World} {G:Gs} {N:Nd} {f:Fr} {S:List Ow} {Q:Exit→Act→World→Prop} {id id':Nat} (hne:id≠id') (h:AtQ w0 G N (.exit id) f S Q):AtQ w0 G N (.exit id) f S (Exit.inBlock id' Q):=⟨fun a w hg=>by
 show (if id=id' then Q .normal a w else Q (.exit id) a w)
 rw [if_neg hne];exact h.out a w hg⟩
section
variable {w:World}
theorem yft (b:Blk) (A1 A2 A3:Option Addr) (c1 c2 c3:Nat) (regs:Nat) (hr9:regs≤9) (hops:b.ops.length≤2000) (h3:OpsAt w w.heap.size A3 b.ops):Calls Tryz.prog 22 #[blkV b A1 A2 A3 c1 c2 c3,intV (regs:Int)] w fun e w'=>∃ a,AlR a regs∧e= .returned (.agg (alL a).toArray)∧Below w.heap.size w w':=by
 refine zfg [blkV b A1 A2 A3 c1 c2 c3,intV (regs:Int)] Tryz.func22 Tryz.ntmps22 rfl zS ?_
 obtain ⟨a0,ha0⟩:∃ a0,a0=zvn:=⟨_,rfl⟩
 have hal0:AlR a0 0:=(by rw [ha0];exact zvs);have hl0:=zq3 hal0.len;refine z3p ?_;(conv=>whnf);refine z3p ?_;(conv=>whnf);refine yda (fun v=>∃ u,UsOk u∧v= .agg (alL u).toArray) (xs:=[blkV b A1 A2 A3 c1 c2 c3]) rfl zK (fun r w' hR=>(yf7 b A1 A2 A3 c1 c2 c3 hops (z6g h3 hR.toBelow)).mono fun e w'' ⟨u,k1,k2,k3⟩=>⟨_,k2,⟨u,k1,rfl⟩,k3⟩) ?_;rintro v ⟨u,hu,rfl⟩;have hlu:=zq3 hu.len;(conv=>whnf);erw [zdl (l:=List.map CV.v (alL u)) (n:=28) hlu];(conv=>whnf);erw [zwl];(conv=>whnf);erw [show Nat.ble (0+(List.map CV.v (alL u)).length) (List.map CV.v (alL (List.replicate 28 0))).length=true from Nat.ble_eq_true_of_le (by rw [hlu];decide)];(conv=>whnf);erw [z4a (l:=List.map CV.v (alL (List.replicate 28 0))) (m:=List.map CV.v (alL u)) (by rw [hlu];rfl)];refine z3p ?_;(conv=>whnf);refine ze2 (x:= .agg (alL zvn).toArray) (xs:=[]) rfl zK (fun r w' hR=>zvv w') ?_;rw [← ha0];(conv=>whnf);erw [zdl (l:=List.map CV.v (alL a0)) (n:=28) hl0];(conv=>whnf);erw [zwl];(conv=>whnf);erw [show Nat.ble (0+(List.map CV.v (alL a0)).length) (List.map CV.v (alL (List.replicate 28 0))).length=true from Nat.ble_eq_true_of_le (by rw [hl0];decide)];(conv=>whnf);erw [z4a (l:=List.map CV.v (alL (List.replicate 28 0))) (m:=List.map CV.v (alL a0)) (by rw [hl0];rfl)];refine z3m fun r w3 hR=>?_;obtain ⟨p4,us,e1,e2,e3⟩:=hR.own 1 _ rfl;obtain rfl:=zis (us:=alL (List.replicate 28 0)) e3;obtain ⟨p5,us,f1,f2,f3⟩:=hR.own 2 _ rfl;obtain rfl:=zis (us:=alL u) f3;obtain ⟨p6,us,g1,g2,g3⟩:=hR.own 3 _ rfl;obtain rfl:=zis (us:=alL a0) g3;have hB3:=hR.toBelow;have hp4:=zoc hR e1;have hp6:=zoc hR g1
 have n46:p4≠p6:=fun e=>by subst e;exact absurd (hR.inj 1 3 _ e1 g1) (by decide)
 have n56:p5≠p6:=fun e=>by subst e;exact absurd (hR.inj 2 3 _ f1 g1) (by decide)
 refine ⟨z6k [(1,intV (regs:Int)),(4,pV p4),(5,pV p5),(6,pV p6)],fun a' hf=>z6t ⟨z6r hf rfl,z6p hf 4 rfl e1,z6p hf 5 rfl f1,z6p hf 6 rfl g1,trivial⟩,?_⟩;clear hR e3 f3 g3 e1 f1 g1;have kept:∀ {w':World} {q:Nat} {t:TypeId} {us:List Value},q≠p6→w3.heap[q]?=some (.cells us.toArray t (0,0))→Held w3 ⟨[],[p6]⟩ w'→w'.heap[q]?=some (.cells us.toArray t (0,0)):=fun hn hq hh=>(zpu hh (zpt hq) fun hm=>hn (List.mem_singleton.1 hm)).trans hq;refine z3k (α:=Unit) (fun _=>[(4,one (pV p4)),(6,one (pV p6))]) (fun _ w2=>∃ a,AlR a regs∧w2.heap[p6]?=some (.cells (alL a).toArray alT (0,0))∧Held w3 ⟨[],[p6]⟩ w2) ?_ fun _ w2 hl=>?_
 ·refine z3p ?_
  (conv=>whnf);refine z3a ?_;refine z3i (fun j:{j:Nat//j≤regs}=>[(1,one (intV (regs:Int))),(4,one (pV p4)),(5,one (pV p5)),(6,one (pV p6)),(7,one (intV (j.1:Int)))]) (fun j w'=>∃ a,AlR a j.1∧w'.heap[p6]?=some (.cells (alL a).toArray alT (0,0))∧Held w3 ⟨[],[p6]⟩ w') (fun j=>regs-j.1) ⟨0,by omega⟩ Tn (fun r w' hR=>⟨a0,hal0,(hR.toBelow.block p6 (zpt g2)).trans g2,zpy hR.toBelow⟩) (fun j w' hJ=>?_);obtain ⟨j,hj⟩:=j;dsimp only at hJ⊢;obtain ⟨a,ha,g24,hh4⟩:=hJ;have f24:=kept n56 f2 hh4;refine z3d ?_;refine z3p ?_;(conv=>whnf);by_cases hjr:j<regs;rotate_left
  ·rw [show decide ((j:Int)<(regs:Int))=false from decide_eq_false zO]
   refine kB ?_;refine z3b (t:=false) rfl (fun hc=>Bool.noConfusion (show false=true from hc)) (fun _=>?_);refine z3t ?_;(conv=>whnf);exact zb7 (zcf (zb6 (zca () Tn fun r w3 hR=>⟨a,ha.up hj,(hR.toBelow.block p6 (zpt g24)).trans g24,zp1 (gs1:=[]) hh4 (zpy hR.toBelow) nofun⟩)))
  rw [show decide ((j:Int)<(regs:Int))=true from decide_eq_true zO];refine kB ?_;rw [show decide ((j:Int)<28)=true from decide_eq_true zO];refine kB ?_;refine z3b (t:=true) rfl (fun _=>z3q (zcd ?_)) (fun hc=>Bool.noConfusion (show true=false from hc));refine z3k (α:=Unit) (fun _=>[(1,one (intV (regs:Int))),(4,one (pV p4)),(5,one (pV p5)),(6,one (pV p6)),(7,one (intV (j:Int)))]) (fun _ w2=>∃ a,AlR a (j+1)∧w2.heap[p6]?=some (.cells (alL a).toArray alT (0,0))∧Held w3 ⟨[],[p6]⟩ w2) ?_ fun _ w2 hl=>?_
  ·refine z3a ?_
   refine z3p ?_;(conv=>whnf);refine z3k (α:={x:Int//x= -1∨((0≤x∧x<28)∧x≠19)}) (fun x=>[(1,one (intV (regs:Int))),(4,one (pV p4)),(5,one (pV p5)),(6,one (pV p6)),(7,one (intV (j:Int))),(8,one (intV x.1))]) (fun _ w2=>Below w'.heap.size w' w2) ?_ fun x w5 hB5=>?_
   ·refine z3p ?_
    (conv=>whnf);refine z3a ?_;refine z3i (fun x:{x:Nat×Int//x.1≤28∧(x.2= -1∨((0≤x.2∧x.2<28)∧x.2≠19))}=>[(1,one (intV (regs:Int))),(4,one (pV p4)),(5,one (pV p5)),(6,one (pV p6)),(7,one (intV (j:Int))),(8,one (intV x.1.2)),(9,one (intV (x.1.1:Int)))]) (fun _ w2=>Below w'.heap.size w' w2) (fun x=>28-x.1.1) ⟨(0,-1),by omega,.inl rfl⟩ Tn (fun r w'' hR=>hR.toBelow) (fun x w5 hJ=>?_);obtain ⟨⟨v,best⟩,hv,hbest⟩:=x;dsimp only at hv hbest hJ⊢;have f25:=(hJ.block p5 (zpt f24)).trans f24;have g25:=(hJ.block p6 (zpt g24)).trans g24;refine z3d ?_;refine z3p ?_;(conv=>whnf);refine z3b rfl (fun hc=>z3q (zcd ?_)) (fun hc=>?_)
    ·have hlt:v<28:=by have:=of_decide_eq_true hc;omega
     refine z3k (α:={x:Int//x= -1∨((0≤x∧x<28)∧x≠19)}) (fun x=>[(1,one (intV (regs:Int))),(4,one (pV p4)),(5,one (pV p5)),(6,one (pV p6)),(7,one (intV (j:Int))),(8,one (intV x.1)),(9,one (intV (v:Int)))]) (fun _ w2=>Below w'.heap.size w' w2) ?_ fun x w6 hB6=>?_
     ·refine z3a ?_
      refine z3p ?_;refine z25 mixed zK ?_;(conv=>whnf);refine z0h (size:=1) p6 0 28 (v:Int) rfl rfl rfl rfl rfl rfl zO zO ?_;(conv=>whnf);refine ⟨_,za3 g25 ha.len (v:=(v:Int)) zO,?_⟩;(conv=>whnf);by_cases k1:getV a (v:Int)<0;rotate_left
      ·rw [show decide (getV a (v:Int)<0)=false from decide_eq_false k1]
       refine kB ?_;refine z3b (t:=false) rfl (fun hc=>Bool.noConfusion (show false=true from hc)) (fun _=>?_);exact z3q (zb4 (zca ⟨best,hbest⟩ Tn fun r w3 hR=>zdg hJ hR.toBelow hJ.size))
      rw [show decide (getV a (v:Int)<0)=true from decide_eq_true k1];refine kB ?_;refine z0h (size:=1) p5 0 28 (v:Int) rfl rfl rfl rfl rfl rfl zO zO ?_;refine kB ?_;refine ⟨_,za3 f25 hu.len (v:=(v:Int)) zO,?_⟩;refine kB ?_;by_cases k2:getV u (v:Int)>0;rotate_left
      ·rw [show decide (getV u (v:Int)>0)=false from decide_eq_false k2]
       refine kB ?_;refine z3b (t:=false) rfl (fun hc=>Bool.noConfusion (show false=true from hc)) (fun _=>?_);exact z3q (zb4 (zca ⟨best,hbest⟩ Tn fun r w3 hR=>zdg hJ hR.toBelow hJ.size))
      rw [show decide (getV u (v:Int)>0)=true from decide_eq_true k2]
      have h19:(v:Int)≠19:=fun e=>by rw [e,hu.pc] at k2;omega
      refine kB ?_;by_cases k3:best<0
      ·rw [show decide (best<0)=true from decide_eq_true k3]
       refine kB ?_;refine z3b (t:=true) rfl (fun _=>?_) (fun hc=>Bool.noConfusion (show true=false from hc));refine z3t ?_;(conv=>whnf);exact zb4 (zca ⟨(v:Int),.inr ⟨by omega,h19⟩⟩ Tn fun r w3 hR=>zdg hJ hR.toBelow hJ.size)
      rw [show decide (best<0)=false from decide_eq_false k3];have hb:(0≤best∧best<28)∧best≠19:=(by rcases hbest with h|h;omega;exact h);refine kB ?_;refine z0h (size:=1) p5 0 28 (v:Int) rfl rfl rfl rfl rfl rfl zO zO ?_;refine kB ?_;refine ⟨_,za3 f25 hu.len (v:=(v:Int)) zO,?_⟩;refine kB ?_;refine z0h (size:=1) p5 0 28 best rfl rfl rfl rfl rfl rfl zO zO ?_;refine kB ?_;refine ⟨_,za3 f25 hu.len (v:=best) zO,?_⟩;refine kB ?_;by_cases k4:getV u (v:Int)>getV u best;rotate_left
      ·rw [show decide (getV u (v:Int)>getV u best)=false from decide_eq_false k4]
       refine kB ?_;refine z3b (t:=false) rfl (fun hc=>Bool.noConfusion (show false=true from hc)) (fun _=>?_);exact z3q (zb4 (zca ⟨best,hbest⟩ Tn fun r w3 hR=>zdg hJ hR.toBelow hJ.size))
      rw [show decide (getV u (v:Int)>getV u best)=true from decide_eq_true k4];refine kB ?_;refine z3b (t:=true) rfl (fun _=>?_) (fun hc=>Bool.noConfusion (show true=false from hc));refine z3t ?_;(conv=>whnf);exact zb4 (zca ⟨(v:Int),.inr ⟨by omega,h19⟩⟩ Tn fun r w3 hR=>zdg hJ hR.toBelow hJ.size)
     ·obtain ⟨x,hx⟩:=x
      dsimp only;refine z3t ?_;(conv=>whnf);refine ⟨((v+1:Nat):Int),by rw [show (v:Int)+1=((v+1:Nat):Int) by omega];exact wr64 zO,?_⟩;(conv=>whnf);exact zcc ⟨(v+1,x),by omega,hx⟩ Tn (fun r w3 hR=>zdg hB6 hR.toBelow hB6.size) (by show 28-(v+1)<28-v;omega)
    ·refine z3t ?_
     (conv=>whnf);exact zb7 (zcf (zb6 (zca ⟨best,hbest⟩ Tn fun r w3 hR=>zdg hJ hR.toBelow hJ.size)))
   ·obtain ⟨x,hx⟩:=x
    dsimp only;have g25:=(hB5.block p6 (zpt g24)).trans g24;have hh5:=zp1 (gs1:=[]) hh4 (zpy hB5) nofun;refine z3d ?_;refine z3p ?_;(conv=>whnf);by_cases hx0:x<0
    ·rw [show decide (x<0)=true from decide_eq_true hx0]
     refine z3b (t:=true) rfl (fun _=>?_) (fun hc=>Bool.noConfusion (show true=false from hc));refine z3t ?_;(conv=>whnf);exact zb7 (yfv (by decide) (yfu (zcf (zb6 (zca () Tn fun r w3 hR=>⟨a,ha.up hj,(hR.toBelow.block p6 (zpt g25)).trans g25,zp1 (gs1:=[]) hh5 (zpy hR.toBelow) nofun⟩)))))
    ·rw [show decide (x<0)=false from decide_eq_false hx0]
     refine z3b (t:=false) rfl (fun hc=>Bool.noConfusion (show false=true from hc)) (fun _=>z3q (zcd ?_));have hx2:(0≤x∧x<28)∧x≠19:=(by rcases hx with h|h;omega;exact h);refine z3u 6 0 p6 rfl ⟨[p6],[]⟩ [.cells alT ((alL a).map .v)] fun r w6 hR6=>?_;have hB6:=hR6.toBelow;have g26:=(hB6.block p6 (zpt g25)).trans g25;have hh6:=zp1 (gs1:=[]) hh5 (zpy hB6) nofun;have hal:=zq3 ha.len;refine ⟨_,z1w (zv1 g26),rfl,?_⟩;refine z3t ?_;(conv=>whnf)
     (refine ⟨⟨by omega,by omega⟩,?_⟩;(conv=>whnf))
     rw [show ∀ y:Value,Nat.ble (0+x.toNat*tsz Tryz.prog 3+[CV.v y].length) (List.map CV.v (alL a)).length=true from fun y=>Nat.ble_eq_true_of_le (by rw [hal];show 0+x.toNat*1+1≤28;omega)];(conv=>whnf);rw [show Nat.ble (List.map CV.v (alL a)).length 8=false from zdy (by rw [hal];decide)];(conv=>whnf);refine zb4 (zb9 fun r7 w7 hR7=>?_);obtain ⟨p',us,b1,b2,b3⟩:=hR7.own 0 _ rfl;have hcc:=hR7.first 0 p6 rfl;rw [hcc] at b1;injection b1 with b1;subst b1;have b4:denL r7 (z36 (List.map CV.v (alL a)) (0+x.toNat*tsz Tryz.prog 3) [CV.v (.int .i64 (j:Int))]) us:=b3;rw [yeb] at b4;obtain rfl:=zis b4;have hgr:=hR7.growns;refine ⟨(),fun a' hf=>?_,⟨a.set x.toNat (j:Int),ha.give hx2.1 hx2.2,b2,zp1 hh6 (zpz hgr) fun b hb=> .inl hb⟩⟩;show FDen Env.none (z6k [(1,intV (regs:Int)),(4,pV p4),(5,pV p5),(6,pV p6),(7,intV (j:Int))]) a';exact z6t ⟨z6r hf rfl,z6r hf rfl,z6r hf rfl,z6p hf 6 rfl hcc,z6r hf rfl,trivial⟩
  ·obtain ⟨a2,ha2,g26,hh6⟩:=hl
   refine z3t ?_;(conv=>whnf);refine ⟨((j+1:Nat):Int),by rw [show (j:Int)+1=((j+1:Nat):Int) by omega];exact wr64 zO,?_⟩;(conv=>whnf);exact zcc ⟨j+1,by omega⟩ Tn (fun r w3 hR=>⟨a2,ha2,(hR.toBelow.block p6 (zpt g26)).trans g26,zp1 (gs1:=[]) hh6 (zpy hR.toBelow) nofun⟩) (by show regs-(j+1)<regs-j;omega)
 ·obtain ⟨a,ha,g24,hh4⟩:=hl
  have hla:=zq3 ha.len;refine z3u 4 0 p4 rfl ⟨[p4],[]⟩ [.cells alT ((alL (List.replicate 28 0)).map .v)] fun r w6 hR6=>?_;have hB6:=hR6.toBelow;have e26:=(hB6.block p4 (zpt (kept n46 e2 hh4))).trans (kept n46 e2 hh4);have g26:=(hB6.block p6 (zpt g24)).trans g24;have hh6:=zp1 (gs1:=[]) hh4 (zpy hB6) nofun
  have nG:p6∉(⟨[p4],[]⟩:Gs):=fun hm=>by
   rcases hm with hm|hm
   ·exact n46 (List.mem_singleton.1 hm).symm
   ·cases hm
  refine ⟨_,z1w (zv1 e26),rfl,?_⟩;refine z3p ?_;(conv=>whnf);refine ⟨alL a,zfo (zd0 g26) nG,by rw [List.length_map,ha.len];rfl,?_⟩;(conv=>whnf);erw [zdl (l:=List.map CV.v (alL a)) (n:=28) hla];(conv=>whnf);erw [zwl];(conv=>whnf);erw [show Nat.ble (0+(List.map CV.v (alL a)).length) (List.map CV.v (alL (List.replicate 28 0))).length=true from Nat.ble_eq_true_of_le (by rw [hla];decide)];(conv=>whnf);erw [z4a (l:=List.map CV.v (alL (List.replicate 28 0))) (m:=List.map CV.v (alL a)) (by rw [hla];rfl)];refine z3t ?_;(conv=>whnf);refine zcg ?_;(conv=>whnf);rw [show cut (List.map CV.v (alL a)) 0 (Tryz.prog.types[alT].size)=some (List.map CV.v (alL a)) from zhx hla];(conv=>whnf);refine ⟨fun r2 w9 u hR hd=>?_⟩;rw [AV.val_den (x:= .agg (alL a).toArray) (z9l _) hd];have hgr:=hR.growns;have hz3:=hB3.size;have hz6:=hh6.size;have hh36:=hh6;refine ⟨a,ha,rfl,hgr.os.trans (hh6.os.trans hB3.os),hgr.tape.trans (hh6.tape.trans hB3.tape),hgr.output.trans (hh6.output.trans hB3.output),Nat.le_trans hz3 (Nat.le_trans hz6 hgr.size),fun k hk=>(hgr.block k zO fun hm=>by rw [List.mem_singleton] at hm;omega).trans ((zpu hh6 zO fun hm=>by rw [List.mem_singleton] at hm;omega).trans (hB3.block k hk))⟩
end
end Go.Proofs.YtocafomnnkmjfaaGreat
