import Derived.Test.YtocafomnnkmjfaaGreatMSitesB
set_option maxRecDepth 100000
set_option maxHeartbeats 4000000
namespace Go.Proofs.YtocafomnnkmjfaaGreat
open Go.RowKit
theorem mod40 (x:Int):(x.tmod 40+40).tmod 40=x%40:=by
 rw [Int.tmod_eq_emod_of_nonneg (by have:=Int.lt_tmod_of_pos x (show (0:Int)<40 by decide);omega)];rw [Int.tmod_eq_emod]
 split<;>omega
section
variable {w:World}
theorem yej (A:Option Addr) (c:Nat) (xs:List Int) (hs:SlAt w w.heap.size A (xs.map intV)):Calls Tryz.prog 15 #[.slice A xs.length c,intV 9] w fun e w'=>∃ a,AlR a 9∧e= .returned (.agg (alL a).toArray)∧Below w.heap.size w w':=by
 refine zfg [.slice A xs.length c,intV 9] Tryz.func15 Tryz.ntmps15 rfl zS ?_
 obtain ⟨a0,ha0⟩:∃ a0,a0=zvn:=⟨_,rfl⟩
 have hal0:AlR a0 0:=(by rw [ha0];exact zvs);have hl0:=zq3 hal0.len;refine z3p ?_;(conv=>whnf);refine z3p ?_;(conv=>whnf);refine ze2 (x:= .agg (alL zvn).toArray) (xs:=[]) rfl zK (fun r w' hR=>zvv w') ?_;rw [← ha0];(conv=>whnf);erw [zdl (l:=List.map CV.v (alL a0)) (n:=28) hl0];(conv=>whnf);rw [zwl];(conv=>whnf);erw [show Nat.ble (0+(List.map CV.v (alL a0)).length) (List.map CV.v (alL (List.replicate 28 0))).length=true from Nat.ble_eq_true_of_le (by rw [hl0];decide)];(conv=>whnf);erw [z4a (l:=List.map CV.v (alL (List.replicate 28 0))) (m:=List.map CV.v (alL a0)) (by rw [hl0];rfl)];refine z3j (α:={a:List Int//AlR a 9}) (fun _=>[(4,.p (.c (.ref 0 0))),(5,.p (.c (.ref 1 0)))]) (fun x=>[.cells alT ((alL (List.replicate 28 0)).map .v),.cells alT ((alL x.1).map .v)]) ?_ fun x=>?_
 ·refine z3p ?_
  (conv=>whnf);refine z3a ?_;refine z3g (α:={x:Nat×List Int//x.1≤9∧AlR x.2 x.1}) (fun x=>[(0,one (.slice A xs.length c)),(1,one (intV 9)),(4,.p (.c (.ref 0 0))),(5,.p (.c (.ref 1 0))),(6,one (intV (x.1.1:Int)))]) (fun x=>[.cells alT ((alL (List.replicate 28 0)).map .v),.cells alT ((alL x.1.2).map .v)]) (fun x=>9-x.1.1) ⟨(0,a0),by omega,hal0⟩ (zj7 rfl Tn Tn) (fun x=>?_);obtain ⟨⟨j,a⟩,hj,ha⟩:=x;dsimp only at hj ha⊢;have hal:=zq3 ha.len;refine z3d ?_;refine z3p ?_;(conv=>whnf);by_cases hj9:j<9;rotate_left
  ·rw [show decide ((j:Int)<9)=false from decide_eq_false zO]
   refine kB ?_;refine z3b (t:=false) rfl (fun hc=>Bool.noConfusion (show false=true from hc)) (fun _=>?_);refine z3t ?_;(conv=>whnf);exact zb7 (zce (zb6 (zb8 ⟨a,ha.up hj⟩ (zj7 rfl Tn Tn))))
  rw [show decide ((j:Int)<9)=true from decide_eq_true zO];refine kB ?_;by_cases hjx:j<xs.length;rotate_left
  ·rw [show decide ((j:Int)<(xs.length:Int))=false from decide_eq_false zO]
   refine kB ?_;refine z3b (t:=false) rfl (fun hc=>Bool.noConfusion (show false=true from hc)) (fun _=>?_);refine z3t ?_;(conv=>whnf);exact zb7 (zce (zb6 (zb8 ⟨a,ha.up hj⟩ (zj7 rfl Tn Tn))))
  rw [show decide ((j:Int)<(xs.length:Int))=true from decide_eq_true zO];refine kB ?_;refine z3b (t:=true) rfl (fun _=>z3q (zcd ?_)) (fun hc=>Bool.noConfusion (show true=false from hc))
  obtain ⟨x,hx⟩:∃ x,xs[j]?=some x:=⟨_,List.getElem?_eq_getElem hjx⟩
  obtain ⟨bb,off,rfl,hb,hcl⟩:=hs j (intV x) (by rw [List.getElem?_map,hx];rfl);have hcell:zac w Gs.nil bb (off+(j:Int).toNat*1) [intV x]:=zfs hb (by rintro (h|h)<;>cases h) (by rw [Nat.mul_one,Int.toNat_natCast];exact hcl);refine z3j (α:={a:List Int//AlR a (j+1)}) (fun _=>[(0,one (.slice (some ⟨bb,off,none⟩) xs.length c)),(1,one (intV 9)),(4,.p (.c (.ref 0 0))),(5,.p (.c (.ref 1 0))),(6,one (intV (j:Int)))]) (fun x=>[.cells alT ((alL (List.replicate 28 0)).map .v),.cells alT ((alL x.1).map .v)]) ?_ fun x=>?_
  ·refine z3a ?_
   refine z3p ?_;(conv=>whnf)
   (refine ⟨⟨by omega,by omega⟩,?_⟩;(conv=>whnf))
   refine ⟨_,hcell,?_⟩;(conv=>whnf);refine ⟨by decide,_,rfl,?_⟩;(conv=>whnf);refine ⟨x.tmod 40+40,wr64 (by have:=Int.lt_tmod_of_pos x (show (0:Int)<40 by decide);have:=Int.tmod_lt_of_pos x (show (0:Int)<40 by decide);omega),?_⟩;(conv=>whnf);refine ⟨by decide,x%40,mod40 x,?_⟩;(conv=>whnf)
   obtain ⟨v,hv⟩:∃ v,v=x%40:=⟨_,rfl⟩
   rw [← hv];have hv0:0≤v∧v<40:=(by omega);refine z3p ?_;(conv=>whnf);by_cases h2:v<28;rotate_left
   ·rw [show decide (v<28)=false from decide_eq_false h2]
    refine kB ?_;refine z3b (t:=false) rfl (fun hc=>Bool.noConfusion (show false=true from hc)) (fun _=>?_);exact z3q (zb4 (zb8 ⟨a,ha.up zO⟩ (zj7 rfl Tn Tn)))
   rw [show decide (v<28)=true from decide_eq_true h2];refine kB ?_;by_cases h3:v=19
   ·rw [show (v !=19)=false from bne_eq_false_iff_eq.2 h3]
    refine kB ?_;refine z3b (t:=false) rfl (fun hc=>Bool.noConfusion (show false=true from hc)) (fun _=>?_);exact z3q (zb4 (zb8 ⟨a,ha.up zO⟩ (zj7 rfl Tn Tn)))
   rw [show (v !=19)=true from bne_iff_ne.2 h3];refine kB ?_
   (refine ⟨⟨by omega,by omega⟩,?_⟩;(conv=>whnf))
   refine kA ?_;rw [yea ha.len ⟨hv0.1,h2⟩];refine kB ?_;by_cases h4:getV a v<0;rotate_left
   ·rw [show decide (getV a v<0)=false from decide_eq_false h4]
    refine kB ?_;refine z3b (t:=false) rfl (fun hc=>Bool.noConfusion (show false=true from hc)) (fun _=>?_);exact z3q (zb4 (zb8 ⟨a,ha.up zO⟩ (zj7 rfl Tn Tn)))
   rw [show decide (getV a v<0)=true from decide_eq_true h4];refine kB ?_;refine z3b (t:=true) rfl (fun _=>?_) (fun hc=>Bool.noConfusion (show true=false from hc));refine z3t ?_;(conv=>whnf)
   (refine ⟨⟨by omega,by omega⟩,?_⟩;(conv=>whnf))
   rw [show ∀ y:Value,Nat.ble (0+v.toNat*tsz Tryz.prog 3+[CV.v y].length) (List.map CV.v (alL a)).length=true from fun y=>Nat.ble_eq_true_of_le (by rw [hal];show 0+v.toNat*1+1≤28;omega)];(conv=>whnf);rw [show Nat.ble (List.map CV.v (alL a)).length 8=false from zdy (by rw [hal];decide)];(conv=>whnf);exact zb4 (zb8 ⟨a.set v.toNat (j:Int),ha.give ⟨hv0.1,h2⟩ h3⟩ (zj7 rfl Tn (aI sM (aI ((aI rfl (Or.inl yeb))) trivial))))
  ·obtain ⟨a2,ha2⟩:=x
   dsimp only;refine z3t ?_;(conv=>whnf);refine ⟨((j+1:Nat):Int),by rw [show (j:Int)+1=((j+1:Nat):Int) by omega];exact wr64 zO,?_⟩;(conv=>whnf);exact zcb ⟨(j+1,a2),by omega,ha2⟩ (zj7 rfl Tn Tn) (by show 9-(j+1)<9-j;omega)
 ·obtain ⟨a,ha⟩:=x
  dsimp only;have hlen:=zq3 ha.len;have hz:(List.map CV.v (alL (List.replicate 28 0))).length=28:=rfl;refine z3p ?_;(conv=>whnf);rw [show cut (List.map CV.v (alL a)) 0 (Tryz.prog.types[alT].size)=some (List.map CV.v (alL a)) from zhx hlen];(conv=>whnf);rw [show Nat.beq (List.map CV.v (alL a)).length (Tryz.prog.types[alT].size)=true from by rw [hlen];rfl,zwl];(conv=>whnf);rw [show Nat.ble (0+(List.map CV.v (alL a)).length) (List.map CV.v (alL (List.replicate 28 0))).length=true from Nat.ble_eq_true_of_le (by rw [hlen,hz];omega)];(conv=>whnf);rw [z4a (show (List.map CV.v (alL (List.replicate 28 0))).length=(List.map CV.v (alL a)).length by rw [hlen,hz])];refine z3t ?_;(conv=>whnf);refine zcg ?_;(conv=>whnf);rw [show cut (List.map CV.v (alL a)) 0 (Tryz.prog.types[alT].size)=some (List.map CV.v (alL a)) from zhx hlen];(conv=>whnf)
  exact zmj (z9l _) fun w2 hB=>⟨a,ha,rfl,hB⟩
end
theorem yey {B:Nat} {w':World} {v1 v2 v3:Value} {b:Blk} (h:Rows3 B w' v1 v2 v3 b):∃ A1 A2 A3 c1 c2 c3,(.agg #[v1,v2,v3]:Value)=blkV b A1 A2 A3 c1 c2 c3∧BlkAt w' b A1 A2 A3:=by
 obtain ⟨A1,c1,rfl⟩:=z2a h.at_;obtain ⟨A2,c2,rfl⟩:=z2a h.pages;obtain ⟨A3,c3,rfl⟩:=z2a h.ops;exact ⟨A1,A2,A3,c1,c2,c3,rfl,SlAt.of_own h.at_,SlAt.of_own h.pages,SlAt.of_own h.ops⟩
section
variable {w:World}
theorem yb5 (xs:List Value) (x2:Value) (a:List Int):avals [.p (.agg (List.map CV.v xs)),.p (.agg (List.map CV.v (alL a))),.p (.c (.v x2))]=some [.agg xs.toArray,.agg (alL a).toArray,x2]:=by
 simp only [avals,AV.val,Pc.val,z9k,CV.val]
theorem yeh (A:Option Addr) (n c:Nat) (xs:List Int) (hs:SlAt w w.heap.size A (xs.map intV)) (hl:xs.length=n):Calls Tryz.prog 14 #[.slice A n c] w fun e w'=>∃ b,MadeOk b∧Blky b w e w':=
 (yeg A n c xs w hs hl (Nat.zero_le n)).mono fun e w' ⟨b,v1,v2,v3,hb,he,hr,hB⟩=>by
  obtain ⟨A1,A2,A3,c1,c2,c3,hv,hBA⟩:=yey hr;exact ⟨b,hb,A1,A2,A3,c1,c2,c3,by rw [he,hv],hBA,hB⟩
end
def Stable (J:World→Prop):Prop:=∀ w w',J w→Below w.heap.size w w'→J w'
theorem ye6 (W:World):Stable (fun w=>Below W.heap.size W w):=fun _ _ h hB=>zdg h hB h.size
theorem Stable.and {J K:World→Prop} (h:Stable J) (k:Stable K):Stable (fun w=>J w∧K w):=fun w w' hj hB=>⟨h w w' hj.1 hB,k w w' hj.2 hB⟩
theorem yc8 {W w:World} (h:Held W ⟨[],[]⟩ w):Below W.heap.size W w:=⟨h.os,h.tape,h.output,h.size,fun _ hk=>zpu h hk nofun⟩
section
variable {W:World} {G:Gs} {J:World→Prop} {p:Nat} {x:Obj}
theorem yc6:Stable (AllocJ W G J p x):=fun _ w' h hB=>by
 obtain ⟨w0,h1,h2,h3,h4,h5⟩:=h.out;exact ⟨w0,h1,h2,h3,zdg h4 hB h4.size,(hB.block p (zpt h5)).trans h5⟩
theorem AllocJ.get {w:World} (h:AllocJ W G J p x w):w.heap[p]?=some x:=by
 obtain ⟨w0,h1,h2,h3,h4,h5⟩:=h.out;exact h5
theorem AllocJ.keep {w:World} (hst:Stable J) (h:AllocJ W G J p x w):J w:=by
 obtain ⟨w0,h1,h2,h3,h4,h5⟩:=h.out;exact hst _ _ h1 h4
end
section
variable {P:Program} {W:World} {gs:List Nat} {J:World→Prop}
theorem yee {fid:FuncId} {args:List AV} {us:List Value} {K:Value→(World→Prop)→Prop} {α:Type} (val:α→Value) (Y:α→World→Prop) (hu:avals args=some us) (hok:fnOk P fid=true) (hst:Stable J)
  (hc:∀ w,Held W ⟨[],gs⟩ w→J w→Calls P fid us.toArray w fun e w'=>∃ y,e= .returned (val y)∧Y y w'∧Below w.heap.size w w') (hK:∀ y,K (val y) fun w=>J w∧Y y w):JmpJ P W ⟨[],gs⟩ J fid args K:=
 ⟨hok,α,val,fun y w=>J w∧Y y w,fun w us' hh hj hd=>by
  obtain rfl:=zcs hu hd
  exact (hc w hh hj).mono fun e w' ⟨y,he,hy,hB⟩=>⟨y,he,zp1 (gs1:=[]) hh (zpy hB) nofun,hst _ _ hj hB,hy⟩,hK⟩
end
structure MemT where
 g:Nat
 gs:List Nat
 G:Nat
 gm:MemP
structure MemY (y:MemT) (w:World):Prop where
 G:1≤y.G∧y.G≤4
 ok:y.gm.ok (256*y.G) y.G
 at_:ObjsAt w (y.g::y.gs) (memS 0 (256*y.G) y.G y.gm)
theorem yek (y:MemT):Stable (MemY y):=fun _ _ h hB=>⟨h.G,h.ok,zvz (zt4 _ _ _) h.at_ hB⟩
def yc5 (l:List It) (A:Option Addr) (w:World):Prop:=SlAt w w.heap.size A ((z5x 0 l).flatMap z5r)
theorem ye2 (l:List It) (A:Option Addr):Stable (yc5 l A):=fun _ _ h hB=>(h.below hB (Nat.le_refl _)).more hB.size
section
variable {W:World} {gs:List Nat} {J:World→Prop}
theorem yef {args:List AV} {K:Value→(World→Prop)→Prop} (n0 n1 n2 n3:Int) (hst:Stable J) (hu:avals args=some [ycb n0 n1 n2 n3]) (hK:∀ y:MemT,K (pV y.g) fun w=>J w∧MemY y w):JmpJ Tryz.prog W ⟨[],gs⟩ J 16 args K:=
 yee (fun y:MemT=>pV y.g) MemY hu zK hst (fun w _ _=>(ycf (w:=w) n0 n1 n2 n3).mono fun e w' ⟨G,g,gs,gm,he,hG,hgm,hU,_,hB⟩=>⟨⟨g,gs,G,gm⟩,he,⟨hG,hgm,hU⟩,hB⟩) hK
theorem yed {args:List AV} {K:Value→(World→Prop)→Prop} {b:Blk} {A1 A2 A3:Option Addr} {c1 c2 c3:Nat} {a:List Int} {y:MemT} (hb:b.ok) (hv:z9n b=true) (hBA:BlkAt W b A1 A2 A3) (ha:a.length=28) (hva:za2 a=true) (hal:∀ v,0≤v→v<28→ -1000≤getV a v∧getV a v≤1000) (hst:Stable J) (hJ:∀ w,J w→Below W.heap.size W w∧MemY y w)
  (hu:avals args=some [blkV b A1 A2 A3 c1 c2 c3,.agg (alL a).toArray,pV y.g]) (hK:∀ z:Option Addr×Nat,K (.tuple #[codV (yan b a (256*(y.G:Int)) (256*(y.G:Int)) 0) z.1 z.2,.bool true]) fun w=>J w∧yc5 (yan b a (256*(y.G:Int)) (256*(y.G:Int)) 0) z.1 w):JmpJ Tryz.prog W ⟨[],gs⟩ J 17 args K:=
 yee (fun z:Option Addr×Nat=> .tuple #[codV (yan b a (256*(y.G:Int)) (256*(y.G:Int)) 0) z.1 z.2,.bool true]) (fun z=>yc5 _ z.1) hu zK hst (fun w _ hj=>by
  obtain ⟨hB,hm⟩:=hJ w hj;have hG:=hm.G
  exact (yb9 hb hv (hBA.later hB) ha hva hal ⟨hG.1,by omega⟩ hm.at_).mono fun e w' ⟨A,cp,he,hsl,hB2⟩=>⟨(A,cp),he,hsl,hB2⟩) hK
theorem ye3 {w:World} {B:Nat} {A:Option Addr} {l:List SiteP} {p:Nat} {us:List Value} {t:TypeId} (h:SlAt w B A (l.flatMap z5r)) (hl:0<l.length) (hp:w.heap[p]?=some (.cells us.toArray t (0,0))) (hz:∀ i,Value.int .i64 i∉us):∀ b off,A=some ⟨b,off,none⟩→b≠p:=fun b off e hbp=>by
 subst hbp;have hs:=List.getElem?_eq_getElem hl;obtain ⟨b2,o2,e2,_,hc⟩:=h (0*6+0) _ (zm6 l 0 _ hs 0 zO);rw [e] at e2;injection e2 with e2;injection e2 with e3 e4;subst e3;have hc:w.cell? ⟨b,o2+(0*6+0),none⟩=some (.int .i64 (l[0]'hl).off):=hc;unfold World.cell? at hc;rw [hp] at hc;have hc:us[o2+(0*6+0)]?=some (.int .i64 (l[0]'hl).off):=(by simpa using hc);exact hz _ (List.mem_of_getElem? hc)
theorem ye4 {w w':World} {A:Option Addr} {xs:List Value} {p:Nat} (h:SlAt w w.heap.size A xs) (hg:w.grownBy w' (some p)) (hn:∀ b off,A=some ⟨b,off,none⟩→b≠p):SlAt w' w'.heap.size A xs:=fun j u hj=>by
 obtain ⟨b,off,e1,e2,e3⟩:=h j u hj;refine ⟨b,off,e1,Nat.lt_of_lt_of_le e2 hg.size,(World.cell?_of_block (hg.block b e2 fun e=>?_)).trans e3⟩;injection e with e;exact hn b off e1 e
theorem ydv {l:List It} {A:Option Addr} {p:Nat} {x:Obj} {w':World} (hl:0<(z5x 0 l).length) (hJ:∀ w,J w→yc5 l A w∧w.heap[p]?=some (.cells #[strV [],.slice none 0 0] coT (0,0))) (h:StoreJ W ⟨[],gs⟩ J p x w'):yc5 l A w'∧w'.heap[p]?=some x:=by
 obtain ⟨w,hj,hh,hg,hx⟩:=h.out;obtain ⟨h1,h2⟩:=hJ w hj
 exact ⟨ye4 h1 hg (ye3 h1 hl (us:=[strV [],.slice none 0 0]) h2 fun i hm=>by
  rcases List.mem_cons.1 hm with hm|hm
  ·cases hm
  ·rcases List.mem_cons.1 hm with hm|hm
   ·cases hm
   ·cases hm),hx⟩
theorem yfo (b:Blk) (a:List Int) (ctx size pred:Int):0<(z5x 0 (yan b a ctx size pred)).length:=by
 obtain ⟨idx,hix,_⟩:=z5u (yan b a ctx size pred) 0 6 (zqv ⟨1,0,0,0,0⟩) ⟨1,0,0,0,0⟩ rfl rfl;exact Nat.lt_of_le_of_lt (Nat.zero_le _) (List.getElem?_eq_some_iff.1 hix).1
end
theorem yc9 (l:List Int) (a b:Nat):(zeq l).extract a b=zeq ((l.drop a).take (b-a)):=by
 have h:((zeq l).extract a b).data=(zeq ((l.drop a).take (b-a))).data:=by
  apply Array.ext';rw [zet,ByteArray.data_extract,Array.toList_extract,List.extract_eq_take_drop,zet,List.map_take,List.map_drop]
 exact ByteArray.ext h
theorem yeu {P:Program} {w0:World} {G:Gs} {S:List Ow} {f:Fr} {o:Oper} {K:AV→Prop} {t:TypeId} {x y z:Operand} {q q2:IntKind} (l:List Int) (a b:Nat) (hop:o.op= .slice t x (some y) (some z) none) (ht:P.underlying t=some .string) (hx:f.ev x=one (strV l)) (hy:f.ev y=one (.int q (a:Int))) (hz:f.ev z=one (.int q2 (b:Int))) (hab:a≤b) (hb:b≤l.length) (hK:K (one (strV ((l.drop a).take (b-a))))):QRun P w0 G S f o K:=by
 refine ⟨_,hK,fun r c hf=>?_⟩;have h1:=hf.ev x;have h2:=hf.ev y;have h3:=hf.ev z;rw [hx] at h1;rw [hy] at h2;rw [hz] at h3;refine ⟨_,rfl,fun w hR=>?_⟩;have hs:(zeq l).size=l.length:=zeu l;simp [execOp,hop,zi2 h1,zi2 h2,zi2 h3,Instr.sliceAt,Instr.slice,underlying,ht,strV,Instr.sliceBounds,Instr.sliceBound,asIntOf,hs,hab,hb, ← yc9]
def cntI (k:Int):List It→Nat
 |[]=>0
 |x::l=>(match x.s with|some s=>if s.kind=k then 1 else 0|none=>0)+cntI k l
def cntS (k:Int):List SiteP→Nat
 |[]=>0
 |x::l=>(if x.kind=k then 1 else 0)+cntS k l
theorem ydm (k:Int):∀ (l:List It) (n:Nat),cntS k (z5x n l)=cntI k l
 |[],_=>rfl
 |x::l,n=>by
  unfold z5x cntI
  cases hx:x.s with
  |none=>rw [ydm k l (n+1),Nat.zero_add]
  |some s=>show (if s.kind=k then 1 else 0)+cntS k (z5x (n+1) l)=_;rw [ydm k l (n+1)]
theorem ydn (k:Int) (x:SiteP):∀ l:List SiteP,cntS k (l++[x])=cntS k l+(if x.kind=k then 1 else 0)
 |[]=>by show (if x.kind=k then 1 else 0)+0=0+_;omega
 |y::l=>by show _+cntS k (l++[x])=(_+cntS k l)+_;rw [ydn k x l,Nat.add_assoc]
theorem ydk (k:Int) (m:List It):∀ l:List It,cntI k (l++m)=cntI k l+cntI k m
 |[]=>(Nat.zero_add _).symm
 |x::l=>by show _+cntI k (l++m)=(_+cntI k l)+_;rw [ydk k m l,Nat.add_assoc]
theorem ydt {k:Int} {E:Em}:∀ {l:List It},SitesOk E 0 l→cntI k l=0
 |[],_=>rfl
 |x::l,h=>by
  unfold cntI
  cases hx:x.s with
  |none=>rw [ydt (E:=E) (l:=l) fun it hm=>h it (List.mem_cons_of_mem _ hm)]
  |some s=>have:=(h x (List.mem_cons_self ..) s hx).index;omega
section
variable {E:Em} {c k:Int}
theorem ydu:cntI c [zqv (skIn E 2 k)]=if 2=c then 1 else 0:=rfl
theorem ydq (hc:c=1∨c=5∨c=6) (n:Int):cntI c (exE E n)=0:=by
 unfold exE;rw [ydk,show cntI c (svE E)=0 from ydt (zvi E (E:=E) 19)];show 0+((if (4:Int)=c then 1 else 0)+0)=0;rw [if_neg zO]
theorem ydo (hc:c=1∨c=5∨c=6) (o:BOp):cntI c (accE E k o)=0:=by
 have h2:cntI c [zqv (skIn E 2 k)]=0:=by rw [ydu,if_neg zO]
 unfold accE
 split
 ·exact h2
 ·rw [ydk,ydk,ydk,ydk,ydt (zvh E (E:=E) _ _),ydt (zva E (E:=E) o),ydt (zvb (E:=E) _ _)]
  have h3:cntI c [iI 35 13 12 2,zqv (skIn E 2 k)]=0:=by show 0+(cntI c [zqv (skIn E 2 k)])=0;rw [h2]
  rw [h3]
  split
  ·rw [ydk,ydt (zvh E (E:=E) _ _)]
   show 0+(0+(0+(0+(0+((if (3:Int)=c then 1 else 0)+0)))))=0;rw [if_neg zO]
  ·rw [ydk,ydt (zvd E (E:=E) _)]
   show 0+(0+(0+(0+(((if (3:Int)=c then 1 else 0)+0)+0))))=0;rw [if_neg zO]
theorem yds {l:List It} (h:(l.all fun it=>it.s.isNone)=true):cntI c l=0:=ydt (E:=⟨[],0,0,0,0⟩) (zvf h)
theorem ydr (hc:c=1∨c=5∨c=6) (o:BOp):cntI c (znw E k o)=if o.code=25∧c≠1 then 1 else 0:=by
 have h2:cntI c [zqv (skIn E 2 k)]=0:=(by rw [ydu,if_neg zO]);have hrd:∀ v s,cntI c (rdE E v s)=0:=fun v s=>ydt (zvh E (E:=E) v s);have hdn:∀ v,cntI c (dnE E v)=0:=fun v=>ydt (zvd E (E:=E) v);have hsv:cntI c (svE E)=0:=ydt (zvi E (E:=E) 19);have hcon:∀ d n,cntI c (conE d n)=0:=fun d n=>ydt (zvb (E:=E) d n);have hcon2:∀ d n,cntI c (con2 d n)=0:=fun d n=>ydt (zvc (E:=E) d n);have hone:∀ op d a n,cntI c [iI op d a n]=0:=fun op d a n=>rfl;unfold znw;by_cases c1:o.code=1
 ·rw [if_pos c1,if_neg zO,ydk,hcon,hdn]
 rw [if_neg c1];by_cases c2:o.code=2
 ·rw [if_pos c2,if_neg zO,ydk,ydk,hrd,yds rfl,hdn]
 rw [if_neg c2];by_cases c3:o.code=12
 ·rw [if_pos c3,if_neg zO,ydk,ydk,ydk,hrd,hrd,yds rfl,hdn]
 rw [if_neg c3];by_cases c4:o.code=13
 ·rw [if_pos c4,if_neg zO,ydk,ydk,ydk,hrd,hrd,yds rfl,hdn]
 rw [if_neg c4];by_cases c5:3≤o.code∧o.code≤15
 ·rw [if_pos c5,if_neg zO,ydk,ydk,ydk,hrd,hrd,yds rfl,hdn]
 rw [if_neg c5];by_cases c6:16≤o.code∧o.code≤19
 ·rw [if_pos c6,if_neg zO,ydo hc]
 rw [if_neg c6];by_cases c7:o.code=21
 ·rw [if_pos c7,if_neg zO,ydk,hrd]
  show 0+(0+cntI c [zqv (skIn E 2 k)])=0;rw [h2]
 rw [if_neg c7];by_cases c8:o.code=22
 ·rw [if_pos c8,if_neg zO,h2]
 rw [if_neg c8];by_cases c9:o.code=23
 ·rw [if_pos c9,if_neg zO,ydk,ydk,hrd,hone,ydq hc]
 rw [if_neg c9];by_cases c10:o.code=24
 ·rw [if_pos c10,if_neg zO,ydq hc]
 rw [if_neg c10];by_cases c11:o.code=25
 ·rw [if_pos c11,ydk,ydk,ydk,ydk,ydk,hrd,yds rfl,hsv,hone,hcon2]
  show 0+(0+(0+(0+(0+(0+((if (6:Int)=c then 1 else 0)+((if (5:Int)=c then 1 else 0)+0)))))))=_;rcases hc with rfl|rfl|rfl
  ·rw [if_neg zO,if_neg zO,if_neg zO]
  ·rw [if_neg zO,if_pos rfl,if_pos ⟨c11,by omega⟩]
  ·rw [if_pos rfl,if_neg zO,if_pos ⟨c11,by omega⟩]
 rw [if_neg c11,if_neg zO]
 rfl
theorem ydp (hc:c=1∨c=5∨c=6):∀ (l:List BOp) (s s':Ck) (k:Int),zf8 s l=some s'→cntI c (zgk E k l)=if l.getLast?.map (·.code)=some 25∧c≠1 then 1 else 0
 |[],_,_,_,_=>by rw [if_neg zS];rfl
 |o::l,s,s',k,h=>by
  unfold zf8 at h
  split at h
  ·rename_i s1 hnx
   have ih:=ydp hc l s1 s' (ztp o k) h;show cntI c (znw E (ztp o k) o++zgk E (ztp o k) l)=_;rw [ydk,ydr hc,ih]
   match l with
   |[]=>simp
   |p::l=>
    have h25:o.code≠25:=fun h25=>by
     unfold zf1 at hnx;by_cases hq:(znn o&&zyv s o (p::l).isEmpty (match p::l with|[]=>false|p::_=>p.code==24))=true
     ·rw [Bool.and_eq_true] at hq
      have:=hq.2;unfold zyv at this;rw [Bool.and_eq_true,Bool.and_eq_true] at this;have:=this.1.1;unfold zjq at this;rw [h25] at this;exact absurd this nF
     ·rw [if_neg hq] at hnx;cases hnx
    rw [if_neg (c:=o.code=25∧c≠1) (fun h=>h25 h.1),Nat.zero_add,List.getLast?_cons_cons]
  ·cases h
end
theorem yfl {b:Blk} {a:List Int} {ctx size pred:Int} {c:Int} (hc:c=1∨c=5∨c=6) (hv:z9n b=true):cntI c (yan b a ctx size pred)=if c=1 then 1 else if b.ops.getLast?.map (·.code)=some 25 then 1 else 0:=by
 obtain ⟨hh,s,hs,hm⟩:=z9y.1 hv;unfold yan;rw [ydk,ydp hc b.ops _ s 0 hs];unfold entE;rw [ydk,ydk,ydt (zvc (E:=emE b a size pred) _ _),ydt (zve (E:=emE b a size pred) _ 19)];show 0+((0+(0+(0+(0+((if (1:Int)=c then 1 else 0)+(0+0))))))+0)+_=_;by_cases h1:c=1
 ·subst h1;simp
 ·rw [if_neg zO,if_neg h1]
  simp [h1]
def ConAt (p:Int) (l:List It):Prop:=∀ (k:Nat) (it:It) (s:Sk),l[k]?=some it→it.s=some s→s.kind=6→∃ j:Nat,k=j+3∧l[j]?=some (iI 41 11 0 (p/1024))∧l[j+1]?=some (iI 18 11 11 (p%1024))
theorem ConAt.app {p:Int} {l m:List It} (h1:ConAt p l) (h2:ConAt p m):ConAt p (l++m):=fun k it s hk hs h6=>by
 rcases Nat.lt_or_ge k l.length with h|h
 ·rw [List.getElem?_append_left h] at hk
  obtain ⟨j,rfl,e1,e2⟩:=h1 k it s hk hs h6;exact ⟨j,rfl,by rw [List.getElem?_append_left zO];exact e1,by rw [List.getElem?_append_left zO];exact e2⟩
 ·rw [List.getElem?_append_right h] at hk
  obtain ⟨j,hj,e1,e2⟩:=h2 _ it s hk hs h6;refine ⟨j+l.length,by omega,?_,?_⟩
  ·rw [List.getElem?_append_right zO,Nat.add_sub_cancel];exact e1
  ·rw [List.getElem?_append_right zO,show j+l.length+1-l.length=j+1 by omega];exact e2
theorem ConAt.none {p:Int} {l:List It} (h:cntI 6 l=0):ConAt p l:=fun k it s hk hs h6=>by
 exfalso
 have:∀ (l:List It) (k:Nat),l[k]?=some it→cntI 6 l≠0:=by
  intro l
  induction l with
  |nil=>intro k hk;simp at hk
  |cons x l ih=>
   intro k hk h0;unfold cntI at h0
   cases k with
   |zero=>
    have:x=it:=(by simpa using hk);subst this;rw [hs] at h0;dsimp only at h0;rw [if_pos h6] at h0;omega
   |succ k=>exact ih k (by simpa using hk) zO
 exact this l k hk h
theorem ydx {E:Em} {k:Int} (o:BOp):ConAt E.pred (znw E k o):=by
 by_cases c11:o.code=25
 ·have e:znw E k o=rdE E o.a 10++([i3 1 10 (rrE E o.a 10) 0]++(svE E++([iI 25 10 15 76]++(con2 11 E.pred++[iI 33 10 11 2,zqv ⟨6,0,E.pred,0,12⟩,zqv ⟨5,0,0,0,0⟩])))):=by
   unfold znw;rw [c11]
   rfl
  rw [e];refine .app (.none (ydt (zvh E (E:=E) _ _))) (.app (.none rfl) (.app (.none (ydt (zvi E (E:=E) 19))) (.app (.none rfl) ?_)));intro q it s hk hs h6
  match q,hk with
  |0,hk=>cases (show some (iI 41 11 0 (E.pred/1024))=some it from hk);cases hs
  |1,hk=>cases (show some (iI 18 11 11 (E.pred%1024))=some it from hk);cases hs
  |2,hk=>cases (show some (iI 33 10 11 2)=some it from hk);cases hs
  |3,_=>exact ⟨0,rfl,rfl,rfl⟩
  |4,hk=>
   cases (show some (zqv ⟨5,0,0,0,0⟩)=some it from hk)
   injection hs with hs;subst hs;exact absurd h6 (show ¬(5:Int)=6 by decide)
  |q+5,hk=>cases (show none=some it from hk)
 ·exact .none (by rw [ydr (.inr (.inr rfl)),if_neg fun h=>c11 h.1])
theorem ydw {E:Em}:∀ (l:List BOp) (k:Int),ConAt E.pred (zgk E k l)
 |[],_=> .none rfl
 |_::l,_=> .app (ydx _) (ydw l _)
theorem yfm (b:Blk) (a:List Int) (ctx size pred:Int):ConAt pred (yan b a ctx size pred):=by
 refine .app (.none ?_) (ydw (E:=emE b a size pred) _ _);unfold entE;rw [ydk,ydk,ydt (zvc (E:=emE b a size pred) _ _),ydt (zve (E:=emE b a size pred) _ 19)]
 rfl
theorem yfq:∀ {ws:List Int} {k:Nat} {x:Int},ws[k]?=some x→∃ l,(ya4 ws).drop (4*k)=putL x++l∧∀ y,ws[k+1]?=some y→∃ l',l=putL y++l'
 |[],k,x,h=>by simp at h
 |y::ws,0,x,h=>by
  have h:y=x:=(by simpa using h);subst h;refine ⟨ya4 ws,rfl,fun z hz=>?_⟩
  cases ws with
  |nil=>simp at hz
  |cons u ws=>
   have hz:u=z:=(by simpa using hz);subst hz;exact ⟨ya4 ws,rfl⟩
 |y::ws,k+1,x,h=>by
  obtain ⟨l,e1,e2⟩:=yfq (ws:=ws) (k:=k) (x:=x) (by simpa using h);refine ⟨l,?_,fun z hz=>e2 z (by simpa using hz)⟩;show (putL y++ya4 ws).drop (4*(k+1))=_;have hl:(putL y).length=4:=zzj _ _;rw [show 4*(k+1)=(putL y).length+4*k by rw [hl];omega, ← List.drop_drop,List.drop_left,e1]
theorem yes (x:Int):(putL x).length=4:=zzj _ _
theorem yfi {l:List It} {k:Nat} {it:It} (h:l[k]?=some it):((z8u l).drop (4*k)).take 4=putL (yaz it.i):=by
 obtain ⟨m,e,_⟩:=yfq (ws:=l.map fun it=>yaz it.i) (k:=k) (x:=yaz it.i) (by rw [List.getElem?_map,h];rfl);unfold z8u;rw [e,List.take_append_of_le_length (by rw [yes];omega),List.take_of_length_le (by rw [yes];omega)]
theorem yfh {l:List It} {k:Nat} {it iu:It} (h:l[k]?=some it) (h2:l[k+1]?=some iu):((z8u l).drop (4*k)).take 8=putL (yaz it.i)++putL (yaz iu.i):=by
 obtain ⟨m,e,hm⟩:=yfq (ws:=l.map fun it=>yaz it.i) (k:=k) (x:=yaz it.i) (by rw [List.getElem?_map,h];rfl);obtain ⟨m',rfl⟩:=hm (yaz iu.i) (by rw [List.getElem?_map,h2];rfl);unfold z8u;rw [e, ← List.append_assoc,List.take_append_of_le_length (by rw [List.length_append,yes,yes];omega),List.take_of_length_le (by rw [List.length_append,yes,yes];omega)]
structure SiteGood (b:Blk) (a:List Int) (tx:List Int) (x:SiteP):Prop where
 kind:1≤x.kind∧x.kind≤6
 live:x.live=0∨x.live=(zs4 a 19:Nat)
 index:0≤x.index∧x.index<(b.at_.length:Int)
 outer:¬(x.kind=2∨x.kind=3)→x.live=0∧x.index=0
 target:x.kind≠4→x.kind≠6→x.target=0
 word:word x.target
 con0:x.kind≠6→x.const=0
 at_:∃ k:Nat,x.off=((4*k:Nat):Int)∧4*k+4≤tx.length∧(x.kind≠3→(tx.drop (4*k)).take 4=unL)∧(x.kind=3→∃ i:QI,z9o i=true∧i.ok∧23≤i.op∧i.op≤26∧(tx.drop (4*k)).take 4=putL (yaz i))
 con:x.kind=6→x.target=0∧∃ k:Nat,x.const=((4*k:Nat):Int)∧4*k+8≤tx.length∧(tx.drop (4*k)).take 8=z8w (zgz 11 0)
theorem yfe {E:Em} {k0:Int} {o:BOp}:∀ it∈znw E k0 o,∀ s,it.s=some s→s.kind=6→s.target=E.pred:=by
 by_cases c11:o.code=25
 ·have e:znw E k0 o=(rdE E o.a 10++([i3 1 10 (rrE E o.a 10) 0]++(svE E++([iI 25 10 15 76]++(con2 11 E.pred++[iI 33 10 11 2])))))++[zqv ⟨6,0,E.pred,0,12⟩,zqv ⟨5,0,0,0,0⟩]:=by
   unfold znw;rw [c11];simp
  rw [e];intro it hm s hs h6;rcases List.mem_append.1 hm with hm|hm
  ·exfalso
   have h0:cntI 6 (rdE E o.a 10++([i3 1 10 (rrE E o.a 10) 0]++(svE E++([iI 25 10 15 76]++(con2 11 E.pred++[iI 33 10 11 2])))))=0:=by
    refine ydt (E:=E) (.app (zvh E _ _) (.app (zvf rfl) (.app (zvi E 19) (.app (zvg _ _ _ _) (.app (zvc _ _) (zvg 33 10 11 2))))))
   obtain ⟨q,hq⟩:=List.mem_iff_getElem?.1 hm;obtain ⟨j,_,e1,_⟩:=ConAt.none (p:=0) h0 q it s hq hs h6;obtain ⟨j',_,e1',_⟩:=ConAt.none (p:=1024) h0 q it s hq hs h6;have:j'=j:=(by omega);subst this;rw [e1] at e1';have:=congrArg (fun x:Option It=>x.map (·.i.imm)) e1';exact absurd (Option.some.inj this) (show ¬(0:Int)/1024=1024/1024 by decide)
  ·rcases List.mem_cons.1 hm with rfl|hm
   ·injection hs with hs;subst hs;rfl
   ·rw [List.mem_singleton.1 hm] at hs
    injection hs with hs;subst hs;exact absurd h6 (show ¬(5:Int)=6 by decide)
 ·intro it hm s hs h6
  have h0:cntI 6 (znw E k0 o)=0:=(by rw [ydr (.inr (.inr rfl)),if_neg fun h=>c11 h.1]);obtain ⟨q,hq⟩:=List.mem_iff_getElem?.1 hm;exfalso;obtain ⟨j,_,e1,_⟩:=ConAt.none (p:=0) h0 q it s hq hs h6;obtain ⟨j',_,e1',_⟩:=ConAt.none (p:=1024) h0 q it s hq hs h6;have:j'=j:=(by omega);subst this;rw [e1] at e1';have:=congrArg (fun x:Option It=>x.map (·.i.imm)) e1';exact absurd (Option.some.inj this) (show ¬(0:Int)/1024=1024/1024 by decide)
theorem yff {E:Em}:∀ (l:List BOp) (k:Int),∀ it∈zgk E k l,∀ s,it.s=some s→s.kind=6→s.target=E.pred
 |[],_,it,hm,_,_,_=>absurd hm (List.not_mem_nil)
 |o::l,k,it,hm,s,hs,h6=>by
  rcases List.mem_append.1 hm with hm|hm
  ·exact yfe it hm s hs h6
  ·exact yff l _ it hm s hs h6
theorem yfg {b:Blk} {a:List Int} {ctx size pred:Int}:∀ it∈yan b a ctx size pred,∀ s,it.s=some s→s.kind=6→s.target=pred:=fun it hm s hs h6=>by
 rcases List.mem_append.1 hm with hm|hm
 ·exfalso
  unfold entE at hm;rcases List.mem_append.1 hm with hm|hm
  ·have:=(zvc (E:=emE b a size pred) (N:=0) _ _) it hm s hs;have:=this.index;omega
  ·rcases List.mem_append.1 hm with hm|hm
   ·have:it.s=none∨it.s=some ⟨1,0,0,0,0⟩:=by
     simp only [List.mem_cons,List.not_mem_nil,or_false] at hm;rcases hm with rfl|rfl|rfl|rfl|rfl|rfl
     ·exact .inl rfl
     ·exact .inl rfl
     ·exact .inl rfl
     ·exact .inl rfl
     ·exact .inr rfl
     ·exact .inl rfl
    rcases this with h|h
    ·rw [h] at hs;cases hs
    ·rw [h] at hs;injection hs with hs;subst hs;exact absurd h6 (show ¬(1:Int)=6 by decide)
   ·have:=(zve (E:=emE b a size pred) (N:=0) _ 19) it hm s hs;have:=this.index;omega
 ·exact yff _ _ it hm s hs h6
theorem yfn {b:Blk} {a:List Int} {ctx size:Int} (hb:b.ok) (hv:z9n b=true) (hit:AllIt (yan b a ctx size 0)):∀ (i:Nat) (x:SiteP),(z5x 0 (yan b a ctx size 0))[i]?=some x→SiteGood b a (z8u (yan b a ctx size 0)) x:=fun i x hx=>by
 have hbo:=(yar (a:=a) (ctx:=ctx) (size:=size) hb hv yaw).at_ i x hx;obtain ⟨k,it,sk,h1,h2,rfl⟩:=z54 _ 0 i x hx;have hm:=List.mem_of_getElem? h1;have hsk:=yav (ctx:=ctx) hb hv yaw it hm sk h2;have htl:=z8v (yan b a ctx size 0);rw [Nat.zero_add] at*;have hoff:(z5s k sk).off=((4*k:Nat):Int):=(by show 4*(k:Int)=_;omega);refine ⟨hsk.kind,hsk.live,hsk.index,hsk.outer,hsk.tgt0,hsk.target,fun h=>?_,⟨k,hoff,by rw [hoff] at hbo;omega,fun h3=>?_,fun h3=>?_⟩,fun h6=>⟨yfg it hm sk h2 h6,?_⟩⟩
 ·have h:sk.kind≠6:=h
  show (if sk.back=0 then 0 else _)=0;rw [if_pos (by rw [hsk.back,if_neg h])]
 ·rw [yfi h1,hsk.ins h3];rfl
 ·exact ⟨it.i,(hit it hm).1,(hit it hm).2,(hsk.ins3 h3).1,(hsk.ins3 h3).2,yfi h1⟩
 ·have h6:sk.kind=6:=h6
  obtain ⟨j,hj,e1,e2⟩:=yfm b a ctx size 0 k it sk h1 h2 h6
  have hk:(z5s k sk).const=((4*j:Nat):Int):=by
   show (if sk.back=0 then 0 else 4*(k:Int)-sk.back)=_;rw [hsk.back,if_pos h6,if_neg (by decide)];omega
  refine ⟨j,hk,by rw [hk] at hbo;omega,?_⟩;rw [yfh e1 e2]
  rfl
theorem yd5 {x:Int} (hx:word x):getN (putL x) 4=x:=by
 show 0+zei x 0*2^(8*0)+zei x 1*2^(8*1)+zei x 2*2^(8*2)+zei x 3*2^(8*3)=x;have e0:zei x 0=x/1%256:=rfl;have e1:zei x 1=x/256%256:=rfl;have e2:zei x 2=x/65536%256:=rfl;have e3:zei x 3=x/16777216%256:=rfl;have p0:(2:Int)^(8*0)=1:=rfl;have p1:(2:Int)^(8*1)=256:=rfl;have p2:(2:Int)^(8*2)=65536:=rfl;have p3:(2:Int)^(8*3)=16777216:=rfl;rw [e0,e1,e2,e3,p0,p1,p2,p3];unfold word at hx;omega
theorem yet {P:Program} {w0:World} {G:Gs} {S:List Ow} {f:Fr} {o:Oper} {K:AV→Prop} {t t':TypeId} {x y:Operand} (l:List Int) (hop:o.op= .binOp .neq t x y t') (hx:f.ev x=one (strV l)) (hy:f.ev y=one (strV l)) (hk:K (one (.bool false))):QRun P w0 G S f o K:=by
 refine ⟨_,hk,fun r act hf=>⟨_,ziz _ _,fun w hR=>?_⟩⟩;have h1:=hf.ev x;have h2:=hf.ev y;rw [hx] at h1;rw [hy] at h2;simp [execOp,hop,zi2 h1,zi2 h2,strV,binOp,Op.stringOp,eqGuard]
section
variable {w:World}
end
end Go.Proofs.YtocafomnnkmjfaaGreat
