import Derived.Test.YtocafomnnkmjfaaGreatK38
import Derived.Test.YtocafomnnkmjfaaGreatMErrorsC
set_option maxRecDepth 100000
set_option maxHeartbeats 8000000
namespace Go.Proofs.YtocafomnnkmjfaaGreat
open Go.RowKit
def errE (b:Blk) (a:List Int) (size:Int):Int:=if z9k b=true then (if za2 a=true∧0≤size∧size≤1048576 then 0 else 1) else 31
theorem yb4 (x1:Value) (a:List Int):avals [.p (.agg (List.map CV.v (alL a))),.p (.c (.v x1))]=some [.agg (alL a).toArray,x1]:=by
 simp only [avals,AV.val,Pc.val,z9h,CV.val]
theorem ydv {P:Program} {w0:World} {G:Gs} {S:List Ow} {f:Fr} {o:Oper} {K:AV→Prop} {t t':TypeId} {x y:Operand} (l m:List Int) (hlm:l.length≠m.length) (hop:o.op= .binOp .neq t x y t') (hx:f.ev x=one (strV l)) (hy:f.ev y=one (strV m)) (hk:K (one (.bool true))):QRun P w0 G S f o K:=by
 refine ⟨_,hk,fun r act hf=>⟨_,zix _ _,fun w hR=>?_⟩⟩;have h1:=hf.ev x;have h2:=hf.ev y;rw [hx] at h1;rw [hy] at h2;simp [execOp,hop,zi0 h1,zi0 h2,strV,binOp,Op.stringOp,eqGuard];intro h;rw [ByteArray.toList_eq,ByteArray.toList_eq,zer,zer] at h;have h3:=congrArg List.length h;rw [List.length_map,List.length_map] at h3;exact hlm h3
theorem ydt {P:Program} {w0:World} {G:Gs} {S:List Ow} {f:Fr} {o:Oper} {K:AV→Prop} {t t':TypeId} {x y:Operand} (a b:Bool) (hop:o.op= .binOp .eql t x y t') (ht:P.underlying t=some .bool) (hx:f.ev x=one (.bool a)) (hy:f.ev y=one (.bool b)) (hk:K (one (.bool (a==b)))):QRun P w0 G S f o K:=by
 refine ⟨_,hk,fun r act hf=>⟨_,zix _ _,fun w hR=>?_⟩⟩;have h1:=hf.ev x;have h2:=hf.ev y;rw [hx] at h1;rw [hy] at h2;simp [execOp,hop,zi0 h1,zi0 h2,eqGuard,run_eql_bool w t a b ht]
theorem yce {w w':World} {b:Nat} {xs:List Value} (h:zac w Gs.nil b 0 xs) (hB:Below w.heap.size w w'):zac w' Gs.nil b 0 xs:=
 ⟨Nat.lt_of_lt_of_le h.1 hB.size,h.2.1,fun j u hj=>(World.cell?_of_block (w:=w) (hB.block b h.1)).trans (h.2.2 j u hj)⟩
section
variable {w:World}
theorem yck (b:Blk) (A1 A2 A3:Option Addr) (c1 c2 c3:Nat) (a:List Int) (ctx size:Int) (hb:b.ok) (hBA:BlkAt w b A1 A2 A3) (ha:a.length=28) (hctx:word ctx) (hal:∀ v,0≤v→v<28→ -1000≤getV a v∧getV a v≤1000):
  Calls Tryz.prog 25 #[blkV b A1 A2 A3 c1 c2 c3,.agg (alL a).toArray,.int .u32 ctx,.int .i64 size] w fun e w'=>∃ (tx:List Int) (A:Option Addr) (n c:Nat),e= .returned (.tuple #[.agg #[strV tx,.slice A n c],.int .i64 (errE b a size)])∧((errE b a size=0∧tx≠[])∨(errE b a size≠0∧tx=[]∧n=0))∧Below w.heap.size w w':=by
 cases hv:z9k b with
 |false=>
  have he:errE b a size=31:=by unfold errE;rw [hv];rfl
  rw [he]
  exact (ycm b A1 A2 A3 c1 c2 c3 a ctx size hb hv hBA).mono fun e w' ⟨h1,h2⟩=>⟨[],none,0,0,h1,.inr ⟨by decide,rfl,rfl⟩,h2⟩
 |true=>
  by_cases hg:za2 a=true∧0≤size∧size≤1048576
  ·have he:errE b a size=0:=by unfold errE;rw [if_pos hv,if_pos hg]
   rw [he]
   refine (zjh b A1 A2 A3 c1 c2 c3 a ctx size hb hv hBA.pages hBA.ops ha hg.1 hctx hg.2 hal).mono fun e w' ⟨⟨A,c,h1,_⟩,h2⟩=>⟨_,A,_,c,h1,.inl ⟨rfl,fun h=>?_⟩,h2⟩
   have h8:=yaq b a ctx size 0;have htl:=z8s (yak b a ctx size 0);rw [h] at htl;simp at htl;omega
  ·have he:errE b a size=1:=by unfold errE;rw [if_pos hv,if_neg hg]
   rw [he]
   refine (ycl b A1 A2 A3 c1 c2 c3 a ctx size hb hv hBA ha ?_).mono fun e w' ⟨h1,h2⟩=>⟨[],none,0,0,h1,.inr ⟨by decide,rfl,rfl⟩,h2⟩
   cases hva:za2 a with
   |false=>exact .inl rfl
   |true=>
    right
    by_cases h0:size<0
    ·exact .inl h0
    ·right
     by_cases h1:size>1048576
     ·exact h1
     ·exact absurd ⟨hva,by omega,by omega⟩ hg
theorem ycq (A:Option Addr) (n c:Nat) (xs:List Int) (q0 q1 q2 m0 m1 m2:Int) (hs:SlAt w w.heap.size A (xs.map intV)) (hl:xs.length=n):
  Calls Tryz.prog 6 #[.slice A n c,.agg #[intV q0,intV q1,intV q2],.agg #[intV m0,intV m1,intV m2]] w fun e w'=>e= .returned (.bool true)∧Below w.heap.size w w':=by
 refine zfe [.slice A n c,.agg #[intV q0,intV q1,intV q2],.agg #[intV m0,intV m1,intV m2]] Tryz.func6 Tryz.ntmps6 rfl zS ?_
 obtain ⟨a0,ha0⟩:∃ a0,a0=zvk:=⟨_,rfl⟩
 have hal0:AlR a0 0:=(by rw [ha0];exact zvp);have hl0:=zq1 hal0.len;refine z3m ?_;(conv=>whnf);refine z3j fun r w1 hR=>?_;obtain ⟨p4,us,e11,e12,e13⟩:=hR.own 0 _ rfl;obtain rfl:=ziq (us:=[intV q0,intV q1,intV q2]) e13;obtain ⟨p5,us,f11,f12,f13⟩:=hR.own 1 _ rfl;obtain rfl:=ziq (us:=[intV m0,intV m1,intV m2]) f13;have hB1:=hR.toBelow;refine ⟨z6h [(0,.slice A n c),(4,pV p4),(5,pV p5)],fun a' hf=>z6q ⟨z6o hf rfl,z6m hf 4 rfl e11,z6m hf 5 rfl f11,trivial⟩,?_⟩;have hs1:=z6d hs hB1;clear hR e11 e13 f11 f13;refine z3m ?_;(conv=>whnf);refine ze0 (x:= .bool true) (xs:=[]) rfl zK (fun r w' hR=>z2w) ?_;(conv=>whnf);refine z3g (α:={y:Blk//TurnOk y}) (fun y=>[(5,one (pV p5)),(7,one (.bool true)),(8,.p (.c (.ref 3 0)))]) (fun y=>yb5 y.1++[.cells 28 [.row 0,.row 1,.row 2]]) ?_ fun y=>?_
 ·refine z3q ?_
  refine yd1 (.q 0 (.q 2 (.alt 1 (.alt 3 (.alt 4 (.alt 5 .done .no) .no) (.alt 4 (.alt 3 (.alt 5 .done .no) .no) .no)) (.alt 4 (.alt 1 (.alt 3 (.alt 5 .done .no) .no) .no) .no)))) mixed zK zK ?_;(conv=>whnf);refine ⟨_,zd0 e12,rfl,?_⟩;(conv=>whnf);refine ⟨?_,?_,trivial⟩
  ·conv=>whnf
   refine yb6 MadeOk zK (fun r w' us hR hd=>?_) fun b hb=>?_
   ·obtain rfl:=zcs (xs:=[.slice A n c]) rfl hd
    exact yc2 A n c xs w' (z6d hs1 hR.toBelow) hl (Nat.zero_le n)
   (conv=>whnf);refine ⟨?_,?_,trivial⟩
   ·conv=>whnf
    refine ycb 0 1 2 b q0 q1 q2 rfl rfl rfl hb fun y hy=>?_;(conv=>whnf);refine ⟨?_,trivial⟩;(conv=>whnf);refine ⟨?_,trivial⟩;(conv=>whnf);exact zb8 ⟨y,hy⟩ (zj3 [3,4,5,6] Tn (aI ((Exists.intro _ (aI rfl (aI rfl (aI rfl (aI rfl rfl)))))) (aI ((Exists.intro _ (aI rfl (aI rfl (aI rfl (aI rfl rfl)))))) (aI ((Exists.intro _ (aI rfl (aI rfl (aI rfl (aI rfl rfl)))))) (aI ((Exists.intro _ (aI rfl (aI rfl (Or.inl rfl))))) trivial)))) rfl rfl rfl rfl rfl)
   ·conv=>whnf
    refine ⟨?_,trivial⟩;(conv=>whnf);refine ycb 0 1 2 b q0 q1 q2 rfl rfl rfl hb fun y hy=>?_;(conv=>whnf);refine ⟨?_,trivial⟩;(conv=>whnf);exact zb8 ⟨y,hy⟩ (zj3 [4,5,6,3] Tn (aI ((Exists.intro _ (aI rfl (aI rfl (aI rfl (aI rfl rfl)))))) (aI ((Exists.intro _ (aI rfl (aI rfl (aI rfl (aI rfl rfl)))))) (aI ((Exists.intro _ (aI rfl (aI rfl (aI rfl (aI rfl rfl)))))) (aI ((Exists.intro _ (aI rfl (aI rfl (Or.inl rfl))))) trivial)))) rfl rfl rfl rfl rfl)
  ·conv=>whnf
   refine ⟨?_,trivial⟩;(conv=>whnf);refine yb6 MadeOk zK (fun r w' us hR hd=>?_) fun b hb=>?_
   ·obtain rfl:=zcs (xs:=[.slice A n c]) rfl hd
    exact yc2 A n c xs w' (z6d hs1 hR.toBelow) hl (Nat.zero_le n)
   (conv=>whnf);refine ⟨?_,trivial⟩;(conv=>whnf);refine ycb 1 2 3 b q0 q1 q2 rfl rfl rfl hb fun y hy=>?_;(conv=>whnf);refine ⟨?_,trivial⟩;(conv=>whnf);exact zb8 ⟨y,hy⟩ (zj3 [4,5,6,0] Tn (aI ((Exists.intro _ (aI rfl (aI rfl (aI rfl (aI rfl rfl)))))) (aI ((Exists.intro _ (aI rfl (aI rfl (aI rfl (aI rfl rfl)))))) (aI ((Exists.intro _ (aI rfl (aI rfl (aI rfl (aI rfl rfl)))))) (aI ((Exists.intro _ (aI rfl (aI rfl (Or.inl rfl))))) trivial)))) rfl rfl rfl rfl rfl)
 obtain ⟨b,hb⟩:=y;dsimp only;refine z3j fun r w2 hR=>?_;obtain ⟨p8,A1,c1,A2,c2,A3,c3,b81,b82,s1,s2,s3,_,_⟩:=ydo hR 3 0 1 2 b rfl rfl rfl rfl;have hB12:=hR.toBelow;have hB2:=zdg hB1 hB12 hB1.size
 have hBA2:BlkAt w2 b A1 A2 A3:=⟨s1,s2,s3⟩
 have f22:=(hB12.block p5 (zpr f12)).trans f12;refine ⟨z6h [(5,pV p5),(7,.bool true),(8,pV p8)],fun a hf=>z6q ⟨z6o hf rfl,z6o hf rfl,z6m hf 8 rfl b81,trivial⟩,?_⟩;clear hR b81 hs1 s1 s2 s3 hB1 hB12 f12 e12;refine z3m ?_;(conv=>whnf);refine ze0 (x:= .agg (alL zvk).toArray) (xs:=[]) rfl zK (fun r w' hR=>zvs w') ?_;rw [← ha0];(conv=>whnf);erw [zdl (l:=List.map CV.v (alL a0)) (n:=28) hl0];(conv=>whnf);rw [zwi];(conv=>whnf);erw [show Nat.ble (0+(List.map CV.v (alL a0)).length) (List.map CV.v (alL (List.replicate 28 0))).length=true from Nat.ble_eq_true_of_le (by rw [hl0];decide)];(conv=>whnf);erw [z36 (l:=List.map CV.v (alL (List.replicate 28 0))) (m:=List.map CV.v (alL a0)) (by rw [hl0];rfl)];refine z3m ?_;(conv=>whnf);refine z0e (size:=1) p5 0 3 1 rfl rfl rfl rfl rfl rfl zO zO ?_;(conv=>whnf);refine ⟨_,zd1 f22 rfl,?_⟩;(conv=>whnf);refine ze0 (x:=intV (m1%28)) (xs:=[intV m1,intV 28]) rfl zK (fun r w' hR=>yc4 m1 28 w' zO) ?_
 obtain ⟨v,hv⟩:∃ v,v=m1%28:=⟨_,rfl⟩
 have hv28:0≤v∧v<28:=by omega
 rw [← hv]
 conv=>whnf
 refine z3m ?_
 conv=>whnf
 refine z0e (size:=1) p5 0 3 0 rfl rfl rfl rfl rfl rfl zO zO ?_
 conv=>whnf
 refine ⟨_,zd1 f22 rfl,?_⟩
 conv=>whnf
 refine ze0 (x:=intV (m0%14)) (xs:=[intV m0,intV 14]) rfl zK (fun r w' hR=>yc4 m0 14 w' zO) ?_
 conv=>whnf
 refine ⟨m0%14-2,wr64 zO,?_⟩
 conv=>whnf
 (refine ⟨⟨by omega,by omega⟩,?_⟩;(conv=>whnf))
 rw [show ∀ y:Value,Nat.ble (0+v.toNat*tsz Tryz.prog 3+[CV.v y].length) (List.map CV.v (alL a0)).length=true from fun y=>Nat.ble_eq_true_of_le (by rw [hl0];show 0+v.toNat*1+1≤28;omega)];(conv=>whnf);rw [show Nat.ble (List.map CV.v (alL a0)).length 8=false from zdy (by rw [hl0];decide)];(conv=>whnf);refine z3j fun r w3 hR=>?_;obtain ⟨p9,us,g1,g2,g3⟩:=hR.own 0 _ rfl;have g4:denL r (z33 (List.map CV.v (alL a0)) (0+v.toNat*tsz Tryz.prog 3) [CV.v (.int .i64 (m0%14-2))]) us:=g3;rw [yc0] at g4;obtain rfl:=ziq g4
 obtain ⟨a,haE⟩:∃ a,a=a0.set v.toNat (m0%14-2):=⟨_,rfl⟩
 have ha28:a.length=28:=by rw [haE,List.length_set];exact hal0.len
 have hal:∀ u,0≤u→u<28→ -1000≤getV a u∧getV a u≤1000:=fun u u0 u1=>by
  rw [haE,yb2 hal0.len hv28 u u0];have:=hal0.lo u u0 u1
  split<;>omega
 rw [← haE] at g2;have hB23:=hR.toBelow;have hB3:=zdg hB2 hB23 hB2.size;have hBA3:=hBA2.later hB23;have f23:=(hB23.block p5 (zpr f22)).trans f22;have b83:=hB23
 obtain ⟨us8,hus8⟩:∃ us8:List Value,us8=[.slice A1 b.at_.length c1,.slice A2 b.pages.length c2,.slice A3 b.ops.length c3]:=⟨_,rfl⟩
 refine ⟨z6h [(5,pV p5),(7,.bool true),(8,pV p8),(9,pV p9)],fun a' hf=>z6q ⟨z6o hf rfl,z6o hf rfl,z6o hf rfl,z6m hf 9 rfl g1,trivial⟩,?_⟩;clear hR g3 g4 g1 hB2 hBA2 f22;have b83':=yce b82 hB23;clear hB23 b82 b83 hus8 us8;refine z3h (α:={x:Int// -1≤x∧x≤1048577}) (fun x=>[(7,one (.bool true)),(8,one (pV p8)),(9,one (pV p9)),(11,one (intV x.1))]) (fun _ w2=>Below w3.heap.size w3 w2) ?_ fun x w4 hB34=>?_
 ·refine z3q ?_
  (conv=>whnf);refine z0e (size:=1) p5 0 3 2 rfl rfl rfl rfl rfl rfl zO zO ?_;(conv=>whnf);refine ⟨_,zd1 f23 rfl,?_⟩;(conv=>whnf);refine ze0 (x:=intV (m2%6)) (xs:=[intV m2,intV 6]) rfl zK (fun r w' hR=>yc4 m2 6 w' zO) ?_
  rcases (by omega:m2%6=0∨m2%6=1∨m2%6=2∨m2%6=3∨m2%6=4∨m2%6=5) with h|h|h|h|h|h<;>rw [h]
  all_goals
   conv=>whnf
   (refine ⟨⟨by omega,by omega⟩,?_⟩;(conv=>whnf))
   exact zca ⟨_,by decide⟩ (aI rfl (aI rfl (aI rfl (aI rfl trivial)))) fun r w3 hR=>hR.toBelow
 obtain ⟨size,hsz⟩:=x;dsimp only;have hB4:=zdg hB3 hB34 hB3.size;have hBA4:=hBA3.later hB34;have b84:=yce b83' hB34;have g24:=(hB34.block p9 (zpr g2)).trans g2;clear hB34 hB3 hBA3 g2 b83' f23;refine z3a (z3c 3 rfl rfl rfl ?_);(conv=>whnf);refine ⟨_,b84,rfl,?_⟩;(conv=>whnf);refine ⟨alL a,zd0 g24,by rw [List.length_map,ha28];rfl,?_⟩;(conv=>whnf);refine ⟨by kernel_rfl,fun r w5 us' hR hd=>?_⟩;obtain rfl:=zcs (xs:=[blkV b A1 A2 A3 c1 c2 c3,.agg (alL a).toArray,.int .u32 2048,.int .i64 size]) (zct _ _ _ a) hd;have hB45:=hR.toBelow;refine (yck b A1 A2 A3 c1 c2 c3 a 2048 size hb.ok (hBA4.later hB45) ha28 (by unfold word;decide) hal).mono fun e w6 ⟨tx,A6,n6,c6,he,hout,hB56⟩=>?_;have hB46:=zdg hB45 hB56 hB45.size;refine ⟨_,AV.of (.tuple #[.agg #[strV tx,.slice A6 n6 c6],.int .i64 (errE b a size)]),w6,Gs.nil,[(7,one (.bool true)),(8,one (pV p8)),(9,one (pV p9)),(11,one (intV size))],[],Env.none,he,z1s w6,fun a hf=>znt ⟨z6n hf 7 rfl,z6n hf 8 rfl,z6n hf 9 rfl,z6n hf 11 rfl,trivial⟩,AV.of_den _ _,?_⟩;clear hR hd hB45 hB56 he;(conv=>whnf);refine zcd ?_;refine z3j fun r w7 hR=>?_;obtain ⟨p12,us,y1,y2,y3⟩:=hR.own 0 _ rfl;obtain rfl:=ziq (us:=[strV tx,.slice A6 n6 c6]) y3;have hB47:=zdg hB46 hR.toBelow hB46.size;refine ⟨z6h [(7,.bool true),(8,pV p8),(9,pV p9),(11,intV size),(12,pV p12),(13,.int .i64 (errE b a size))],fun a' hf=>z6q ⟨z6o hf rfl,z6o hf rfl,z6o hf rfl,z6o hf rfl,z6m hf 12 rfl y1,z6o hf rfl,trivial⟩,?_⟩;have hB7:=zdg hB4 hB47 hB4.size;have hBA7:=hBA4.later hB47;have b87:=yce b84 hB47;have g27:=(hB47.block p9 (zpr g24)).trans g24;clear hR y1 y3 hB46 hB47 hB4 hBA4 b84 g24;refine z3m ?_;(conv=>whnf);refine z3m ?_;(conv=>whnf);refine ⟨_,b87,rfl,?_⟩;(conv=>whnf);refine ze0 (xs:=[blkV b A1 A2 A3 c1 c2 c3]) rfl zK (fun r w' hR=>z9w A1 A2 A3 c1 c2 c3 b w' hb.ok (z6d hBA7.pages hR.toBelow) (z6d hBA7.ops hR.toBelow)) ?_;rw [z9y];(conv=>whnf);refine z3m ?_;(conv=>whnf);refine ⟨alL a,zd0 g27,by rw [List.length_map,ha28];rfl,?_⟩;(conv=>whnf);refine ze0 (xs:=[.agg (alL a).toArray,intV 9]) (yb4 _ a) zK (fun r w' hR=>yei a ha28) ?_;(conv=>whnf);refine z3j fun r w7b hR=>?_;have hB77:=hR.toBelow;refine ⟨z6h [(7,.bool true),(11,intV size),(12,pV p12),(13,.int .i64 (errE b a size)),(14,.int .i64 0),(15,.bool (z9k b)),(16,.bool (za2 a))],fun a' hf=>z6q ⟨z6o hf rfl,z6o hf rfl,z6o hf rfl,z6o hf rfl,z6o hf rfl,z6o hf rfl,z6o hf rfl,trivial⟩,?_⟩;have y2b:=(hB77.block p12 (zpr y2)).trans y2;have hB7b:=zdg hB7 hB77 hB7.size;clear hR hB77;refine z3h (α:={x:Int//x=(if za2 a=true∧0≤size∧size≤1048576 then 0 else 1)}) (fun x=>[(7,one (.bool true)),(12,one (pV p12)),(13,one (.int .i64 (errE b a size))),(14,one (.int .i64 (x.1))),(15,one (.bool (z9k b)))]) (fun _ w2=>Below w7b.heap.size w7b w2) ?_ fun x w8 hB78=>?_
 ·refine z3m ?_
  conv=>whnf
  cases hva:za2 a with
  |false=>
   refine kB ?_;refine z27 (t:=true) rfl (fun _=>?_) nT;refine z3q ?_;(conv=>whnf);exact zca ⟨1,(by rw [if_neg (fun h=>by cases h.1)])⟩ Tn fun r w3 hR=>hR.toBelow
  |true=>
   refine kB ?_;by_cases h0:size<0
   ·rw [show decide (size<0)=true from decide_eq_true h0]
    refine kB ?_;refine z27 (t:=true) rfl (fun _=>?_) nT;refine z3q ?_;(conv=>whnf);exact zca ⟨1,(by rw [if_neg (fun h=>by omega)])⟩ Tn fun r w3 hR=>hR.toBelow
   rw [show decide (size<0)=false from decide_eq_false h0];refine kB ?_;by_cases h1:size>1048576
   ·rw [show decide (size>1048576)=true from decide_eq_true h1]
    refine kB ?_;refine z27 (t:=true) rfl (fun _=>?_) nT;refine z3q ?_;(conv=>whnf);exact zca ⟨1,(by rw [if_neg (fun h=>by omega)])⟩ Tn fun r w3 hR=>hR.toBelow
   rw [show decide (size>1048576)=false from decide_eq_false h1];refine z27 (t:=false) rfl nF (fun _=>?_);exact z3n (zca ⟨0,(by rw [if_pos ⟨rfl,by omega,by omega⟩])⟩ Tn fun r w3 hR=>hR.toBelow)
 obtain ⟨wt,hwt⟩:=x;dsimp only;have y28:=(hB78.block p12 (zpr y2b)).trans y2b;have hB8:=zdg hB7b hB78 hB7b.size
 have hwE:errE b a size=if z9k b=true then wt else 31:=by unfold errE;rw [hwt]
 clear hB78 hB7 hB7b y2b y2 g27 b87 hBA7;refine z3h (α:=Unit) (fun _=>[(7,one (.bool true)),(12,one (pV p12)),(13,one (.int .i64 (errE b a size))),(14,one (.int .i64 (errE b a size)))]) (fun _ w2=>Below w8.heap.size w8 w2) ?_ fun _ w9 hB89=>?_
 ·refine z3m ?_
  conv=>whnf
  cases hvb:z9k b with
  |false=>
   rw [hvb] at hwE;rw [show errE b a size=31 from hwE];refine kB ?_;refine z27 (t:=true) rfl (fun _=>?_) nT;refine z3q ?_;(conv=>whnf);exact zca () Tn fun r w3 hR=>hR.toBelow
  |true=>
   rw [hvb] at hwE;rw [show errE b a size=wt from hwE];refine kB ?_;refine z27 (t:=false) rfl nF (fun _=>?_);exact z3n (zca () Tn fun r w3 hR=>hR.toBelow)
 have y29:=(hB89.block p12 (zpr y28)).trans y28;have hB9:=zdg hB8 hB89 hB8.size;refine z3m ?_;refine kB ?_;rw [beq_self_eq_true];refine kB ?_;refine ⟨_,zd1 (off:=0+0) y29 rfl,?_⟩;refine kB ?_;rcases hout with ⟨he0,htx⟩|⟨he1,htx,hn6⟩
 ·rw [he0]
  refine ydv tx [] (fun h=>htx (List.eq_nil_of_length_eq_zero h)) rfl rfl rfl ?_;refine kB ?_;refine ydt true true rfl Tryz.underlying4 rfl rfl ?_;refine kB ?_;refine z3q ?_;(conv=>whnf);refine zcg ?_;(conv=>whnf)
  exact zmh rfl fun w9 hB10=>⟨rfl,zdj hB9 hB10⟩
 ·subst htx
  subst hn6;rw [show (errE b a size==0)=false from beq_eq_false_iff_ne.2 he1];refine ydu [] rfl rfl rfl ?_;refine kB ?_;refine ydt false false rfl Tryz.underlying4 rfl rfl ?_;refine kB ?_;rw [show (errE b a size==0)=false from beq_eq_false_iff_ne.2 he1];refine kB ?_;refine ⟨_,zd1 (off:=0+1) y29 rfl,?_⟩;refine kB ?_;refine z3q ?_;(conv=>whnf);refine zcg ?_;(conv=>whnf)
  exact zmh rfl fun w9 hB10=>⟨rfl,zdj hB9 hB10⟩
end
open Go.ChangeShapes Go.WideShapes Go.ChangeAt Go.RowKit
theorem ydw (os:Os) (started:os.Started) (H:Type) (enc:TypeId×Value→H):
  ReturnsInHanded {} Tryz.checked os 6 .any (Rows.qemitErrorsSpec.pre6 enc Tryz.prog Tryz.f6 Rows.qemitErrorsRow.domain false) (Rows.qemitErrorsSpec.post enc Tryz.prog Tryz.f6 false true false false):=by
 refine returnsInHanded_of_change (C:=Tryz.checked) ownK started zK Tryz.func6
  (ChangeSpec.witness6 (enc:=enc) (C:=Tryz.checked) false ⟨#[],#[.slice none 0 0,.agg #[.int .i64 0,.int .i64 0,.int .i64 0],.agg #[.int .i64 0,.int .i64 0,.int .i64 0]],[]⟩ 8 zK zK zK zK) ?_
 intro W base args ds gs before hval0 hW hcnd _;have hval:∀ (j:Nat) t v,Tryz.f6.params[j]?=some t→args[j]?=some v→Value.okWide Tryz.prog W .any base t v:=hval0;have hW':=hW;obtain ⟨p,q,hA0,hV,rfl,hfz,hnd⟩:=hW;have hA:DataW.TrodAll enc Tryz.prog W 0 (fun _=>true) true Tryz.f6.params.toList args.toList ds p:=hA0;rw [Tryz.params6] at hA hval;obtain ⟨v0,vs0,d0,ds0,p0,q0,hargs,rfl,rfl,h0,r0⟩:=trodAll_cons hA;obtain ⟨v1,vs1,d1,ds1,p1,q1,rfl,rfl,rfl,h1,r1⟩:=trodAll_cons r0;obtain ⟨v2,vs2,d2,ds2,p2,q2,rfl,rfl,rfl,h2,r2⟩:=trodAll_cons r1;obtain ⟨rfl,rfl,rfl⟩:=trodAll_nil r2;obtain rfl:args= #[v0,v1,v2]:=(by cases args;simp_all);obtain ⟨rfl,rfl⟩:=trodVars_none hV;clear hA0;obtain ⟨a0,l0,c0,rfl⟩:=okWide_slice Tryz.underlying22 (hval 0 22 v0 rfl rfl);obtain ⟨xs0,s0,hl0,_⟩:=yde h0;obtain ⟨y10,y11,y12,rfl⟩:=ydd (hval 1 52 v1 rfl rfl) h1;obtain ⟨y20,y21,y22,rfl⟩:=ydd (hval 2 52 v2 rfl rfl) h2;have k0:=h0;have k1:=h1;have k2:=h2;have lt0:∀ x∈p0,x.block<W.heap.size:=(by obtain ⟨m,hm⟩:=k0;exact DataW.trod_lt m _ _ _ hm);have lt1:∀ x∈p1,x.block<W.heap.size:=(by obtain ⟨m,hm⟩:=k1;exact DataW.trod_lt m _ _ _ hm);have lt2:∀ x∈p2,x.block<W.heap.size:=(by obtain ⟨m,hm⟩:=k2;exact DataW.trod_lt m _ _ _ hm);clear hval0;refine (ycq a0 l0 c0 xs0 y10 y11 y12 y20 y21 y22 s0 hl0 (w:=W)).mono fun e W' ⟨he,bel⟩=>?_;subst he;exact ⟨_,rfl,_,_,_,[],_,[],hW',trodAll_mk1 (shut_bool Tryz.underlying4 _),(trodAll_cons_mk (Below.trod yc1 zK (of_decide_eq_true zK) k0 bel lt0) (trodAll_cons_mk (Below.trod yc1 zK (of_decide_eq_true zK) k1 bel lt1) (trodAll_cons_mk (Below.trod yc1 zK (of_decide_eq_true zK) k2 bel lt2) trodAll_mk0))),rfl,bel.frame _,fun h=>by cases h⟩
theorem qemitErrors_holds:Rows.QemitErrorsSaid:=
 OpenClaim.holds_of_wide 6 Tryz.f6 rfl rfl rfl rfl rfl rfl rfl ⟨rfl,rfl,rfl,rfl,rfl⟩ rfl rfl rfl rfl rfl (by kernel_rfl) Tryz.func6 (by kernel_rfl)
  (of_decide_eq_true (by kernel_rfl)) (by unfold Func.isWrapper;first|(rw [if_pos (by decide+kernel)];kernel_rfl)|(rw [if_neg (by decide+kernel)];exact ⟨rfl,rfl⟩))
  (fun os started H enc _=>ydw os started H enc)
end Go.Proofs.YtocafomnnkmjfaaGreat
#print axioms Go.Proofs.YtocafomnnkmjfaaGreat.qemitErrors_holds
