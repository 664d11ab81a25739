import Derived.Test.YtocafomnnkmjfaaGreatMAccessA
set_option maxRecDepth 100000
set_option maxHeartbeats 8000000
namespace Go.Proofs.YtocafomnnkmjfaaGreat
open Go.RowKit
theorem ycl {w0:World} {G:Gs} {N:Nd} {f:Fr} {S:List Ow} {Q:Exit→Act→World→Prop} {id id':Nat} (hne:id≠id') (h:AtQ w0 G N (.exit id) f S Q):AtQ w0 G N (.exit id) f S (Exit.inBlock id' Q):=⟨fun a w hg=>by
 show (if id=id' then Q .normal a w else Q (.exit id) a w)
 rw [if_neg hne];exact h.out a w hg⟩
section
variable {w:World}
theorem ycj (b:Blk) (A1 A2 A3:Option Addr) (c1 c2 c3:Nat) (regs:Nat) (hr9:regs≤9) (hops:b.ops.length≤2000) (h3:OpsAt w w.heap.size A3 b.ops):Calls Tryz.prog 22 #[blkV b A1 A2 A3 c1 c2 c3,intV (regs:Int)] w fun e w'=>∃ a,AlR a regs∧e= .returned (.agg (alL a).toArray)∧Below w.heap.size w w':=by
 refine zfg [blkV b A1 A2 A3 c1 c2 c3,intV (regs:Int)] Tryz.func22 Tryz.ntmps22 rfl zS ?_
 obtain ⟨a0,ha0⟩:∃ a0,a0=zvo:=⟨_,rfl⟩
 have hal0:AlR a0 0:=(by rw [ha0];exact zvt);have hl0:=zq4 hal0.len;refine z3q ?_;(conv=>whnf);refine z3q ?_;(conv=>whnf);refine ycp (fun v=>∃ u,UsOk u∧v= .agg (alL u).toArray) (xs:=[blkV b A1 A2 A3 c1 c2 c3]) rfl zK (fun r w' hR=>(ydf b A1 A2 A3 c1 c2 c3 hops (z6h h3 hR.toBelow)).mono fun e w'' ⟨u,k1,k2,k3⟩=>⟨_,k2,⟨u,k1,rfl⟩,k3⟩) ?_;rintro v ⟨u,hu,rfl⟩;have hlu:=zq4 hu.len;(conv=>whnf);erw [zdl (l:=List.map CV.v (alL u)) (n:=28) hlu];(conv=>whnf);erw [zwm];(conv=>whnf);erw [show Nat.ble (0+(List.map CV.v (alL u)).length) (List.map CV.v (alL (List.replicate 28 0))).length=true from Nat.ble_eq_true_of_le (by rw [hlu];decide)];(conv=>whnf);erw [z4b (l:=List.map CV.v (alL (List.replicate 28 0))) (m:=List.map CV.v (alL u)) (by rw [hlu];rfl)];refine z3q ?_;(conv=>whnf);refine ze2 (x:= .agg (alL zvo).toArray) (xs:=[]) rfl zK (fun r w' hR=>zvw w') ?_;rw [← ha0];(conv=>whnf);erw [zdl (l:=List.map CV.v (alL a0)) (n:=28) hl0];(conv=>whnf);erw [zwm];(conv=>whnf);erw [show Nat.ble (0+(List.map CV.v (alL a0)).length) (List.map CV.v (alL (List.replicate 28 0))).length=true from Nat.ble_eq_true_of_le (by rw [hl0];decide)];(conv=>whnf);erw [z4b (l:=List.map CV.v (alL (List.replicate 28 0))) (m:=List.map CV.v (alL a0)) (by rw [hl0];rfl)];refine z3n fun r w3 hR=>?_;obtain ⟨p4,us,e1,e2,e3⟩:=hR.own 1 _ rfl;obtain rfl:=zis (us:=alL (List.replicate 28 0)) e3;obtain ⟨p5,us,f1,f2,f3⟩:=hR.own 2 _ rfl;obtain rfl:=zis (us:=alL u) f3;obtain ⟨p6,us,g1,g2,g3⟩:=hR.own 3 _ rfl;obtain rfl:=zis (us:=alL a0) g3;have hB3:=hR.toBelow;have hp4:=zoc hR e1;have hp6:=zoc hR g1
 have n46:p4≠p6:=fun e=>by subst e;exact absurd (hR.inj 1 3 _ e1 g1) (by decide)
 have n56:p5≠p6:=fun e=>by subst e;exact absurd (hR.inj 2 3 _ f1 g1) (by decide)
 refine ⟨z6l [(1,intV (regs:Int)),(4,pV p4),(5,pV p5),(6,pV p6)],fun a' hf=>z6u ⟨z6s hf rfl,z6q hf 4 rfl e1,z6q hf 5 rfl f1,z6q hf 6 rfl g1,trivial⟩,?_⟩;clear hR e3 f3 g3 e1 f1 g1;have kept:∀ {w':World} {q:Nat} {t:TypeId} {us:List Value},q≠p6→w3.heap[q]?=some (.cells us.toArray t (0,0))→Held w3 ⟨[],[p6]⟩ w'→w'.heap[q]?=some (.cells us.toArray t (0,0)):=fun hn hq hh=>(zpu hh (zpt hq) fun hm=>hn (List.mem_singleton.1 hm)).trans hq;refine z3l (α:=Unit) (fun _=>[(4,one (pV p4)),(6,one (pV p6))]) (fun _ w2=>∃ a,AlR a regs∧w2.heap[p6]?=some (.cells (alL a).toArray alT (0,0))∧Held w3 ⟨[],[p6]⟩ w2) ?_ fun _ w2 hl=>?_
 ·refine z3q ?_
  (conv=>whnf);refine z3b ?_;refine z3j (fun j:{j:Nat//j≤regs}=>[(1,one (intV (regs:Int))),(4,one (pV p4)),(5,one (pV p5)),(6,one (pV p6)),(7,one (intV (j.1:Int)))]) (fun j w'=>∃ a,AlR a j.1∧w'.heap[p6]?=some (.cells (alL a).toArray alT (0,0))∧Held w3 ⟨[],[p6]⟩ w') (fun j=>regs-j.1) ⟨0,by omega⟩ Tn (fun r w' hR=>⟨a0,hal0,(hR.toBelow.block p6 (zpt g2)).trans g2,zpy hR.toBelow⟩) (fun j w' hJ=>?_);obtain ⟨j,hj⟩:=j;dsimp only at hJ⊢;obtain ⟨a,ha,g24,hh4⟩:=hJ;have f24:=kept n56 f2 hh4;refine z3e ?_;refine z3q ?_;(conv=>whnf);by_cases hjr:j<regs;rotate_left
  ·rw [show decide ((j:Int)<(regs:Int))=false from decide_eq_false zO]
   refine kB ?_;refine z3c (t:=false) rfl (fun hc=>Bool.noConfusion (show false=true from hc)) (fun _=>?_);refine z3u ?_;(conv=>whnf);exact zb7 (zcf (zb6 (zca () Tn fun r w3 hR=>⟨a,ha.up hj,(hR.toBelow.block p6 (zpt g24)).trans g24,zp1 (gs1:=[]) hh4 (zpy hR.toBelow) nofun⟩)))
  rw [show decide ((j:Int)<(regs:Int))=true from decide_eq_true zO];refine kB ?_;rw [show decide ((j:Int)<28)=true from decide_eq_true zO];refine kB ?_;refine z3c (t:=true) rfl (fun _=>z3r (zcd ?_)) (fun hc=>Bool.noConfusion (show true=false from hc));refine z3l (α:=Unit) (fun _=>[(1,one (intV (regs:Int))),(4,one (pV p4)),(5,one (pV p5)),(6,one (pV p6)),(7,one (intV (j:Int)))]) (fun _ w2=>∃ a,AlR a (j+1)∧w2.heap[p6]?=some (.cells (alL a).toArray alT (0,0))∧Held w3 ⟨[],[p6]⟩ w2) ?_ fun _ w2 hl=>?_
  ·refine z3b ?_
   refine z3q ?_;(conv=>whnf);refine z3l (α:={x:Int//x= -1∨((0≤x∧x<28)∧x≠19)}) (fun x=>[(1,one (intV (regs:Int))),(4,one (pV p4)),(5,one (pV p5)),(6,one (pV p6)),(7,one (intV (j:Int))),(8,one (intV x.1))]) (fun _ w2=>Below w'.heap.size w' w2) ?_ fun x w5 hB5=>?_
   ·refine z3q ?_
    (conv=>whnf);refine z3b ?_;refine z3j (fun x:{x:Nat×Int//x.1≤28∧(x.2= -1∨((0≤x.2∧x.2<28)∧x.2≠19))}=>[(1,one (intV (regs:Int))),(4,one (pV p4)),(5,one (pV p5)),(6,one (pV p6)),(7,one (intV (j:Int))),(8,one (intV x.1.2)),(9,one (intV (x.1.1:Int)))]) (fun _ w2=>Below w'.heap.size w' w2) (fun x=>28-x.1.1) ⟨(0,-1),by omega,.inl rfl⟩ Tn (fun r w'' hR=>hR.toBelow) (fun x w5 hJ=>?_);obtain ⟨⟨v,best⟩,hv,hbest⟩:=x;dsimp only at hv hbest hJ⊢;have f25:=(hJ.block p5 (zpt f24)).trans f24;have g25:=(hJ.block p6 (zpt g24)).trans g24;refine z3e ?_;refine z3q ?_;(conv=>whnf);refine z3c rfl (fun hc=>z3r (zcd ?_)) (fun hc=>?_)
    ·have hlt:v<28:=by have:=of_decide_eq_true hc;omega
     refine z3l (α:={x:Int//x= -1∨((0≤x∧x<28)∧x≠19)}) (fun x=>[(1,one (intV (regs:Int))),(4,one (pV p4)),(5,one (pV p5)),(6,one (pV p6)),(7,one (intV (j:Int))),(8,one (intV x.1)),(9,one (intV (v:Int)))]) (fun _ w2=>Below w'.heap.size w' w2) ?_ fun x w6 hB6=>?_
     ·refine z3b ?_
      refine z3q ?_;refine z26 mixed zK ?_;(conv=>whnf);refine z0i (size:=1) p6 0 28 (v:Int) rfl rfl rfl rfl rfl rfl zO zO ?_;(conv=>whnf);refine ⟨_,za3 g25 ha.len (v:=(v:Int)) zO,?_⟩;(conv=>whnf);by_cases k1:getV a (v:Int)<0;rotate_left
      ·rw [show decide (getV a (v:Int)<0)=false from decide_eq_false k1]
       refine kB ?_;refine z3c (t:=false) rfl (fun hc=>Bool.noConfusion (show false=true from hc)) (fun _=>?_);exact z3r (zb4 (zca ⟨best,hbest⟩ Tn fun r w3 hR=>zdg hJ hR.toBelow hJ.size))
      rw [show decide (getV a (v:Int)<0)=true from decide_eq_true k1];refine kB ?_;refine z0i (size:=1) p5 0 28 (v:Int) rfl rfl rfl rfl rfl rfl zO zO ?_;refine kB ?_;refine ⟨_,za3 f25 hu.len (v:=(v:Int)) zO,?_⟩;refine kB ?_;by_cases k2:getV u (v:Int)>0;rotate_left
      ·rw [show decide (getV u (v:Int)>0)=false from decide_eq_false k2]
       refine kB ?_;refine z3c (t:=false) rfl (fun hc=>Bool.noConfusion (show false=true from hc)) (fun _=>?_);exact z3r (zb4 (zca ⟨best,hbest⟩ Tn fun r w3 hR=>zdg hJ hR.toBelow hJ.size))
      rw [show decide (getV u (v:Int)>0)=true from decide_eq_true k2]
      have h19:(v:Int)≠19:=fun e=>by rw [e,hu.pc] at k2;omega
      refine kB ?_;by_cases k3:best<0
      ·rw [show decide (best<0)=true from decide_eq_true k3]
       refine kB ?_;refine z3c (t:=true) rfl (fun _=>?_) (fun hc=>Bool.noConfusion (show true=false from hc));refine z3u ?_;(conv=>whnf);exact zb4 (zca ⟨(v:Int),.inr ⟨by omega,h19⟩⟩ Tn fun r w3 hR=>zdg hJ hR.toBelow hJ.size)
      rw [show decide (best<0)=false from decide_eq_false k3];have hb:(0≤best∧best<28)∧best≠19:=(by rcases hbest with h|h;omega;exact h);refine kB ?_;refine z0i (size:=1) p5 0 28 (v:Int) rfl rfl rfl rfl rfl rfl zO zO ?_;refine kB ?_;refine ⟨_,za3 f25 hu.len (v:=(v:Int)) zO,?_⟩;refine kB ?_;refine z0i (size:=1) p5 0 28 best rfl rfl rfl rfl rfl rfl zO zO ?_;refine kB ?_;refine ⟨_,za3 f25 hu.len (v:=best) zO,?_⟩;refine kB ?_;by_cases k4:getV u (v:Int)>getV u best;rotate_left
      ·rw [show decide (getV u (v:Int)>getV u best)=false from decide_eq_false k4]
       refine kB ?_;refine z3c (t:=false) rfl (fun hc=>Bool.noConfusion (show false=true from hc)) (fun _=>?_);exact z3r (zb4 (zca ⟨best,hbest⟩ Tn fun r w3 hR=>zdg hJ hR.toBelow hJ.size))
      rw [show decide (getV u (v:Int)>getV u best)=true from decide_eq_true k4];refine kB ?_;refine z3c (t:=true) rfl (fun _=>?_) (fun hc=>Bool.noConfusion (show true=false from hc));refine z3u ?_;(conv=>whnf);exact zb4 (zca ⟨(v:Int),.inr ⟨by omega,h19⟩⟩ Tn fun r w3 hR=>zdg hJ hR.toBelow hJ.size)
     ·obtain ⟨x,hx⟩:=x
      dsimp only;refine z3u ?_;(conv=>whnf);refine ⟨((v+1:Nat):Int),by rw [show (v:Int)+1=((v+1:Nat):Int) by omega];exact wr64 zO,?_⟩;(conv=>whnf);exact zcc ⟨(v+1,x),by omega,hx⟩ Tn (fun r w3 hR=>zdg hB6 hR.toBelow hB6.size) (by show 28-(v+1)<28-v;omega)
    ·refine z3u ?_
     (conv=>whnf);exact zb7 (zcf (zb6 (zca ⟨best,hbest⟩ Tn fun r w3 hR=>zdg hJ hR.toBelow hJ.size)))
   ·obtain ⟨x,hx⟩:=x
    dsimp only;have g25:=(hB5.block p6 (zpt g24)).trans g24;have hh5:=zp1 (gs1:=[]) hh4 (zpy hB5) nofun;refine z3e ?_;refine z3q ?_;(conv=>whnf);by_cases hx0:x<0
    ·rw [show decide (x<0)=true from decide_eq_true hx0]
     refine z3c (t:=true) rfl (fun _=>?_) (fun hc=>Bool.noConfusion (show true=false from hc));refine z3u ?_;(conv=>whnf);exact zb7 (ycl (by decide) (yck (zcf (zb6 (zca () Tn fun r w3 hR=>⟨a,ha.up hj,(hR.toBelow.block p6 (zpt g25)).trans g25,zp1 (gs1:=[]) hh5 (zpy hR.toBelow) nofun⟩)))))
    ·rw [show decide (x<0)=false from decide_eq_false hx0]
     refine z3c (t:=false) rfl (fun hc=>Bool.noConfusion (show false=true from hc)) (fun _=>z3r (zcd ?_));have hx2:(0≤x∧x<28)∧x≠19:=(by rcases hx with h|h;omega;exact h);refine z3v 6 0 p6 rfl ⟨[p6],[]⟩ [.cells alT ((alL a).map .v)] fun r w6 hR6=>?_;have hB6:=hR6.toBelow;have g26:=(hB6.block p6 (zpt g25)).trans g25;have hh6:=zp1 (gs1:=[]) hh5 (zpy hB6) nofun;have hal:=zq4 ha.len;refine ⟨_,z1x (zv2 g26),rfl,?_⟩;refine z3u ?_;(conv=>whnf)
     (refine ⟨⟨by omega,by omega⟩,?_⟩;(conv=>whnf))
     rw [show ∀ y:Value,Nat.ble (0+x.toNat*tsz Tryz.prog 3+[CV.v y].length) (List.map CV.v (alL a)).length=true from fun y=>Nat.ble_eq_true_of_le (by rw [hal];show 0+x.toNat*1+1≤28;omega)];(conv=>whnf);rw [show Nat.ble (List.map CV.v (alL a)).length 8=false from zdy (by rw [hal];decide)];(conv=>whnf);refine zb4 (zb9 fun r7 w7 hR7=>?_);obtain ⟨p',us,b1,b2,b3⟩:=hR7.own 0 _ rfl;have hcc:=hR7.first 0 p6 rfl;rw [hcc] at b1;injection b1 with b1;subst b1;have b4:denL r7 (z38 (List.map CV.v (alL a)) (0+x.toNat*tsz Tryz.prog 3) [CV.v (.int .i64 (j:Int))]) us:=b3;rw [zq5] at b4;obtain rfl:=zis b4;have hgr:=hR7.growns;refine ⟨(),fun a' hf=>?_,⟨a.set x.toNat (j:Int),ha.give hx2.1 hx2.2,b2,zp1 hh6 (zpz hgr) fun b hb=> .inl hb⟩⟩;show FDen Env.none (z6l [(1,intV (regs:Int)),(4,pV p4),(5,pV p5),(6,pV p6),(7,intV (j:Int))]) a';exact z6u ⟨z6s hf rfl,z6s hf rfl,z6s hf rfl,z6q hf 6 rfl hcc,z6s hf rfl,trivial⟩
  ·obtain ⟨a2,ha2,g26,hh6⟩:=hl
   refine z3u ?_;(conv=>whnf);refine ⟨((j+1:Nat):Int),by rw [show (j:Int)+1=((j+1:Nat):Int) by omega];exact wr64 zO,?_⟩;(conv=>whnf);exact zcc ⟨j+1,by omega⟩ Tn (fun r w3 hR=>⟨a2,ha2,(hR.toBelow.block p6 (zpt g26)).trans g26,zp1 (gs1:=[]) hh6 (zpy hR.toBelow) nofun⟩) (by show regs-(j+1)<regs-j;omega)
 ·obtain ⟨a,ha,g24,hh4⟩:=hl
  have hla:=zq4 ha.len;refine z3v 4 0 p4 rfl ⟨[p4],[]⟩ [.cells alT ((alL (List.replicate 28 0)).map .v)] fun r w6 hR6=>?_;have hB6:=hR6.toBelow;have e26:=(hB6.block p4 (zpt (kept n46 e2 hh4))).trans (kept n46 e2 hh4);have g26:=(hB6.block p6 (zpt g24)).trans g24;have hh6:=zp1 (gs1:=[]) hh4 (zpy hB6) nofun
  have nG:p6∉(⟨[p4],[]⟩:Gs):=fun hm=>by
   rcases hm with hm|hm
   ·exact n46 (List.mem_singleton.1 hm).symm
   ·cases hm
  refine ⟨_,z1x (zv2 e26),rfl,?_⟩;refine z3q ?_;(conv=>whnf);refine ⟨alL a,zfo (zd0 g26) nG,by rw [List.length_map,ha.len];rfl,?_⟩;(conv=>whnf);erw [zdl (l:=List.map CV.v (alL a)) (n:=28) hla];(conv=>whnf);erw [zwm];(conv=>whnf);erw [show Nat.ble (0+(List.map CV.v (alL a)).length) (List.map CV.v (alL (List.replicate 28 0))).length=true from Nat.ble_eq_true_of_le (by rw [hla];decide)];(conv=>whnf);erw [z4b (l:=List.map CV.v (alL (List.replicate 28 0))) (m:=List.map CV.v (alL a)) (by rw [hla];rfl)];refine z3u ?_;(conv=>whnf);refine zcg ?_;(conv=>whnf);rw [show cut (List.map CV.v (alL a)) 0 (Tryz.prog.types[alT].size)=some (List.map CV.v (alL a)) from zhx hla];(conv=>whnf);refine ⟨fun r2 w9 u hR hd=>?_⟩;rw [AV.val_den (x:= .agg (alL a).toArray) (z9m _) hd];have hgr:=hR.growns;have hz3:=hB3.size;have hz6:=hh6.size;have hh36:=hh6;refine ⟨a,ha,rfl,hgr.os.trans (hh6.os.trans hB3.os),hgr.tape.trans (hh6.tape.trans hB3.tape),hgr.output.trans (hh6.output.trans hB3.output),Nat.le_trans hz3 (Nat.le_trans hz6 hgr.size),fun k hk=>(hgr.block k zO fun hm=>by rw [List.mem_singleton] at hm;omega).trans ((zpu hh6 zO fun hm=>by rw [List.mem_singleton] at hm;omega).trans (hB3.block k hk))⟩
end
section
variable {W:World} {gs:List Nat} {J:World→Prop}
theorem ycw {args:List AV} {K:Value→(World→Prop)→Prop} {b:Blk} {A1 A2 A3:Option Addr} {c1 c2 c3:Nat} (hops:b.ops.length≤2000) (hBA:BlkAt W b A1 A2 A3) (regs:Nat) (hr:regs≤9) (hst:Stable J) (hJ:∀ w,J w→Below W.heap.size W w)
  (hu:avals args=some [blkV b A1 A2 A3 c1 c2 c3,intV (regs:Int)]) (hK:∀ a:{a:List Int//AlR a regs},K (.agg (alL a.1).toArray) fun w=>J w∧True):JmpJ Tryz.prog W ⟨[],gs⟩ J 22 args K:=
 ycz (fun a:{a:List Int//AlR a regs}=> .agg (alL a.1).toArray) (fun _ _=>True) hu zK hst (fun w _ hj=>(ycj b A1 A2 A3 c1 c2 c3 regs hr hops (hBA.later (hJ w hj)).ops).mono fun e w' ⟨a,h1,h2,h3⟩=>⟨⟨a,h1⟩,h2,trivial,h3⟩) hK
end
section
variable {w:World}
end
def accO (c n:Int):BOp:=if c<18 then ⟨c,4,2,0,n⟩ else ⟨c,0,2,4,n⟩
def accB (c n:Int):Blk:=⟨[8],[],[⟨20,0,0,0,0⟩,accO c n,⟨24,0,0,0,12⟩]⟩
theorem ycd {c:Int} (hc:16≤c∧c≤19):c=16∨c=17∨c=18∨c=19:=by omega
theorem yca {c n:Int}:(accO c n).code=c:=by unfold accO;split<;>rfl
theorem yb9 {c n:Int}:(accO c n).a=2:=by unfold accO;split<;>rfl
theorem ycb {c n:Int}:(accO c n).n=n:=by unfold accO;split<;>rfl
theorem yb7 {c n:Int} (hc:16≤c∧c≤19):z9o (accB c n)=true:=by
 rcases ycd hc with rfl|rfl|rfl|rfl<;>rfl
theorem ycc {c n:Int} (hc:16≤c∧c≤19) (hn:word n):(accO c n).ok:=by
 have hm:mid 0:=by unfold mid;omega
 have h4:mid 4:=by unfold mid;decide
 have h2:mid 2:=by unfold mid;decide
 rcases ycd hc with rfl|rfl|rfl|rfl
 ·exact ⟨(by unfold mid;decide:mid 16),h4,h2,hm,hn⟩
 ·exact ⟨(by unfold mid;decide:mid 17),h4,h2,hm,hn⟩
 ·exact ⟨(by unfold mid;decide:mid 18),hm,h2,h4,hn⟩
 ·exact ⟨(by unfold mid;decide:mid 19),hm,h2,h4,hn⟩
theorem yb6 {c n:Int} (hc:16≤c∧c≤19) (hn:word n):(accB c n).ok:=by
 refine ⟨?_,?_,?_,(by decide:1≤1000000),(by decide:0≤1000000),(by decide:3≤1000000)⟩
 ·intro x hx;rw [List.mem_singleton.1 hx];unfold word;decide
 ·nofun
 ·intro o ho
  have hm:mid 0:=by unfold mid;omega
  rcases List.mem_cons.1 ho with rfl|ho
  ·exact ⟨by unfold mid;decide,hm,hm,hm,yax⟩
  ·rcases List.mem_cons.1 ho with rfl|ho
   ·exact ycc hc hn
   ·rw [List.mem_singleton.1 ho];exact ⟨by unfold mid;decide,hm,hm,hm,by unfold word;decide⟩
theorem yb5 (c n:Int):lenE (accB c n)=1:=rfl
theorem yce {c n:Int} (hc:16≤c∧c≤19) (vs:List Int) (g:MemP):(zkq (accB c n) vs g).out.leaves= !(zbr (accO c n) vs g).stays:=by
 unfold zkq;rw [if_pos (yb7 hc)];show (zkt [8] [⟨20,0,0,0,0⟩,accO c n,⟨24,0,0,0,12⟩] 0 vs g).out.leaves=_;have hap:=zbx (o:=⟨20,0,0,0,0⟩) (.inl rfl) vs g;rw [zkv (fun h=>by rcases h with h|⟨h,_⟩<;>exact absurd h (by decide)) (by decide) (by rw [hap]),hap];have h1:¬((accO c n).code=24∨((accO c n).code=23∧getV vs (accO c n).a≠0)):=(by rw [yca];omega);have h2:¬(accO c n).code=25:=(by rw [yca];omega)
 cases hst:(zbr (accO c n) vs g).stays with
 |true=>rw [zkv h1 h2 hst,zku (.inl rfl)];rfl
 |false=>rw [zkw h1 h2 hst];rfl
theorem yb8 {c n:Int} (hc:16≤c∧c≤19) (hn:word n) {E:Em} (hE:E.written=ybm (accB c n).ops):OpE E 0 (accO c n):=by
 refine ⟨ycc hc hn,?_,?_,fun hw=>by rw [hE];exact ybn (List.mem_cons_of_mem _ (List.mem_cons_self ..)) hw⟩
 ·rcases ycd hc with rfl|rfl|rfl|rfl<;>rfl
 ·have k:∀ v:Int,v=2∨v=4→zsq 0 v:=fun v hv=>⟨by omega,by omega,by omega,.inl zO⟩
  intro v hv;rcases ycd hc with rfl|rfl|rfl|rfl
  ·exact k v (.inl (List.mem_singleton.1 (show v∈[(2:Int)] from hv)))
  ·exact k v (.inl (List.mem_singleton.1 (show v∈[(2:Int)] from hv)))
  ·have hv:v∈[(2:Int),4]:=hv
   rcases List.mem_cons.1 hv with h|h
   ·exact k v (.inl h)
   ·exact k v (.inr (List.mem_singleton.1 h))
  ·have hv:v∈[(2:Int),4]:=hv
   rcases List.mem_cons.1 hv with h|h
   ·exact k v (.inl h)
   ·exact k v (.inr (List.mem_singleton.1 h))
theorem ycf {c n:Int} (hc:16≤c∧c≤19) {vs:List Int} {g:MemP} {G:Nat} (hg:g.ok (256*G) G) (hG:G≤4096) (hst:(zbr (accO c n) vs g).stays=true):(getV vs 2+n)%4294967296+szE c≤256*(G:Int):=by
 obtain ⟨A,hA⟩:∃ A,A=(getV vs 2+n)%4294967296:=⟨_,rfl⟩
 have hAw:0≤A∧A<4294967296:=by omega
 have key:∀ (r:Int) (m:Nat),1≤m∧m≤4→g.bad A r 0 m=none→A+m≤256*(G:Int):=fun r m hm hn=>by
  have hb:=zc9.1 hn;have h0:=z17 hg (hb 0 (Nat.le_refl _) zO);have h1:=z17 hg (hb (m-1) zO zO);omega
 rw [← hA];rcases ycd hc with rfl|rfl|rfl|rfl
 ·have h:(match g.bad ((getV vs 2+n)%4294967296) 1 0 4 with|none=>(⟨vs.set 4 (g.load ((getV vs 2+n)%4294967296) 0 4),true,g⟩:Ap)|some _=>⟨vs,false,g⟩).stays=true:=hst
  rw [← hA] at h
  split at h
  ·rename_i hn;exact key 1 4 zO hn
  ·cases h
 ·have h:(match g.bad ((getV vs 2+n)%4294967296) 1 0 1 with|none=>(⟨vs.set 4 (g.load ((getV vs 2+n)%4294967296) 0 1),true,g⟩:Ap)|some _=>⟨vs,false,g⟩).stays=true:=hst
  rw [← hA] at h
  split at h
  ·rename_i hn;exact key 1 1 zO hn
  ·cases h
 ·have h:(g.bad ((getV vs 2+n)%4294967296) 2 0 4).isNone=true:=hst
  rw [← hA] at h;exact key 2 4 zO (by simpa using h)
 ·have h:(g.bad ((getV vs 2+n)%4294967296) 2 0 1).isNone=true:=hst
  rw [← hA] at h;exact key 2 1 zO (by simpa using h)
theorem ycu {c x:Int} {a:List Int} {G P base:Nat} {vs:List Int} {gm:MemP} {steps limit junk:Int} (hcc:16≤c∧c≤19) (hx:word x) (hA:AlOk a) (hG:1≤G) (hg:gm.ok (256*G) G) (hvs:VarsOk vs) (hs:word steps) (hl:word limit)
  (hGP:G<P) (hP:P≤4096) (hb0:base%4=0) (hb1:256*(G+1)≤base) (hb2:base+4*(yao (accB c x) a (256*(G:Int)) (256*(G:Int)) 0).length≤256*P) {M0:MemP} (his:HostIs gm M0 G P base (ctxL vs steps limit) (z8v (yao (accB c x) a (256*(G:Int)) (256*(G:Int)) 0)))
  (hlim:¬limit<(steps+1)%4294967296) (hst:(zbr (accO c x) vs gm).stays=false):
  ∃ (k:Nat) (R':Int→Int) (pc':Int) (M':MemP) (j:Nat) (it:It) (sk:Sk),k<100000∧zrk (z07 M0.fet) k (zqd junk 16) (base:Int) M0=some (R',pc',M')∧z07 M0.fet pc'=some it.i∧((it.i.op=48∧it.i.imm=0)∨(z7d it.i pc' R' M'=none∧23≤it.i.op∧it.i.op≤26))∧
   (yao (accB c x) a (256*(G:Int)) (256*(G:Int)) 0)[j]?=some it∧it.s=some sk∧pc'=(base:Int)+4*(j:Int)∧((sk.kind=3→it.i.op≠48)∧(it.i.op≠48→sk.kind=3))∧M'.ok (256*P) P∧sk.kind=if (getV vs 2+x)%4294967296+szE c≤256*(G:Int) then 3 else 2:=by
 have hb:=yb6 hcc hx;have hv:=yb7 (n:=x) hcc;have hwk:=yaq (a:=a) (ctx:=256*(G:Int)) (size:=256*(G:Int)) (pred:=0) hb hv (by unfold word;omega) zO yax;have hwl:=yap (a:=a) (ctx:=256*(G:Int)) (size:=256*(G:Int)) (pred:=0) hv;have hE:=zqp hg hG hGP hvs hs hl his;have hb3:(accB c x).ops.length=3:=rfl;have hc:=zqr his hwk hb0 hb1 hb2 zO;have hM0k:=his.ok;clear his;have hp0:pcE (base:Int) 0=(base:Int):=(by unfold pcE;omega)
 have hat:∀ (j:Nat) (it:It),(yao (accB c x) a (256*(G:Int)) (256*(G:Int)) 0)[j]?=some it→z07 M0.fet (pcE (base:Int) j)=some it.i:=fun j it hj=>by
  have:=hc.2 j it hj;rw [Nat.zero_add] at this;exact this
 obtain ⟨E,hEe⟩:∃ E,E=emE (accB c x) a (256*(G:Int)) 0:=⟨_,rfl⟩
 have hEa:E.a=a:=by rw [hEe];rfl
 have hEw:E.written=ybm (accB c x).ops:=by rw [hEe];rfl
 have hEs:E.size=256*(G:Int):=by rw [hEe];rfl
 have hwhole:yao (accB c x) a (256*(G:Int)) (256*(G:Int)) 0=entE E (256*(G:Int)) 1++(znw E 0 (accO c x)++zgk E 0 [⟨24,0,0,0,12⟩]):=by
  unfold yao;rw [← hEe];have hmk:ztr (accO c x) 0=0:=(by unfold ztr;rw [yca,if_neg zO]);show entE E (256*(G:Int)) 1++([]++(znw E (ztr (accO c x) 0) (accO c x)++zgk E (ztr (accO c x) 0) [⟨24,0,0,0,12⟩]))=_;rw [hmk,List.nil_append]
 rw [hwhole] at hc hat hwl⊢;have hB:0≤(base:Int)∧(base:Int)≤4000000000:=(by omega);obtain ⟨_,q2⟩:=zj6 (E:=E) hE (by rw [hEa];exact hA) hB (zqf junk 16) (zqg junk 16) (L:=1) zO hc.left;obtain ⟨R1,e1,r1⟩:=q2 hlim;have hc2:=hc.right;rw [Nat.zero_add] at hc2;obtain ⟨_,h2⟩:=zn2 r1 (by rw [hEa];exact hA) hB hEs hG (yb8 hcc hx hEw) (by rw [yca];exact hcc) 0 hc2.left;obtain ⟨j,it,R',M',hj,e2,hrel,hs2,hcase⟩:=h2 hst;rw [yb9,ycb,yca] at hs2 hcase;generalize hκ:(if (getV vs 2+x)%4294967296+szE c≤256*(G:Int) then (3:Int) else 2)=κ at hs2 hcase⊢
 have hjl:j<(znw E 0 (accO c x)).length:=by
  rcases Nat.lt_or_ge j (znw E 0 (accO c x)).length with h|h
  ·exact h
  ·rw [List.getElem?_eq_none h] at hj;cases hj
 have hj':(entE E (256*(G:Int)) 1++(znw E 0 (accO c x)++zgk E 0 [⟨24,0,0,0,12⟩]))[(entE E (256*(G:Int)) 1).length+j]?=some it:=by
  rw [zod,List.getElem?_append_left hjl];exact hj
 obtain ⟨k,hk,hit⟩:=e1.trans e2;rw [hp0] at hit
 have hstop:(it.i.op=48∧it.i.imm=0)∨(z7d it.i (pcE (base:Int) ((entE E (256*(G:Int)) 1).length+j)) R' M'=none∧23≤it.i.op∧it.i.op≤26):=by
  rcases hcase with ⟨_,rfl⟩|⟨_,hf⟩
  ·exact .inl z7k
  ·exact .inr ⟨zlp hf _,hf.1,hf.2.1⟩
 have hkind:(κ=3→it.i.op≠48)∧(it.i.op≠48→κ=3):=by
  rcases hcase with ⟨h2,rfl⟩|⟨h3,hf⟩
  ·exact ⟨fun h=>by omega,fun h=>absurd z7k.1 h⟩
  ·exact ⟨fun _=>by have:=hf.2.1;omega,fun _=>h3⟩
 simp only [List.length_append] at hwl;exact ⟨k,R',_,M',_,it,skIn E κ 0,by have:(accB c x).ops.length=3:=rfl;omega,hit,hat _ it hj',hstop,hj',hs2,rfl,hkind,hrel.mem,rfl⟩
theorem yc8 {P:Program} {w0:World} {G:Gs} {S:List Ow} {f:Fr} {o:Oper} {K:AV→Prop} {t t':TypeId} {x y:Operand} (a b:Bool) (hop:o.op= .binOp .eql t x y t') (ht:P.underlying t=some .bool) (hx:f.ev x=one (.bool a)) (hy:f.ev y=one (.bool b)) (hk:K (one (.bool (a==b)))):QRun P w0 G S f o K:=by
 refine ⟨_,hk,fun r act hf=>⟨_,ziz _ _,fun w hR=>?_⟩⟩;have h1:=hf.ev x;have h2:=hf.ev y;rw [hx] at h1;rw [hy] at h2;simp [execOp,hop,zi2 h1,zi2 h2,eqGuard,run_eql_bool w t a b ht]
section
variable {w:World}
end
end Go.Proofs.YtocafomnnkmjfaaGreat
