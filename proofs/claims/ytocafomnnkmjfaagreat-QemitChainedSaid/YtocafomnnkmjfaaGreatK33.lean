import Derived.Test.YtocafomnnkmjfaaGreatK32
set_option maxRecDepth 100000
set_option maxHeartbeats 4000000
namespace Go.Proofs.YtocafomnnkmjfaaGreat
open Go.RowKit
theorem zct (xs:List Value) (x2 x3:Value) (a:List Int):avals [.p (.agg (List.map CV.v xs)),.p (.agg (List.map CV.v (alL a))),.p (.c (.v x2)),.p (.c (.v x3))]=some [.agg xs.toArray,.agg (alL a).toArray,x2,x3]:=by
 simp only [avals,AV.val,Pc.val,z9d,CV.val]
section
variable {w:World}
theorem zeh {b:Blk} {A1 A2 A3:Option Addr} {c1 c2 c3:Nat} (tx:List Int) (l:List SiteP) {A:Option Addr} {cp:Nat} (hsl:SlAt w w.heap.size A (l.flatMap z5k)) (hn:0<tx.length∧tx.length%4=0∧tx.length≤200+100*b.ops.length) (hops:b.ops.length≤2000) (hll:l.length≤100000) (hbo:BuiltOk l (tx.length:Int)):
  Calls Tryz.prog 57 #[blkV b A1 A2 A3 c1 c2 c3,.agg #[strV tx,.slice A l.length cp],.int .i64 0] w fun e w'=>e= .returned (.bool true)∧Below w.heap.size w w':=by
 refine zfh [blkV b A1 A2 A3 c1 c2 c3,.agg #[strV tx,.slice A l.length cp],.int .i64 0] Tryz.func57 Tryz.ntmps57 rfl zS ?_;refine z3i ?_;(conv=>whnf);refine z3f fun r w1 hR=>?_;obtain ⟨p3,us,e1,e2,e3⟩:=hR.own 0 _ rfl;obtain rfl:=ziw (us:=[.slice A1 b.at_.length c1,.slice A2 b.pages.length c2,.slice A3 b.ops.length c3]) e3;obtain ⟨p4,us,f1,f2,f3⟩:=hR.own 1 _ rfl;obtain rfl:=ziw (us:=[strV tx,.slice A l.length cp]) f3;have hB1:=hR.toBelow;refine ⟨z6d [(2,.int .i64 0),(3,pV p3),(4,pV p4)],fun a' hf=>z6m ⟨z6k hf rfl,z6i hf 3 rfl e1,z6i hf 4 rfl f1,trivial⟩,?_⟩;clear hR e3 f3 e1 f1;have hsl1:SlAt w1 w1.heap.size A (l.flatMap z5k):=(hsl.below hB1 (Nat.le_refl _)).more hB1.size;refine z3i ?_;(conv=>whnf);refine ⟨_,zd1 (off:=0+0) f2 rfl,?_⟩;(conv=>whnf);refine z0b tx rfl rfl rfl ?_;(conv=>whnf);refine z25 ?_;refine z3i ?_;refine kB ?_;rw [show (((tx.length:Nat):Int)==0)=false from beq_eq_false_iff_ne.2 zO];refine kB ?_;refine ⟨by decide,0,?_,?_⟩
 ·rw [Int.tmod_eq_emod_of_nonneg zO];omega
 refine kB ?_;refine ⟨_,zd1 (off:=0+2) e2 rfl,?_⟩;refine kB ?_;refine ⟨100*(b.ops.length:Int),wr64 zO,?_⟩;refine kB ?_;refine ⟨200+100*(b.ops.length:Int),wr64 zO,?_⟩;refine kB ?_;rw [show decide ((tx.length:Int)>200+100*(b.ops.length:Int))=false from decide_eq_false zO];refine kB ?_;refine z23 (t:=false) rfl (fun hc=>Bool.noConfusion (show false=true from hc)) (fun _=>z3j (zcd ?_));refine z25 ?_;refine z3i ?_;(conv=>whnf);refine z21 ?_;refine z3b (fun j:{j:Nat//j≤l.length}=>[(4,one (pV p4)),(7,one (.int .i64 (tx.length:Int))),(8,one (.int .i64 (j.1:Int)))]) (fun _ w'=>Below w1.heap.size w1 w') (fun j=>l.length-j.1) ⟨0,by omega⟩ Tn (fun r w' hR=>hR.toBelow) (fun j w' hJ=>?_);obtain ⟨j,hj⟩:=j;dsimp only at hJ⊢;have f2':=(hJ.block p4 (zpz f2)).trans f2;have hs1:SlAt w' w'.heap.size A (l.flatMap z5k):=(hsl1.below hJ (Nat.le_refl _)).more hJ.size;refine z25 ?_;refine z3i ?_;(conv=>whnf);refine ⟨_,zd1 (off:=0+1) f2' rfl,?_⟩;(conv=>whnf);refine z23 rfl (fun hc=>z3j (zcd ?_)) (fun hc=>?_)
 ·have hlt:j<l.length:=by have:=of_decide_eq_true hc;omega
  obtain ⟨s,hs⟩:∃ s,l[j]?=some s:=⟨_,List.getElem?_eq_getElem hlt⟩
  obtain ⟨k1,k2,k3,k4,k5⟩:=hbo.at_ j s hs;obtain ⟨bb,of2,hA,hcl⟩:=zfx hs1 hs;refine z3d (α:=Unit) (fun _=>[(4,one (pV p4)),(7,one (.int .i64 (tx.length:Int))),(8,one (.int .i64 (j:Int)))]) (fun _ w2=>Below w1.heap.size w1 w2) ?_ fun _ w2 hB=>?_
  ·refine z21 ?_
   refine z3i ?_;(conv=>whnf);refine ⟨_,zd1 (off:=0+1) f2' rfl,?_⟩;rw [hA];(conv=>whnf)
   (refine ⟨⟨by omega,by omega⟩,?_⟩;(conv=>whnf))
   refine ⟨z5k s,hcl,rfl,?_⟩;(conv=>whnf);refine z3f fun r w3 hR=>?_;obtain ⟨p9,us,y1,y2,y3⟩:=hR.own 0 _ rfl;obtain rfl:=ziw (us:=z5k s) y3;have hB3:=hR.toBelow;refine ⟨z6d [(4,pV p4),(7,.int .i64 (tx.length:Int)),(8,.int .i64 (j:Int)),(9,pV p9)],fun a' hf=>z6m ⟨z6k hf rfl,z6k hf rfl,z6k hf rfl,z6i hf 9 rfl y1,trivial⟩,?_⟩;clear hR y1 y3;have f3:=(hB3.block p4 (zpz f2')).trans f2';have hs3:SlAt w3 w3.heap.size A (l.flatMap z5k):=(hs1.below hB3 (Nat.le_refl _)).more hB3.size;refine z3i ?_;refine z2w mixed zK ?_;(conv=>whnf);refine ⟨_,zd1 (off:=0+0) y2 rfl,?_⟩;refine kB ?_;rw [show decide (s.off<0)=false from decide_eq_false zO];refine kB ?_;refine ⟨_,zd1 (off:=0+0) y2 rfl,?_⟩;refine kB ?_;refine ⟨by decide,0,?_,?_⟩
   ·rw [Int.tmod_eq_emod_of_nonneg zO];omega
   refine kB ?_;refine ⟨_,zd1 (off:=0+0) y2 rfl,?_⟩;refine kB ?_;refine ⟨s.off+4,wr64 zO,?_⟩;refine kB ?_;rw [show decide (s.off+4>(tx.length:Int))=false from decide_eq_false zO];refine kB ?_;by_cases hj0:j=0
   ·rw [show decide ((j:Int)>0)=false from decide_eq_false zO]
    refine kB ?_;refine ⟨_,zd1 (off:=0+5) y2 rfl,?_⟩;refine kB ?_;rw [show decide (s.const<0)=false from decide_eq_false zO];refine kB ?_;refine ⟨_,zd1 (off:=0+5) y2 rfl,?_⟩;refine kB ?_;refine ⟨s.const+8,wr64 zO,?_⟩;refine kB ?_;rw [show decide (s.const+8>(tx.length:Int))=false from decide_eq_false zO];refine kB ?_;refine z23 (t:=false) rfl (fun hc=>Bool.noConfusion (show false=true from hc)) (fun _=>?_);exact z3j (zb4 (zca () Tn fun r w3 hR=>zdg hJ (zdj hB3 hR.toBelow) hJ.size))
   ·rw [show decide ((j:Int)>0)=true from decide_eq_true zO]
    refine kB ?_
    obtain ⟨t,ht⟩:∃ t,l[j-1]?=some t:=⟨_,List.getElem?_eq_getElem zO⟩
    have hinc:=hbo.inc (j-1) t s ht (by rw [show j-1+1=j by omega];exact hs);obtain ⟨bb,of2,hA,hct⟩:=zfx hs3 ht;refine ⟨_,zd1 (off:=0+0) y2 rfl,?_⟩;refine kB ?_;refine ⟨_,zd1 (off:=0+1) f3 rfl,?_⟩;rw [hA];refine kB ?_;refine ⟨((j-1:Nat):Int),by rw [show (j:Int)-1=((j-1:Nat):Int) by omega];exact wr64 zO,?_⟩;refine kB ?_;refine ⟨⟨by omega,by omega⟩,?_⟩;refine kB ?_;refine ⟨_,zfn (k:=0) hct rfl,?_⟩;refine kB ?_;rw [show decide (s.off≤t.off)=false from decide_eq_false zO];refine kB ?_;refine ⟨_,zd1 (off:=0+5) y2 rfl,?_⟩;refine kB ?_;rw [show decide (s.const<0)=false from decide_eq_false zO];refine kB ?_;refine ⟨_,zd1 (off:=0+5) y2 rfl,?_⟩;refine kB ?_;refine ⟨s.const+8,wr64 zO,?_⟩;refine kB ?_;rw [show decide (s.const+8>(tx.length:Int))=false from decide_eq_false zO];refine kB ?_;refine z23 (t:=false) rfl (fun hc=>Bool.noConfusion (show false=true from hc)) (fun _=>?_);exact z3j (zb4 (zca () Tn fun r w3 hR=>zdg hJ (zdj hB3 hR.toBelow) hJ.size))
  ·refine z3m ?_
   (conv=>whnf);refine ⟨((j+1:Nat):Int),by rw [show (j:Int)+1=((j+1:Nat):Int) by omega];exact wr64 zO,?_⟩;(conv=>whnf);exact zcc ⟨j+1,by omega⟩ Tn (fun r w3 hR=>zdg hB hR.toBelow hB.size) (by show l.length-(j+1)<l.length-j;omega)
 ·refine z3m ?_
  (conv=>whnf);refine zb7 (zcf (zb6 (zcd ?_)));refine z3i ?_;(conv=>whnf);refine z3m ?_;(conv=>whnf);refine zcg ?_;(conv=>whnf)
  exact zmp rfl fun w9 hB9=>⟨rfl,zdj (zdj hB1 hJ) hB9⟩
end
def sanB:Blk:=⟨[256,260],[1],[⟨20,0,0,0,0⟩,⟨1,1,0,0,5⟩,⟨20,0,0,0,1⟩,⟨21,0,2,0,0⟩,⟨24,0,0,0,264⟩]⟩
theorem z2r:z9g sanB=true:=by decide
theorem z2q:sanB.ok:=by
 refine ⟨fun x hx=>?_,fun x hx=>?_,fun o ho=>?_,by decide,by decide,by decide⟩
 ·rcases List.mem_cons.1 hx with rfl|hx
  ·unfold word;decide
  ·rw [List.mem_singleton.1 hx];unfold word;decide
 ·rw [List.mem_singleton.1 hx];unfold mid;decide
 ·unfold sanB at ho
  simp only [List.mem_cons,List.not_mem_nil,or_false] at ho
  rcases ho with rfl|rfl|rfl|rfl|rfl<;>exact ⟨by unfold mid;decide,by unfold mid;decide,by unfold mid;decide,by unfold mid;decide,by unfold word;decide⟩
theorem zq9 {a:List Int} (ha:a.length=28) {v:Int} (hv:0≤v∧v<28):(List.map CV.v (alL a))[0+v.toNat*tsz Tryz.prog 3]?=some (.v (.int .i64 (getV a v))):=by
 show (List.map CV.v (alL a))[0+v.toNat*1]?=_;rw [Nat.zero_add,Nat.mul_one,List.getElem?_map,List.getElem?_map];unfold getV;rw [List.getElem?_eq_getElem zO];rfl
theorem zra {a:List Int} (ha:a.length=28):(List.map CV.v (alL a)).length=28:=by rw [List.length_map,List.length_map,ha]
theorem zrb {a:List Int} {v x:Int}:z3z (List.map CV.v (alL a)) (0+v.toNat*tsz Tryz.prog 3) [CV.v (Value.int .i64 x)]=List.map CV.v (alL (a.set v.toNat x)):=by
 rw [z4h];show List.map CV.v ((alL a).set (0+v.toNat*1) _)=_;rw [Nat.zero_add,Nat.mul_one];unfold alL;simp only [List.map_set]
theorem zwi (S:List Ow):∀ a:List Int,zwf S (List.map CV.v (alL a))=true
 |[]=>rfl
 |v::vs=>by
  show (match oneS S (.v (.int .i64 v)) with|true=>zwf S (List.map CV.v (alL vs))|false=>false)=true;exact zwi S vs
theorem yaa:VarsOk (List.replicate 28 0):=⟨rfl,fun x hx=>by rw [List.eq_of_mem_replicate hx];exact yap⟩
theorem z98:VarsOk ((List.replicate 28 0).set 2 1):=z4g yaa 2 (by unfold word;decide)
theorem zcq (xs:List Value) (a:List Int) (ys:List Value) (x3:Value) (vs:List Int) (x5 x6 x7:Value):avals [.p (.agg (List.map CV.v xs)),.p (.agg (List.map CV.v (alL a))),.p (.agg (List.map CV.v ys)),.p (.c (.v x3)),.p (.agg (z95 vs)),.p (.c (.v x5)),.p (.c (.v x6)),.p (.c (.v x7))]=some [.agg xs.toArray,.agg (alL a).toArray,.agg ys.toArray,x3,z97 vs,x5,x6,x7]:=by
 simp only [avals,AV.val,Pc.val,z9d,CV.val]
def Blky (b:Blk) (w:World) (e:Ending) (w':World):Prop:=∃ A1 A2 A3 c1 c2 c3,e= .returned (blkV b A1 A2 A3 c1 c2 c3)∧BlkAt w' b A1 A2 A3∧Below w.heap.size w w'
theorem z6c {w0:World} {G:Gs} {S:List Ow} {r:Env} {w:World} (hR:Rel w0 G S r w) {i n c:Nat} {t:TypeId} {xs:List Value} (hi:S[i]?=some (.cells t (xs.map CV.v))) {u:Value} (hd:CV.den r (.sl i 0 n c) u):∃ b,u= .slice (some ⟨b,0,none⟩) n c∧SlAt w w.heap.size (some ⟨b,0,none⟩) xs:=by
 simp only [CV.den] at hd;obtain ⟨b,hb,hu⟩:=hd;exact ⟨b,hu,hR.slAt hi hb⟩
section
variable {w:World}
theorem zd5:Calls Tryz.prog 56 #[] w fun e w'=>Blky sanB w e w':=by
 refine zfh [] Tryz.func56 Tryz.ntmps56 rfl zS ?_;refine z3m ?_;(conv=>whnf);refine zcg ?_;(conv=>whnf);refine ⟨fun r2 w9 u hR hd=>?_⟩;obtain ⟨us,rfl,hl⟩:=ziz hd;simp only [denL] at hl;obtain ⟨u1,l1,rfl,k1,u2,l2,rfl,k2,u3,l3,rfl,k3,rfl⟩:=hl;have k1:CV.den r2 (.sl 1 0 2 2) u1:=k1;have k2:CV.den r2 (.sl 2 0 1 1) u2:=k2;have k3:CV.den r2 (.sl 3 0 5 5) u3:=k3;obtain ⟨b1,rfl,s1⟩:=z6c (xs:=sanB.at_.map (.int .u32)) hR rfl k1;obtain ⟨b2,rfl,s2⟩:=z6c (xs:=sanB.pages.map (.int .i64)) hR rfl k2;obtain ⟨b3,rfl,s3⟩:=z6c (xs:=sanB.ops.flatMap opC) hR rfl k3;exact ⟨_,_,_,2,1,5,rfl,⟨s1,s2,s3⟩,hR.toBelow⟩
theorem z2s:Calls Tryz.prog 13 #[] w fun e w'=>e= .returned (.bool true)∧Below w.heap.size w w':=by
 have hAl:AlOk zvk:=zvp.ok zO;have hal:=zvp.range zO;have hva:=za4 hAl
 obtain ⟨a,ha⟩:∃ a,a=zvk:=⟨_,rfl⟩
 rw [← ha] at hAl hal hva;have hal28:=hAl.len
 obtain ⟨l,hle⟩:∃ l,l=yag sanB a (256*((1:Nat):Int)) (256*((1:Nat):Int)) 0:=⟨_,rfl⟩
 have htl:=z8o l
 have h8:8≤l.length:=by rw [hle];exact yam _ _ _ _ _
 have hw:l.length≤29+25*5:=by rw [hle];exact yah z2r
 have hsc:=z5s l 0
 have hbo:BuiltOk (z5q 0 l) (((z8n l).length:Nat):Int):=by
  rw [htl,show ((4*l.length:Nat):Int)=4*(l.length:Int) by omega,hle];exact yak z2q z2r yap
 have hv0:=yaa;refine zfh [] Tryz.func13 Tryz.ntmps13 rfl zS ?_;refine z3i ?_;(conv=>whnf);refine z25 (z26 0 rfl rfl rfl ?_);(conv=>whnf);refine ⟨by kernel_rfl,fun r w1 us' hR hd=>?_⟩;obtain rfl:=zcs (xs:=[]) rfl hd;have hB0:=hR.toBelow
 refine (zd5 (w:=w1)).mono fun e w2 ⟨A1,A2,A3,c1,c2,c3,he,hBA2,hB12⟩=>⟨_,he,?_⟩
 have hB2:=zdg hB0 hB12 hB0.size;clear hR hd hB0 hB12;(conv=>whnf);refine zcd ?_;have hla:=zra hal28;refine z3i ?_;(conv=>whnf);refine ze2 (x:= .agg (alL zvk).toArray) (xs:=[]) rfl zK (fun r w' hR=>zvs w') ?_;rw [← ha];(conv=>whnf);erw [zdl (l:=List.map CV.v (alL a)) (n:=28) hla];(conv=>whnf);rw [zwi];(conv=>whnf);erw [show Nat.ble (0+(List.map CV.v (alL a)).length) (List.map CV.v (alL (List.replicate 28 0))).length=true from Nat.ble_eq_true_of_le (by rw [hla];decide)];(conv=>whnf);refine z3f fun r w3 hR=>?_;obtain ⟨p1,us,e1,e2,e3⟩:=hR.own 0 _ rfl;obtain rfl:=ziw (us:=[.slice A1 sanB.at_.length c1,.slice A2 sanB.pages.length c2,.slice A3 sanB.ops.length c3]) e3;obtain ⟨p2,us,f1,f2,f3⟩:=hR.own 1 _ rfl;have f3':denL r (z3z (List.map CV.v (alL (List.replicate 28 0))) 0 (List.map CV.v (alL a))) us:=f3;rw [z32 (by rw [hla];rfl)] at f3';obtain rfl:=ziw (us:=alL a) f3';have hB3:=zdg hB2 hR.toBelow hB2.size;have hBA3:=hBA2.later hR.toBelow;refine ⟨z6d [(1,pV p1),(2,pV p2)],fun a' hf=>z6m ⟨z6i hf 1 rfl e1,z6i hf 2 rfl f1,trivial⟩,?_⟩;clear hR e3 f3 f3' e1 f1 hB2 hBA2;refine z25 (z27 2 rfl rfl rfl ?_);(conv=>whnf);refine ⟨_,zd0 e2,rfl,?_⟩;(conv=>whnf);refine ⟨alL a,zd0 f2,by rw [List.length_map,hal28];rfl,?_⟩;(conv=>whnf);refine ⟨by kernel_rfl,fun r w4 us' hR hd=>?_⟩;obtain rfl:=zcs (xs:=[blkV sanB A1 A2 A3 c1 c2 c3,.agg (alL a).toArray,.int .u32 256,.int .i64 256]) (zct _ _ _ a) hd;have hB34:=hR.toBelow;have hBA4:=hBA3.later hB34;refine (zjn sanB A1 A2 A3 c1 c2 c3 a 256 256 z2q z2r hBA4.pages hBA4.ops hal28 hva (by unfold word;decide) (by decide) hal).mono fun e w5 ⟨⟨A,cp,he,hsl⟩,hB45⟩=>?_;rw [show yag sanB a 256 256 0=l from hle.symm] at he hsl;have hB35:=zdg hB34 hB45 hB34.size;refine ⟨_,AV.of (.tuple #[codV l A cp,.int .i64 0]),w5,Gs.nil,[(1,one (pV p1)),(2,one (pV p2))],[],Env.none,he,z1o w5,fun a hf=>zn1 ⟨z6j hf 1 rfl,z6j hf 2 rfl,trivial⟩,AV.of_den _ _,?_⟩;clear hR hd hBA4 hB34 hB45 he;(conv=>whnf);refine zcd ?_;refine z3f fun r w6 hR=>?_;obtain ⟨p3,us,y1,y2,y3⟩:=hR.own 0 _ rfl;obtain rfl:=ziw (us:=[strV (z8n l),.slice A (z5q 0 l).length cp]) y3;have hB56:=hR.toBelow;refine ⟨z6d [(1,pV p1),(2,pV p2),(3,pV p3),(4,.int .i64 0)],fun a' hf=>z6m ⟨z6k hf rfl,z6k hf rfl,z6i hf 3 rfl y1,z6k hf rfl,trivial⟩,?_⟩;clear hR y1 y3;have hB36:=zdg hB35 hB56 hB35.size;have e26:=(hB36.block p1 (zpz e2)).trans e2;have f26:=(hB36.block p2 (zpz f2)).trans f2;have hBA6:=hBA3.later hB36;have hB6:=zdg hB3 hB36 hB3.size;have hsl6:SlAt w6 w6.heap.size A ((z5q 0 l).flatMap z5k):=(hsl.below hB56 (Nat.le_refl _)).more hB56.size;clear hsl hB56 hB35 hB36 e2 f2 hBA3 hB3;refine z3i ?_;(conv=>whnf);refine ⟨_,zd0 e26,rfl,?_⟩;(conv=>whnf);refine ⟨_,zd0 y2,rfl,?_⟩;(conv=>whnf);refine ze2 (x:= .bool true) (xs:=[blkV sanB A1 A2 A3 c1 c2 c3,codV l A cp,.int .i64 0]) rfl zK (fun r w' hR=>zeh (z8n l) (z5q 0 l) ((hsl6.below hR.toBelow (Nat.le_refl _)).more hR.toBelow.size) (by rw [htl];show _∧_∧_≤200+100*5;omega) (by decide) zO hbo) ?_;(conv=>whnf);refine z25 ?_;refine z3i ?_;(conv=>whnf);refine z23 (t:=false) rfl (fun hc=>Bool.noConfusion (show false=true from hc)) (fun _=>z3j (zcd ?_));refine z25 (z26 0 rfl rfl rfl ?_);(conv=>whnf);refine ⟨by kernel_rfl,fun r w7 us' hR hd=>?_⟩;obtain rfl:=zcs (xs:=[intV ((1:Nat):Int),.bool false]) rfl hd;have hB67:=hR.toBelow
 refine (zu0 1 w7 zO).mono fun e w8 ⟨q0,qs,he,hn⟩=>⟨_,he,?_⟩
 have hB68:=zdg hB67 hn.below hB67.size;have hQ8:=hn.at_;have hM0:(MemP.zero 1).ok (256*1) 1:=zuw zO;have e28:=(hB68.block p1 (zpz e26)).trans e26;have f28:=(hB68.block p2 (zpz f26)).trans f26;have y28:=(hB68.block p3 (zpz y2)).trans y2;have hBA8:=hBA6.later hB68;have hB8:=zdg hB6 hB68 hB6.size;have hsl8:SlAt w8 w8.heap.size A ((z5q 0 l).flatMap z5k):=(hsl6.below hB68 (Nat.le_refl _)).more hB68.size;clear hR hd hn hsl6 hB68 hB67 hBA6 e26 f26 y2 hB6;(conv=>whnf);refine zcd ?_;refine z3i ?_;(conv=>whnf);refine z3i ?_;(conv=>whnf);refine ⟨_,zd0 e28,rfl,?_⟩;(conv=>whnf);refine ⟨alL a,zd0 f28,by rw [List.length_map,hal28];rfl,?_⟩;(conv=>whnf);refine ⟨_,zd0 y28,rfl,?_⟩;(conv=>whnf);refine ze2 (x:= .bool true) (xs:=[blkV sanB A1 A2 A3 c1 c2 c3,.agg (alL a).toArray,codV l A cp,pV q0,z97 (List.replicate 28 0),.int .u32 10,.int .u32 100,intV ((0:Nat):Int)]) (zcq _ a _ _ (List.replicate 28 0) _ _ _) zK (fun r w' hR=>za1 z2q z2r (hBA8.later hR.toBelow) hAl (G:=1) ⟨by omega,by omega⟩ (zvw (zuc _ _ _) hQ8 hR.toBelow) hM0 (vs:=(List.replicate 28 0)) yaa (by unfold word;decide) (by unfold word;decide) 0 zO hle ((hsl8.below hR.toBelow (Nat.le_refl _)).more hR.toBelow.size)) ?_;(conv=>whnf);refine z3i ?_;(conv=>whnf)
 (refine ⟨⟨by omega,by omega⟩,?_⟩;(conv=>whnf))
 refine z3i ?_;(conv=>whnf);refine ⟨_,zd0 e28,rfl,?_⟩;(conv=>whnf);refine ⟨alL a,zd0 f28,by rw [List.length_map,hal28];rfl,?_⟩;(conv=>whnf);refine ⟨_,zd0 y28,rfl,?_⟩;(conv=>whnf);refine ze2 (x:= .bool true) (xs:=[blkV sanB A1 A2 A3 c1 c2 c3,.agg (alL a).toArray,codV l A cp,pV q0,z97 ((List.replicate 28 0).set 2 1),.int .u32 10,.int .u32 100,intV ((1:Nat):Int)]) (zcq _ a _ _ ((List.replicate 28 0).set 2 1) _ _ _) zK (fun r w' hR=>za1 z2q z2r (hBA8.later hR.toBelow) hAl (G:=1) ⟨by omega,by omega⟩ (zvw (zuc _ _ _) hQ8 hR.toBelow) hM0 (vs:=((List.replicate 28 0).set 2 1)) z98 (by unfold word;decide) (by unfold word;decide) 1 zO hle ((hsl8.below hR.toBelow (Nat.le_refl _)).more hR.toBelow.size)) ?_;(conv=>whnf);refine z3i ?_;(conv=>whnf);refine ⟨_,zd0 e28,rfl,?_⟩;(conv=>whnf);refine ⟨alL a,zd0 f28,by rw [List.length_map,hal28];rfl,?_⟩;(conv=>whnf);refine ⟨_,zd0 y28,rfl,?_⟩;(conv=>whnf);refine ze2 (x:= .bool true) (xs:=[blkV sanB A1 A2 A3 c1 c2 c3,.agg (alL a).toArray,codV l A cp,pV q0,z97 ((List.replicate 28 0).set 2 1),.int .u32 10,.int .u32 11,intV ((2:Nat):Int)]) (zcq _ a _ _ ((List.replicate 28 0).set 2 1) _ _ _) zK (fun r w' hR=>za1 z2q z2r (hBA8.later hR.toBelow) hAl (G:=1) ⟨by omega,by omega⟩ (zvw (zuc _ _ _) hQ8 hR.toBelow) hM0 (vs:=((List.replicate 28 0).set 2 1)) z98 (by unfold word;decide) (by unfold word;decide) 2 zO hle ((hsl8.below hR.toBelow (Nat.le_refl _)).more hR.toBelow.size)) ?_;(conv=>whnf);refine z3i ?_;refine kB ?_;refine ze2 (x:=intV 9) (xs:=[]) rfl zK (fun r w' hR=>z1i w') ?_;refine kB ?_;refine ze2 (x:=intV 9) (xs:=[intV 8]) rfl zK (fun r w' hR=>z1g 8 w' zO) ?_;refine kB ?_;refine z3m ?_;(conv=>whnf);refine zcg ?_;(conv=>whnf)
 exact zmp rfl fun w9 hB9=>⟨rfl,zdj hB8 hB9⟩
end
end Go.Proofs.YtocafomnnkmjfaaGreat
