import Derived.Test.YtocafomnnkmjfaaGreatK27
set_option maxRecDepth 100000
set_option maxHeartbeats 2000000
namespace Go.Proofs.YtocafomnnkmjfaaGreat
open Go.RowKit
structure HostE (G n p:Nat) (vs:List Int) (g M:MemP) (steps limit:Int):Prop where
 vars:VarsOk vs
 mem:M.ok n p
 gok:g.ok (256*G) G
 gp:G<p
 words:∀ v,0≤v→v<19→M.load (cxE G v) 0 4=getV vs v
 ws:M.load (cxE G 28) 0 4=steps
 wl:M.load (cxE G 29) 0 4=limit
 guest:∀ y,0≤y→y<256*(G:Int)→M.get y=g.get y
 grr:∀ y r,0≤y→y<256*(G:Int)→(r=1∨r=2)→M.right y r=g.right y r
 crr:∀ y,256*(G:Int)≤y→y<256*(G:Int)+256→∀ r,(r=1∨r=2)→M.right y r=true
section
variable {E:Em} {G n p:Nat} {vs:List Int} {g:MemP} {R:Int→Int} {M:MemP} {F:Int→Option QI} {B:Int} {k:Nat} {steps limit:Int}
theorem HostE.rel (h:HostE G n p vs g M steps limit) (_hA:AlOk E.a) (hw:∀ j,0≤j→j<16→word (R j)) (h0:R 0=0) (h15:R 15=256*(G:Int)) (hr:∀ v,0≤v→v<19→0≤getV E.a v→R (getV E.a v+1)=getV vs v):RelE E G n p 0 vs g M R M:=by
 have kn:∀ v,zsw 0 v→0≤v∧v<19:=fun v hv=>by
  obtain ⟨a,b,c,d⟩:=hv;rcases d with d|d
  ·omega
  ·rw [Nat.zero_testBit] at d;cases d
 exact ⟨h.vars,h.mem,h.gok,h.gp,hw,h0,h15,fun v hv ha=>hr v (kn v hv).1 (kn v hv).2 ha,fun v hv _=>h.words v (kn v hv).1 (kn v hv).2,fun v v0 v1 _ _=>h.words v v0 v1,h.guest,h.grr,h.crr,fun _ _=>rfl,rfl⟩
theorem zj8 (h:HostE G n p vs g M steps limit) (hA:AlOk E.a) (hB:0≤B∧B≤4000000000):∀ (j:Nat),j≤19→∀ {R:Int→Int},(∀ j,0≤j→j<16→word (R j))→R 0=0→R 15=256*(G:Int)→Cd F B k (zjz E j)→
  ∃ R',Ex F B k R M (k+(zjz E j).length) R' M (zjz E j).length∧(∀ j,0≤j→j<16→word (R' j))∧R' 0=0∧R' 15=256*(G:Int)∧∀ v,0≤v→v<(j:Int)→0≤getV E.a v→R' (getV E.a v+1)=getV vs v
 |0,_,R,hw,h0,h15,_=>⟨R,Ex.refl,hw,h0,h15,fun v a b=>by omega⟩
 |j+1,hj,R,hw,h0,h15,hc=>by
  obtain ⟨R1,e1,w1,z1,b1,v1⟩:=zj8 h hA hB j zO hw h0 h15 (Cd.left (m:=ent1 E j) hc);have hc2:Cd F B (k+(zjz E j).length) (ent1 E j):=Cd.right hc;show ∃ R',Ex F B k R M (k+(zjz E j++ent1 E j).length) R' M (zjz E j++ent1 E j).length∧_;rw [List.length_append, ← Nat.add_assoc];unfold ent1 at hc2⊢;have hs1:=h.mem.np;have hs2:=h.mem.pmax;have hs3:=h.gp;by_cases ha:0≤getV E.a (j:Int)
  ·rw [if_pos ha] at hc2⊢
   have hlo:=(hA.lo (j:Int) zO zO).2;have hreg:regE (getV E.a (j:Int))=getV E.a (j:Int)+1:=if_pos ⟨ha,hlo⟩;have hcx:(R1 15+4*(j:Int))%4294967296=cxE G (j:Int):=(by rw [b1];unfold cxE;omega)
   have hbad:M.bad (cxE G (j:Int)) 1 0 4=none:=zc9.2 fun q _ hq=>by
    rw [show (cxE G (j:Int)+q)%4294967296=cxE G (j:Int)+q by unfold cxE;omega];exact h.crr _ (by unfold cxE;omega) (by unfold cxE;omega) 1 (.inl rfl)
   have e2:=zlc (R:=R1) (M:=M) hB hc2 (by rw [hcx];exact hbad);rw [hcx,h.words (j:Int) zO zO,hreg] at e2;have hvw:=zop h.vars (j:Int);refine ⟨_,e1.trans e2,fun q q0 q1=>z9a w1 _ hvw q q0 q1,z9b z1 _ _,(z87 zO).trans b1,fun v h0 h1 hva=>?_⟩;by_cases hvj:v=(j:Int)
   ·subst hvj;exact z86 zO
   ·have hne:getV E.a v≠getV E.a (j:Int):=fun e=>hvj (hA.inj v (j:Int) h0 zO zO zO hva e)
    rw [z87 zO];exact v1 v h0 zO hva
  ·rw [if_neg ha]
   refine ⟨R1,e1,w1,z1,b1,fun v h0 h1 hva=>?_⟩
   have hvj:v≠(j:Int):=fun e=>by subst e;exact ha hva
   exact v1 v h0 zO hva
theorem zka (h:HostE G n p vs g M steps limit) (hA:AlOk E.a) (hB:0≤B∧B≤4000000000) (hw:∀ j,0≤j→j<16→word (R j)) (h0:R 0=0) {L:Int} (_hL:0≤L∧L≤64) (hc:Cd F B 0 (entE E (256*(G:Int)) L)):
  (limit<(steps+L)%4294967296→∃ R',Ex F B 0 R M 6 R' M 6)∧
  (¬limit<(steps+L)%4294967296→∃ R',Ex F B 0 R M (entE E (256*(G:Int)) L).length R' (MemP.store (cxE G 28) 0 4 ((steps+L)%4294967296) M) (entE E (256*(G:Int)) L).length∧RelE E G n p 0 vs g (MemP.store (cxE G 28) 0 4 ((steps+L)%4294967296) M) R' (MemP.store (cxE G 28) 0 4 ((steps+L)%4294967296) M)):=by
 have hs1:=h.mem.np;have hs2:=h.mem.pmax;have hs3:=h.gp;have hcx:word (256*(G:Int)):=(by unfold word;omega)
 obtain ⟨S,hS⟩:∃ S,S=(steps+L)%4294967296:=⟨_,rfl⟩
 have hSw:word S:=by rw [hS];exact yau _
 rw [← hS]
 have hsw:word steps:=by rw [← h.ws];exact zto _ _ _ _
 have hlw:word limit:=by rw [← h.wl];exact zto _ _ _ _
 have e1:=zla (R:=R) (M:=M) hB hc.left (by decide) hcx
 have w1:∀ j,0≤j→j<16→word (updR R 15 (256*(G:Int)) j):=fun j j0 j1=>z9a hw _ hcx j j0 j1
 have z1:updR R 15 (256*(G:Int)) 0=0:=z9b h0 _ _
 have b1:updR R 15 (256*(G:Int)) 15=256*(G:Int):=z86 (by decide)
 generalize updR R 15 (256*(G:Int))=R1 at e1 w1 z1 b1;have hcr:=hc.right;rw [show (0:Nat)+(con2 15 (256*(G:Int))).length=2 from rfl] at hcr;have hl:=hcr.left
 have hbad:∀ v,0≤v→v<64→∀ r,(r=1∨r=2)→M.bad (cxE G v) r 0 4=none:=fun v v0 v1 r hr=>zc9.2 fun q _ hq=>by
  rw [show (cxE G v+q)%4294967296=cxE G v+q by unfold cxE;omega];exact h.crr _ (by unfold cxE;omega) (by unfold cxE;omega) r hr
 have a28:∀ R2:Int→Int,R2 15=256*(G:Int)→(R2 15+112)%4294967296=cxE G 28:=fun R2 hb=>by rw [hb];unfold cxE;omega
 have a29:∀ R2:Int→Int,R2 15=256*(G:Int)→(R2 15+116)%4294967296=cxE G 29:=fun R2 hb=>by rw [hb];unfold cxE;omega
 have e2:=zlc (R:=R1) (M:=M) hB hl (by rw [a28 R1 b1];exact hbad 28 zO zO 1 (.inl rfl));rw [a28 R1 b1,h.ws] at e2;have w2:∀ j,0≤j→j<16→word (updR R1 10 steps j):=fun j j0 j1=>z9a w1 _ hsw j j0 j1;have z2:updR R1 10 steps 0=0:=z9b z1 _ _;have b2:updR R1 10 steps 15=256*(G:Int):=(z87 (by decide)).trans b1
 have v2:updR R1 10 steps 10=steps:=z86 (by decide)
 generalize updR R1 10 steps=R2 at e2 w2 z2 b2 v2;have e3:=zlc (R:=R2) (M:=M) hB hl.tail (by rw [a29 R2 b2];exact hbad 29 zO zO 1 (.inl rfl));rw [a29 R2 b2,h.wl] at e3;have w3:∀ j,0≤j→j<16→word (updR R2 11 limit j):=fun j j0 j1=>z9a w2 _ hlw j j0 j1;have z3:updR R2 11 limit 0=0:=z9b z2 _ _;have b3:updR R2 11 limit 15=256*(G:Int):=(z87 (by decide)).trans b2;have v3:updR R2 11 limit 10=steps:=(z87 (by decide)).trans v2
 have l3:updR R2 11 limit 11=limit:=z86 (by decide)
 generalize updR R2 11 limit=R3 at e3 w3 z3 b3 v3 l3;have e4:=zk7 (R:=R3) (M:=M) hB hl.tail.tail;rw [v3, ← hS] at e4;have w4:∀ j,0≤j→j<16→word (updR R3 10 S j):=fun j j0 j1=>z9a w3 _ hSw j j0 j1;have z4:updR R3 10 S 0=0:=z9b z3 _ _;have b4:updR R3 10 S 15=256*(G:Int):=(z87 (by decide)).trans b3
 have v4:updR R3 10 S 10=S:=z86 (by decide)
 have l4:updR R3 10 S 11=limit:=(z87 (by decide)).trans l3;generalize updR R3 10 S=R4 at e4 w4 z4 b4 v4 l4;have e5:=zk8 (R:=R4) (M:=M) hB (e:=2) hl.tail.tail.tail (.inr (.inr rfl)) zO;rw [l4,v4] at e5;have eall:=(((e1.trans e2).trans e3).trans e4).trans e5
 constructor
 ·intro hlt
  rw [if_neg (by show ¬brE 35 limit S=true;unfold brE;simp [hlt])] at eall;exact ⟨R4,eall⟩
 ·intro hlt
  rw [if_pos (by show brE 35 limit S=true;unfold brE;simpa using hlt)] at eall;have hc6:=hl.tail.tail.tail.tail.tail;have e6:=zlh (R:=R4) (M:=M) hB hc6 (by rw [a28 R4 b4];exact hbad 28 zO zO 2 (.inr rfl));rw [a28 R4 b4,v4] at e6
  have hrel0:RelE ⟨List.replicate 28 (-1),0,0,0,0⟩ G n p 0 vs g M R4 M:=h.rel ⟨rfl,fun v v0 v1=>by
    have:getV (List.replicate 28 (-1)) v= -1:=by unfold getV;rw [List.getElem?_replicate,if_pos zO];rfl
    rw [this];omega,rfl,fun u v u0 u1 _ _ hu _=>by
    have:getV (List.replicate 28 (-1)) u= -1:=by unfold getV;rw [List.getElem?_replicate,if_pos zO];rfl
    rw [this] at hu;omega⟩ w4 z4 b4 (fun v v0 v1 hva=>by
    have:getV (List.replicate 28 (-1)) v= -1:=(by unfold getV;rw [List.getElem?_replicate,if_pos zO];rfl);have hva:0≤getV (List.replicate 28 (-1)) v:=hva
    rw [this] at hva;omega)
  obtain ⟨c1,c2,c3,c4,c5,c6⟩:=hrel0.cxst (v:=28) zO hSw
  have h':HostE G n p vs g (MemP.store (cxE G 28) 0 4 S M) S limit:=⟨h.vars,c1,h.gok,h.gp,fun v v0 v1=>by rw [c3 v v0 zO zO];exact h.words v v0 v1,c2,by rw [c3 29 zO zO zO];exact h.wl,fun y y0 y1=>by rw [c4 y y0 (.inl (by unfold cxE;omega))];exact h.guest y y0 y1,fun y r y0 y1 hr=>by rw [c5];exact h.grr y r y0 y1 hr,fun y y0 y1 r hr=>by rw [c5];exact h.crr y y0 y1 r hr⟩
  generalize MemP.store (cxE G 28) 0 4 S M=M' at e6 h'⊢;obtain ⟨R5,e7,w7,z7,b7,v7⟩:=zj8 (F:=F) (B:=B) (k:=8) h' hA hB 19 (Nat.le_refl _) w4 z4 b4 hcr.right;refine ⟨R5,?_,h'.rel hA w7 z7 b7 fun v v0 v1 hva=>v7 v v0 zO hva⟩;have e:=(eall.trans e6).trans e7
  have hlen:(entE E (256*(G:Int)) L).length=8+(zjz E 19).length:=by
   unfold entE con2;simp only [List.length_append,List.length_cons,List.length_nil];omega
  rw [hlen];exact e.mono zO
theorem ybe:∀ {l:List BOp} {o:BOp},o∈l→0≤writes o→(ybd l).testBit (writes o).toNat=true
 |q::l,o,ho,hw=>by
  unfold ybd;rcases List.mem_cons.1 ho with rfl|ho
  ·rw [if_pos hw,Nat.testBit_or,Nat.testBit_two_pow_self];rfl
  ·have:=ybe ho hw
   split
   ·rw [Nat.testBit_or,this,Bool.or_true]
   ·exact this
theorem zs1 {b:Blk} (_hb:b.ok) (hv:z9g b=true):0≤lenE b∧lenE b≤64:=by
 have h:=(z9r.1 hv).1;unfold zpu at h;simp only [Bool.and_eq_true,decide_eq_true_eq] at h;unfold lenE
 split<;>omega
theorem yan {b:Blk} {a:List Int} {pred:Int} (hb:b.ok) (hv:z9g b=true) (hA:AlOk a) (hpw:word pred) (hG:1≤G) (h:HostE G n p vs g M steps limit) (hB:0≤B∧B≤4000000000) (hw:∀ j,0≤j→j<16→word (R j)) (h0:R 0=0) (hc:Cd F B 0 (yag b a (256*(G:Int)) (256*(G:Int)) pred)):
  (limit<(steps+lenE b)%4294967296→(yag b a (256*(G:Int)) (256*(G:Int)) pred)[6]?=some (zq1 ⟨1,0,0,0,0⟩)∧∃ R',Ex F B 0 R M 6 R' M 6)∧
  (¬limit<(steps+lenE b)%4294967296→∃ vs',zad (emE b a (256*(G:Int)) pred) G n p F B 0 (yag b a (256*(G:Int)) (256*(G:Int)) pred) (zku b vs g).out vs' (zku b vs g).mem (MemP.store (cxE G 28) 0 4 ((steps+lenE b)%4294967296) M) R M):=by
 obtain ⟨hl0,hl1⟩:=zs1 hb hv;obtain ⟨q1,q2⟩:=zka (E:=emE b a (256*(G:Int)) pred) h hA hB hw h0 ⟨hl0,hl1⟩ hc.left
 constructor
 ·intro hlt
  exact ⟨rfl,q1 hlt⟩
 ·intro hlt
  obtain ⟨R',e,r⟩:=q2 hlt;obtain ⟨hh,s',hs',_⟩:=z9r.1 hv
  have hne:b.ops≠[]:=fun e=>by
   unfold zpu at hh;rw [e] at hh;simp at hh
  obtain ⟨vs',h1,_⟩:=zgt (E:=emE b a (256*(G:Int)) pred) hA hB hpw rfl hG b.at_ b.ops ⟨0,0,false⟩ s' 0 vs g R' _ _ hne hs' (fun o ho=>⟨hb.ops o ho,fun hw=>ybe ho hw⟩) r hc.right;refine ⟨vs',?_⟩;have hev:zku b vs g=zkx b.at_ b.ops 0 vs g:=(by unfold zku;rw [if_pos hv]);rw [hev];rw [Nat.zero_add] at h1;have e':Ex F B 0 R M (0+(entE (emE b a (256*(G:Int)) pred) (256*(G:Int)) (lenE b)).length) R' (MemP.store (cxE G 28) 0 4 ((steps+lenE b)%4294967296) M) (entE (emE b a (256*(G:Int)) pred) (256*(G:Int)) (lenE b)).length:=(by rw [Nat.zero_add];exact e);exact zoa e' (by rw [Nat.zero_add];exact h1)
end
def getN (l:List Int):Nat→Int
 |0=>0
 |j+1=>getN l j+(l[j]?.getD 0)*2^(8*j)
theorem zom {l:List Int} (hl:∀ x∈l,0≤x∧x<256):∀ j,0≤getN l j∧getN l j<2^(8*j)
 |0=>⟨Int.le_refl 0,(by decide:(0:Int)<1)⟩
 |j+1=>by
  obtain ⟨h1,h2⟩:=zom hl j
  have hb:0≤l[j]?.getD 0∧l[j]?.getD 0<256:=by
   cases h:l[j]? with
   |none=>exact ⟨Int.le_refl 0,by decide⟩
   |some x=>exact hl x (List.mem_of_getElem? h)
  show 0≤getN l j+l[j]?.getD 0*2^(8*j)∧getN l j+l[j]?.getD 0*2^(8*j)<2^(8*j+8);have hp:(0:Int)<2^(8*j):=Int.pow_pos (by decide);rw [Int.pow_add];generalize l[j]?.getD 0=b at hb⊢;generalize (2:Int)^(8*j)=z at h2 hp⊢;have e1:0≤b*z:=Int.mul_nonneg hb.1 (Int.le_of_lt hp);have e2:b*z≤255*z:=Int.mul_le_mul_of_nonneg_right zO (Int.le_of_lt hp);rw [show z*2^8=256*z by rw [Int.mul_comm];rfl];omega
theorem z49 {b:Int} {j:Nat} (hj:j<4) (h:0≤b*2^(8*j)∧b*2^(8*j)<4294967296):IntKind.u32.wrap (b*2^(min ((8:Int)*j).toNat IntKind.u32.bits))=b*2^(8*j):=by
 rw [show min ((8:Int)*j).toNat IntKind.u32.bits=8*j by show min ((8:Int)*j).toNat 32=8*j;omega,wr32];exact Int.emod_eq_of_lt h.1 h.2
theorem zov (l:List Int) (hl:∀ x∈l,0≤x∧x<256) (h4:l.length=4) (w:World):Calls Tryz.prog 34 #[strV l] w fun e w'=>e= .returned (.int .u32 (getN l 4))∧Below w.heap.size w w':=by
 refine zfh [strV l] Tryz.func34 Tryz.ntmps34 rfl zS ?_;refine z3i ?_;(conv=>whnf);refine z3i ?_;(conv=>whnf);refine z25 ?_;refine z3i ?_;(conv=>whnf);refine z21 ?_;refine z3b (fun j:{j:Nat//j≤4}=>[(0,one (strV l)),(3,one (.int .u32 (getN l j.1))),(4,one (.int .i64 (j.1:Int)))]) (fun _ w'=>Below w.heap.size w w') (fun j=>4-j.1) ⟨0,by omega⟩ Tn (fun r w' hR=>hR.toBelow) (fun j w' hJ=>?_);obtain ⟨j,hj⟩:=j;dsimp only at hJ⊢;refine z25 ?_;refine z3i ?_;(conv=>whnf);refine z0b l rfl rfl rfl ?_;(conv=>whnf);rw [h4];refine ⟨fun hc=>?_,fun hc=>?_⟩
 ·have hlt:j<4:=by simp at hc;omega
  refine kB ?_;rw [show decide ((j:Int)<4)=true from decide_eq_true zO];refine kA ?_;refine z23 rfl (fun _=>z3j (zcd ?_)) nT
  obtain ⟨b,hb⟩:∃ b,l[j]?=some b:=⟨_,List.getElem?_eq_getElem zO⟩
  have hbr:=hl b (List.mem_of_getElem? hb);have hg:=zom hl j;have hg1:=zom hl (j+1);have hs:getN l (j+1)=getN l j+b*2^(8*j):=(by show getN l j+(l[j]?.getD 0)*2^(8*j)=_;rw [hb];rfl);refine z3d (α:=Unit) (fun _=>[(0,one (strV l)),(3,one (.int .u32 (getN l (j+1)))),(4,one (.int .i64 (j:Int)))]) (fun _ w2=>Below w.heap.size w w2) ?_ fun _ w2 hB=>?_
  ·refine z21 ?_
   refine z3m ?_;(conv=>whnf);refine z0a l .i64 j b rfl rfl rfl rfl hb hbr ?_;(conv=>whnf);refine ⟨b,by rw [wr32];omega,?_⟩;(conv=>whnf);refine ⟨(8:Int)*j,wr64 zO,?_⟩;(conv=>whnf);have hp:(2:Int)^(8*(j+1))≤2^32:=(by rcases (by omega:j=0∨j=1∨j=2∨j=3) with rfl|rfl|rfl|rfl<;>decide);have hlt2:getN l (j+1)<4294967296:=Int.lt_of_lt_of_le hg1.2 hp;have hbz:0≤b*2^(8*j):=Int.mul_nonneg hbr.1 (Int.le_of_lt (Int.pow_pos (by decide)));refine ⟨by omega,b*2^(8*j),z49 hlt ⟨hbz,by omega⟩,?_⟩;(conv=>whnf);refine ⟨getN l (j+1),by rw [hs,wr32];exact Int.emod_eq_of_lt zO zO,?_⟩;(conv=>whnf);exact zb4 (zca () Tn fun r w3 hR=>zdg hJ hR.toBelow hJ.size)
  ·refine z3m ?_
   (conv=>whnf);refine ⟨((j+1:Nat):Int),by rw [show (j:Int)+1=((j+1:Nat):Int) by omega];exact wr64 zO,?_⟩;(conv=>whnf);exact zcc ⟨j+1,by omega⟩ Tn (fun r w3 hR=>zdg hB hR.toBelow hB.size) (by show 4-(j+1)<4-j;omega)
 ·have hj4:j=4:=by simp at hc;omega
  subst hj4;refine kB ?_;refine z23 (t:=false) rfl nF (fun _=>?_);refine z3m ?_;(conv=>whnf);refine zb7 (zcf (zb6 (zcd ?_)));refine z3i ?_;(conv=>whnf);refine z3m ?_;(conv=>whnf);refine zcg ?_;(conv=>whnf)
  exact zmp rfl fun w2 hB=>⟨rfl,zdg hJ hB hJ.size⟩
theorem zos {M:MemP} {n p:Nat} (hM:M.ok n p) {a:Int} (ha:0≤a) (h:¬a<(n:Int)):M.get a=0:=by
 unfold MemP.get;rw [List.getElem?_eq_none (by rw [hM.ld];omega)];rfl
theorem zuo (M:MemP) (n p:Nat) (a:Int) (w:World) (g:Nat) (gs:List Nat) (hU:ObjsAt w (g::gs) (memS 0 n p M)) (hM:M.ok n p) (ha:word a):
  Calls Tryz.prog 91 #[.pointer (some ⟨g,0,none⟩),.int .u32 a] w fun e w'=>e= .returned (.int .u8 (M.get a))∧ObjsAt w' (g::gs) (memS 0 n p M)∧GrownBys w w' (g::gs):=by
 obtain ⟨g0,g1,g2,g3,g4,g5,hg⟩:=z5w hU;injection hg with hg0 hgs;subst hgs;subst hg0;have hw:0≤a∧a<4294967296:=ha;refine zfe [.p (.c (.ref 0 0)),one (.int .u32 a)] [.pointer (some ⟨g,0,none⟩),.int .u32 a] Tryz.func91 Tryz.ntmps91 rfl zS hU ⟨_,_,rfl,zi1 rfl,zc6 [.int .u32 a]⟩ ?_;(conv=>whnf);refine ze4 (pre:=[]) (suf:=[one (.int .u32 a)]) 0 n p M (.bool (decide (a<(n:Int)))) (fun i hi=>by rw [Nat.zero_add]) rfl rfl zK (fun w' g gs hk hU=>zuk M n p a w' g gs hU hM ha) ?_;(conv=>whnf);refine ⟨fun hc=>?_,fun hc=>?_⟩
 ·have hc:¬a<(n:Int):=by simpa using hc
  conv=>whnf
  rw [zos hM hw.1 hc]
  exact zmn rfl rfl (fun i o h=>h) (zuc n p M) fun w' h1 h2=>⟨rfl,h1,h2⟩
 ·have hc:a<(n:Int):=by simpa using hc
  obtain ⟨y,hy⟩:∃ y,M.data[a.toNat]?=some y:=⟨_,List.getElem?_eq_getElem (by rw [hM.ld];omega)⟩
  have hget:(List.map CV.v M.dV)[a.toNat]?=some (.v (zem (M.get a))):=by
   unfold MemP.get;rw [hy];exact z8a hy
  (conv=>whnf);refine ⟨⟨by omega,by omega⟩,?_⟩;(conv=>whnf);rw [show (List.map CV.v M.dV)[0+a.toNat*tsz Tryz.prog 5]?=some (.v (zem (M.get a))) by show (List.map CV.v M.dV)[0+a.toNat*1]?=_;rw [Nat.zero_add,Nat.mul_one];exact hget];(conv=>whnf)
  exact zmn rfl rfl (fun i o h=>h) (zuc n p M) fun w' h1 h2=>⟨rfl,h1,h2⟩
abbrev hoT:TypeId:=72
structure HoAt (w:World) (h c m:Nat) (ms:List Nat) (us:List Value) (n p:Nat) (M:MemP) (base ctx size:Int):Prop where
 host:w.heap[h]?=some (.cells ([pV c,.int .u32 base,.int .u32 ctx,.int .i64 size]:List Value).toArray hoT (0,0))
 cpu:w.heap[c]?=some (.cells (us++[pV m]).toArray cpuT (0,0))
 ul:us.length=24
 mem:ObjsAt w (m::ms) (memS 0 n p M)
 hc:h≠c
 hm:h∉m::ms
 cm:c∉m::ms
theorem HoAt.later {w w':World} {h c m:Nat} {ms:List Nat} {us:List Value} {n p:Nat} {M:MemP} {base ctx size:Int} (ho:HoAt w h c m ms us n p M base ctx size) (hB:Below w.heap.size w w'):HoAt w' h c m ms us n p M base ctx size:=
 ⟨(hB.block h (zpz ho.host)).trans ho.host,(hB.block c (zpz ho.cpu)).trans ho.cpu,ho.ul,zvw (zuc n p M) ho.mem hB,ho.hc,ho.hm,ho.cm⟩
theorem HoAt.ptr {w:World} {h c m:Nat} {ms:List Nat} {us:List Value} {n p:Nat} {M:MemP} {base ctx size:Int} (ho:HoAt w h c m ms us n p M base ctx size):zac w Gs.nil c (0+24) [pV m]:=
 zd1 ho.cpu (by rw [List.getElem?_append_right (by rw [ho.ul];exact Nat.le_refl _),ho.ul];rfl)
section
variable {w:World} {h c m:Nat} {ms:List Nat} {us:List Value} {n p:Nat} {M:MemP} {base ctx size:Int}
theorem zol {M:MemP} {n p:Nat} (hM:M.ok n p) {a:Int} (ha:0≤a) (h:a+4≤4294967296):getN [M.get a,M.get (a+1),M.get (a+2),M.get (a+3)] 4=M.load a 0 4:=by
 rw [ztk hM ha h];show 0+M.get a*2^(8*0)+M.get (a+1)*2^(8*1)+M.get (a+2)*2^(8*2)+M.get (a+3)*2^(8*3)=_;omega
theorem yav (ho:HoAt w h c m ms us n p M base ctx size) (hM:M.ok n p) (k:Int) (hk:0≤k∧k<64) (hctx:0≤ctx∧ctx≤4000000):
  Calls Tryz.prog 38 #[pV h,intV k] w fun e w'=>e= .returned (.int .u32 (M.load (ctx+4*k) 0 4))∧Below w.heap.size w w':=by
 have hg:=fun x=>zou hM x;refine zfh [pV h,intV k] Tryz.func38 Tryz.ntmps38 rfl zS ?_;refine z3i ?_;(conv=>whnf);refine z3i ?_;(conv=>whnf);refine ⟨_,zd1 (off:=0+2) ho.host rfl,?_⟩;(conv=>whnf);refine ⟨4*k,wr64 zO,?_⟩;(conv=>whnf);refine ⟨4*k,by rw [wr32];omega,?_⟩;(conv=>whnf);refine ⟨ctx+4*k,by rw [wr32];omega,?_⟩;(conv=>whnf);refine z3i ?_;refine z2t (.q 0 (.q 1 (.q 2 (.q 3 (.q 4 (.q 5 (.q 6 (.q 7 (.q 9 (.q 10 (.q 11 (.q 12 (.q 13 (.q 14 (.q 15 (.q 16 (.q 17 (.q 19 (.q 20 (.q 21 (.q 22 (.q 23 (.q 24 (.q 25 (.q 26 (.q 27 (.q 29 (.q 30 (.q 31 (.q 32 (.q 33 (.q 34 (.q 35 (.q 36 (.q 37 (.alt 8 (.alt 18 (.alt 28 (.alt 38 (.alt 39 (.alt 40 (.alt 41 (.q 42 .done) .no) .no) .no) .no) .no) .no) .no)))))))))))))))))))))))))))))))))))) mixed zK zK ?_;(conv=>whnf);refine ⟨_,zd1 (off:=0+0) ho.host rfl,?_⟩;(conv=>whnf);refine ⟨_,ho.ptr,?_⟩;(conv=>whnf);refine ⟨_,zd1 (off:=0+0) ho.host rfl,?_⟩;(conv=>whnf);refine ⟨_,ho.ptr,?_⟩;(conv=>whnf);refine ⟨ctx+4*k+1,by rw [wr32];omega,?_⟩;(conv=>whnf);refine ⟨_,zd1 (off:=0+0) ho.host rfl,?_⟩;(conv=>whnf);refine ⟨_,ho.ptr,?_⟩;(conv=>whnf);refine ⟨ctx+4*k+2,by rw [wr32];omega,?_⟩;(conv=>whnf);refine ⟨_,zd1 (off:=0+0) ho.host rfl,?_⟩;(conv=>whnf);refine ⟨_,ho.ptr,?_⟩;(conv=>whnf);refine ⟨ctx+4*k+3,by rw [wr32];omega,?_⟩;(conv=>whnf);refine ⟨?_,trivial⟩;refine ze3 rfl zK ho.mem (fun w' hU=>zuo M n p (ctx+4*k) w' m ms hU hM (by unfold word;omega)) ?_;(conv=>whnf);refine ⟨?_,trivial⟩;refine ze3 rfl zK ho.mem (fun w' hU=>zuo M n p (ctx+4*k+1) w' m ms hU hM (by unfold word;omega)) ?_;(conv=>whnf);refine ⟨?_,trivial⟩;refine ze3 rfl zK ho.mem (fun w' hU=>zuo M n p (ctx+4*k+2) w' m ms hU hM (by unfold word;omega)) ?_;(conv=>whnf);refine ⟨?_,trivial⟩;refine ze3 rfl zK ho.mem (fun w' hU=>zuo M n p (ctx+4*k+3) w' m ms hU hM (by unfold word;omega)) ?_;(conv=>whnf);refine ⟨?_,trivial⟩;(conv=>whnf);refine ⟨?_,trivial⟩;refine zz5 0 4 4 [M.get (ctx+4*k),M.get (ctx+4*k+1),M.get (ctx+4*k+2),M.get (ctx+4*k+3)] rfl rfl rfl rfl rfl rfl rfl ?_;(conv=>whnf);refine ⟨?_,trivial⟩
 refine ze2 rfl zK (fun r w' hR=>zov [M.get (ctx+4*k),M.get (ctx+4*k+1),M.get (ctx+4*k+2),M.get (ctx+4*k+3)] (fun x hx=>by
  simp only [List.mem_cons,List.not_mem_nil,or_false] at hx
  rcases hx with rfl|rfl|rfl|rfl<;>exact hg _) rfl w') ?_
 rw [zol hM zO zO]
 conv=>whnf
 refine z3m ?_
 conv=>whnf
 refine zcg ?_
 conv=>whnf
 exact zmp rfl fun w2 hB=>⟨rfl,hB⟩
end
section
variable {w:World} {g:Nat} {vC vS:Value} {X:EmX} {E:Em} {k:Int}
theorem zt0 (h:EmAt w g vC vS X) (o:BOp) (hn:word o.n):
  Calls Tryz.prog 124 #[pV g,opV o] w fun e w'=>e= .returned (.tuple #[])∧EmTo w w' g vC vS {X with index:=o.n}:=by
 refine zfh [pV g,opV o] Tryz.func124 Tryz.ntmps124 rfl zS ?_;refine z3i ?_;(conv=>whnf);refine z3f fun r w1 hR=>?_;obtain ⟨pb,us,e1,e2,e3⟩:=hR.own 0 _ rfl;obtain rfl:=ziw (us:=opC o) e3;have hB1:=hR.toBelow;have hpb:=zoh h (zoi hR e1);have h1:=h.later hB1;refine ⟨z6d [(0,pV g),(3,pV pb)],fun a' hf=>z6m ⟨z6k hf rfl,z6i hf 3 rfl e1,trivial⟩,?_⟩;clear hR e3;refine z3n 0 0 g rfl (emGs g vC vS) (emU X) fun r2 w2 hR2=>?_;have hB2:=hR2.toBelow;have h2:=h1.later hB2;refine ⟨_,z1m h2,rfl,?_⟩;have e4:=(hB2.block pb (zpz e2)).trans e2;have hal:=h2.al;clear h1 hR2;obtain ⟨A,size,code,sites,live,index,written⟩:=X;dsimp only at hal⊢;obtain ⟨x0,x1,x2,x3,x4,x5,x6,x7,x8,x9,x10,x11,x12,x13,x14,x15,x16,x17,x18,x19,x20,x21,x22,x23,x24,x25,x26,x27,rfl⟩:=zs9 hal;refine z3m ?_;(conv=>whnf);refine ⟨.int .u32 o.n,zfu (off:=0+4) (zpz e4) (fun hm=>hpb (zui.1 hm)) (by simp [World.cell?,e4,opC]),?_⟩;(conv=>whnf);refine ⟨o.n,by exact wr64 (by unfold word at hn;omega),?_⟩;(conv=>whnf);refine zb5 ?_;(conv=>whnf)
 refine zmk (X':=⟨[x0,x1,x2,x3,x4,x5,x6,x7,x8,x9,x10,x11,x12,x13,x14,x15,x16,x17,x18,x19,x20,x21,x22,x23,x24,x25,x26,x27],size,code,sites,live,o.n,written⟩) 1 2 rfl rfl rfl rfl rfl (by decide) fun w' h'=>⟨rfl,(h'.early hB2).early hB1⟩
theorem zrd:∀ l:List QI,(l.flatMap iqL).length=l.length*5
 |[]=>rfl
 |i::l=>by rw [List.flatMap_cons,List.length_append,zrd l];show 5+l.length*5=(l.length+1)*5;omega
theorem zre (l1 l2:List QI) (i:QI) (v:Int):((l1++i::l2).flatMap iqL).set (l1.length*5+4) (.int .u32 v)=(l1++{i with imm:=v}::l2).flatMap iqL:=by
 rw [List.flatMap_append,List.flatMap_append,List.set_append_right _ _ (by rw [zrd];omega),zrd,Nat.add_sub_cancel_left]
 rfl
theorem zbk (X:EmX) (ra n:Int) (l:List It):((X.app [iI 32 ra 0 n]).app l).code=X.code++(⟨32,ra,0,0,n⟩:QI)::l.map (·.i):=by
 show (X.code++[⟨32,ra,0,0,n⟩])++l.map (·.i)=_;rw [List.append_assoc];rfl
theorem zbm (X:EmX) (ra n:Int) (l:List It):({(X.app [iI 32 ra 0 0]).app l with code:=X.code++(⟨32,ra,0,0,n⟩:QI)::l.map (·.i)}:EmX)=(X.app [iI 32 ra 0 n]).app l:=by
 unfold EmX.app;simp only [List.map_cons,List.map_nil,List.length_append,List.length_cons,List.length_nil,List.append_assoc,List.cons_append,List.nil_append]
 rfl
theorem zlk (h:EmAt w g vC vS X) (hp:EmP E k 0 X) (hw:word X.written) (o:BOp) (ho:OpF o):
  Calls Tryz.prog 127 #[pV g,opV o] w fun e w'=>e= .returned (.tuple #[])∧EmTo w w' g vC vS (X.app (rdE E o.a 10++([iI 32 (rrE E o.a 10) 0 (1+(exE E o.n).length)]++exE E o.n))):=by
 refine zfh [pV g,opV o] Tryz.func127 Tryz.ntmps127 rfl zS ?_;refine z3i ?_;(conv=>whnf);refine z3f fun r w1 hR=>?_;obtain ⟨pb,us,e1,e2,e3⟩:=hR.own 0 _ rfl;obtain rfl:=ziw (us:=opC o) e3;have hB1:=hR.toBelow;have hpb:=zoh h (zoi hR e1);have h1:=h.later hB1;refine ⟨z6d [(0,pV g),(3,pV pb)],fun a' hf=>z6m ⟨z6k hf rfl,z6i hf 3 rfl e1,trivial⟩,?_⟩;clear hR e3;refine z25 (z26 3 rfl rfl rfl ?_);(conv=>whnf);refine ⟨_,zd1 (off:=0+2) e2 rfl,?_⟩;(conv=>whnf);refine zsh (EmTo.refl h1 (Below.refl _ _)) hp (by decide) o.a 10 ho.a fun hp w2 hl=>?_;(conv=>whnf);refine zcd ?_;obtain ⟨vC1,vS1,h2,hn2,k2⟩:=hl.now2;obtain ⟨A1,c1,rfl⟩:=z13 h2.code;have e4:=hl.blkO e2 hpb;have hpb2:=hn2 pb (zpz e2) hpb;refine z3i ?_;(conv=>whnf);refine ⟨_,zjj h2 (k:=1) (x:= .slice A1 (X.app (rdE E o.a 10)).code.length c1) rfl,?_⟩;(conv=>whnf);refine z25 (z26 4 rfl rfl rfl ?_);(conv=>whnf);refine zse h2 [⟨32,rrE E o.a 10,0,0,0⟩] 0 1 rfl rfl (by have:=hp.c8 (by decide);omega) fun w3 hl3=>?_;(conv=>whnf);refine zcd ?_;have hp3:EmP E k (0+1+1) ((X.app (rdE E o.a 10)).app [iI 32 (rrE E o.a 10) 0 0]):=hp.app _ (Nat.le_refl 1);have hl4:EmTo w2 w3 g (.slice A1 (X.app (rdE E o.a 10)).code.length c1) vS1 ((X.app (rdE E o.a 10)).app [iI 32 (rrE E o.a 10) 0 0]):=(by unfold iI;rw [zbo];exact hl3);have e5:=hl4.blkO e4 hpb2;refine z25 (z26 2 rfl rfl rfl ?_);(conv=>whnf);refine ⟨opC o,zd0 e5,rfl,?_⟩;(conv=>whnf);refine zsd (.tuple #[]) hl4 (us:=[opV o]) rfl zK (fun w4 vC3 vS3 k3=>zlq k3 hp3 (by decide) hw o) fun w5 hl5=>?_;(conv=>whnf);refine zcd ?_;obtain ⟨vC3,vS3,h5,k5⟩:=hl5.now
 have hc3:(((X.app (rdE E o.a 10)).app [iI 32 (rrE E o.a 10) 0 0]).app (exE E o.n)).code=(X.app (rdE E o.a 10)).code++(⟨32,rrE E o.a 10,0,0,0⟩:QI)::(exE E o.n).map (·.i):=by
  exact zbk _ _ _ _
 have hfin:({((X.app (rdE E o.a 10)).app [iI 32 (rrE E o.a 10) 0 0]).app (exE E o.n) with code:=(X.app (rdE E o.a 10)).code++(⟨32,rrE E o.a 10,0,0,(((X.app (rdE E o.a 10)).code.length+((exE E o.n).length+1):Nat):Int)-(X.app (rdE E o.a 10)).code.length⟩:QI)::(exE E o.n).map (·.i)}:EmX)=X.app (rdE E o.a 10++([iI 32 (rrE E o.a 10) 0 (1+(exE E o.n).length)]++exE E o.n)):=by
  rw [← zbj, ← zbj,zbm,show ((((X.app (rdE E o.a 10)).code.length+((exE E o.n).length+1):Nat):Int)-(X.app (rdE E o.a 10)).code.length)=1+(exE E o.n).length by omega]
 have hlen3:((exE E o.n).map (·.i)).length=(exE E o.n).length:=List.length_map ..;have hle:=hp3.c8 (by decide);have hex:=zk5 (E:=E) o.n;have hle1:(X.app (rdE E o.a 10)).code.length≤100000000:=hp.c8 (by decide);generalize ((X.app (rdE E o.a 10)).app [iI 32 (rrE E o.a 10) 0 0]).app (exE E o.n)=X3 at hl5 h5 k5 hc3 hfin;generalize hC2:(exE E o.n).map (·.i)=C2 at hc3 hfin hlen3;generalize (X.app (rdE E o.a 10)).code=C1 at hc3 hfin hle1⊢;refine z3n 0 0 g rfl (emGs g vC3 vS3) (emU X3) fun r2 w6 hR2=>?_;have hB2:=hR2.toBelow;have h6:=h5.later hB2;refine ⟨_,z1m h6,rfl,?_⟩;have hal:=h6.al;clear h5 hR2;obtain ⟨A,size,code,sites,live,index,written⟩:=X3;dsimp only at hal hc3 hfin⊢;subst hc3;obtain ⟨x0,x1,x2,x3,x4,x5,x6,x7,x8,x9,x10,x11,x12,x13,x14,x15,x16,x17,x18,x19,x20,x21,x22,x23,x24,x25,x26,x27,rfl⟩:=zs9 hal;refine z3l (z2x 15 mixed zK ?_);(conv=>whnf);have hlc:(C1++(⟨32,rrE E o.a 10,0,0,0⟩:QI)::C2).length=C1.length+((exE E o.n).length+1):=(by rw [List.length_append,List.length_cons,hlen3]);refine ⟨(((C1.length+((exE E o.n).length+1):Nat):Int)-C1.length),by dsimp only;rw [hlc];exact wr64 zO,?_⟩;(conv=>whnf);refine ⟨(((C1.length+((exE E o.n).length+1):Nat):Int)-C1.length),by rw [wr32];omega,?_⟩;(conv=>whnf);refine ⟨⟨by omega,by dsimp only;rw [hlc];omega⟩,?_⟩;(conv=>whnf);refine ⟨by show C1.length*5+4+1≤((C1++(⟨32,rrE E o.a 10,0,0,0⟩:QI)::C2).flatMap iqL).length;rw [zrd,hlc];omega,?_⟩;(conv=>whnf);refine zb5 ?_;(conv=>whnf)
 refine zmk (X':=⟨[x0,x1,x2,x3,x4,x5,x6,x7,x8,x9,x10,x11,x12,x13,x14,x15,x16,x17,x18,x19,x20,x21,x22,x23,x24,x25,x26,x27],size,C1++(⟨32,rrE E o.a 10,0,0,((C1.length+((exE E o.n).length+1):Nat):Int)-C1.length⟩:QI)::C2,sites,live,index,written⟩) 1 2 rfl rfl rfl ?_ rfl (by decide) fun w' h'=>⟨rfl,?_⟩
 ·show some (Ow.row iqT 5 (C1++(⟨32,rrE E o.a 10,0,0,0⟩:QI)::C2).length (((C1++(⟨32,rrE E o.a 10,0,0,0⟩:QI)::C2).flatMap iqL).set (C1.length*5+4) (.int .u32 (((C1.length+((exE E o.n).length+1):Nat):Int)-C1.length))))=some (Ow.row iqT 5 _ _)
  rw [zre,List.length_append,List.length_append]
  rfl
 ·rw [hfin] at h'
  exact (k2 _ _ (k5 _ _ (h'.early hB2))).early hB1
end
section
variable {w:World} {g:Nat} {vC vS:Value} {X:EmX} {E:Em} {k:Int}
theorem zy1 (X1:EmX) (n:Nat) (hn:X1.code.length=n+3):({z5h X1 6 with const:=4*(n:Int)}:SiteP)=z5l X1.code.length ⟨6,0,0,0,12⟩:=by
 unfold z5h z5l;rw [if_neg (by decide),if_neg (by decide),hn];show (⟨_,_,_,_,_,_⟩:SiteP)=⟨_,_,_,_,_,4*((n+3:Nat):Int)-12⟩;rw [show 4*((n+3:Nat):Int)-12=4*(n:Int) by omega]
theorem zlo (h:EmAt w g vC vS X) (hp:EmP E k 0 X) (hpr:E.pred=0) (hw:word X.written) (o:BOp) (ho:OpF o):
  Calls Tryz.prog 129 #[pV g,opV o] w fun e w'=>e= .returned (.tuple #[])∧EmTo w w' g vC vS (X.app (rdE E o.a 10++([i3 1 10 (rrE E o.a 10) 0]++(svE E++([iI 25 10 15 76]++(con2 11 E.pred++[iI 33 10 11 2,zq1 ⟨6,0,E.pred,0,12⟩,zq1 ⟨5,0,0,0,0⟩])))))):=by
 refine zfh [pV g,opV o] Tryz.func129 Tryz.ntmps129 rfl zS ?_;refine z3i ?_;(conv=>whnf);refine z3f fun r w1 hR=>?_;obtain ⟨pb,us,e1,e2,e3⟩:=hR.own 0 _ rfl;obtain rfl:=ziw (us:=opC o) e3;have hB1:=hR.toBelow;have hpb:=zoh h (zoi hR e1);have h1:=h.later hB1;refine ⟨z6d [(0,pV g),(3,pV pb)],fun a' hf=>z6m ⟨z6k hf rfl,z6i hf 3 rfl e1,trivial⟩,?_⟩;clear hR e3;refine z25 (z3h (emG g vC vS) (fun w=>EmTo w1 w g vC vS X) (fun w hB=>EmTo.refl h1 hB) ?_);(conv=>whnf);refine ⟨_,zp3 e2 hpb (k:=0+2) (x:= .int .i64 o.a) rfl,?_⟩;(conv=>whnf);refine zr4 hp (by decide) o.a 10 ho.a fun hp=>?_;(conv=>whnf);refine zr6 hp (by decide) 1 10 (rrE E o.a 10) 0 fun hp=>?_;(conv=>whnf);intro w2 _ hl;refine zcd ?_;refine z25 (z26 1 rfl rfl rfl ?_);(conv=>whnf);refine zsi hl hp (by decide) hw fun hp w2 hl=>?_;(conv=>whnf);refine zcd ?_;refine z25 (z26 1 rfl rfl rfl ?_);(conv=>whnf);refine zsf hl hp (by decide) 25 10 15 76 fun hp w3 hl=>?_;(conv=>whnf);refine zcd ?_;simp only [zbj,List.append_assoc,List.cons_append,List.nil_append] at hl hp;generalize hX:X.app (rdE E o.a 10++i3 1 10 (rrE E o.a 10) 0::(svE E++[iI 25 10 15 76]))=X2 at hl hp;obtain ⟨vC1,vS1,h2,k2⟩:=hl.now;obtain ⟨A1,c1,rfl⟩:=z13 h2.code;have hle:=hp.c8 (by decide);refine z3i ?_;(conv=>whnf);refine ⟨_,zjj h2 (k:=1) (x:= .slice A1 X2.code.length c1) rfl,?_⟩;(conv=>whnf);refine ⟨4*(X2.code.length:Int),wr64 zO,?_⟩;(conv=>whnf);refine z3f fun r w4 hR=>?_;obtain ⟨pf,us,f1,f2,f3⟩:=hR.own 0 _ rfl;obtain rfl:=ziw (us:=[.int .i64 (4*(X2.code.length:Int))]) f3;have hB2:=hR.toBelow;have hpf:=zoh h2 (zoi hR f1);have h3:=h2.later hB2;refine ⟨z6d [(0,pV g),(4,pV pf)],fun a' hf=>z6m ⟨z6k hf rfl,z6i hf 4 rfl f1,trivial⟩,?_⟩;clear hR f3;refine z3i ?_;(conv=>whnf);refine ze2 rfl zK (fun r w' hR=>zg4 11 0 w' (by unfold word;decide)) ?_;(conv=>whnf);refine z25 (z26 2 rfl rfl rfl ?_);(conv=>whnf);refine zwq (z0h 0 0 2 rfl rfl rfl rfl ?_) rfl;(conv=>whnf);refine zse h3 (zg3 11 0) 0 2 rfl rfl zO fun w5 hl3=>?_;(conv=>whnf);refine zcd ?_;have hp3:=hp.app (con2 11 0) (Nat.le_refl 2);have hl4:EmTo w4 w5 g (.slice A1 X2.code.length c1) vS1 (X2.app (con2 11 0)):=(by rw [zgz,zbl];exact hl3);clear hl3;refine z25 (z26 1 rfl rfl rfl ?_);(conv=>whnf);refine zsf hl4 hp3 (by decide) 33 10 11 2 fun hp w6 hl=>?_;(conv=>whnf);refine zcd ?_;refine z25 (z26 2 rfl rfl rfl ?_);(conv=>whnf);refine zsl hl hp zO 6 (.inr rfl) 173 pf [.int .i64 (4*(X2.code.length:Int))] _ (fun s=>{s with const:=4*(X2.code.length:Int)}) zK f2 hpf (fun w1 b s h1 h2=>zln _ w1 b pf s h1 h2) ⟨6,0,0,0,12⟩ (zy1 _ _ (by show ((X2.code++_)++_).length=_;rw [List.length_append,List.length_append];rfl)) fun hp w7 hl=>?_;(conv=>whnf);refine zcd ?_;refine z26 1 rfl rfl rfl ?_;(conv=>whnf);refine zsk hl hp (by decide) 5 (by decide) ⟨5,0,0,0,0⟩ (by rw [z5j (by decide)]) fun hp w8 hl=>?_;(conv=>whnf);refine zb5 ?_;(conv=>whnf)
 refine zmp rfl fun w9 hB=>⟨rfl,?_⟩
 subst hX;simp only [zbj,List.append_assoc,List.cons_append,List.nil_append] at hl;rw [hpr];simp only [List.cons_append,List.nil_append];refine EmTo.later ?_ hB;refine EmTo.early hB1 ?_;refine k2 _ _ ?_;refine EmTo.early hB2 ?_;exact hl
end
section
variable {w0 w:World} {g:Nat} {vC vS:Value} {X1:EmX} {E:Em} {k:Int} {n:Nat} {S:List Ow} {K:Value→World→Prop}
theorem zsm (h:EmTo w0 w g vC vS X1) (hp:EmP E k n X1) (v:Int) (hv:0≤v∧v<28) (hK:∀ w',EmTo w0 w' g vC vS X1→K (.int .i64 (tgE E v)) w'):Jmp Tryz.prog w Gs.nil 73 [one (pV g),one (.int .i64 v)] S K:=
 zsd _ h (us:=[.int .i64 v]) rfl zK (fun w vC1 vS1 k1=>(z8m E k1 hp.ok.a hp.ok.al v hv).mono fun e w2 ⟨he,hB⟩=>⟨he,EmTo.refl k1 hB⟩) hK
theorem zsj (h:EmTo w0 w g vC vS X1) (hp:EmP E k n X1) (hn:n≤1000) (hK:∀ w',EmTo w0 w' g vC vS {X1 with sites:=X1.sites++[z5h X1 3]}→K (.tuple #[]) w'):Jmp Tryz.prog w Gs.nil 168 [one (pV g),one (.int .i64 3),one .nilFunc] S K:=
 zsd _ h (us:=[.int .i64 3,.nilFunc]) rfl zK (fun w vC1 vS1 k1=>z5p k1 3 (by decide) (hp.c8 hn) (hp.s8 hn)) hK
theorem zsa (h:EmTo w0 w g vC vS {X1 with sites:=X1.sites++[z5h X1 3]}) (hp:EmP E k n X1) (hn:n≤1000) (op d a x:Int) (hK:EmP E k (n+1) (X1.app [⟨⟨op,d,a,0,x⟩,some (skIn E 3 k)⟩])→∀ w',EmTo w0 w' g vC vS (X1.app [⟨⟨op,d,a,0,x⟩,some (skIn E 3 k)⟩])→K (.tuple #[]) w'):Jmp Tryz.prog w Gs.nil 116 [one (pV g),one (.int .i64 op),one (.int .i64 d),one (.int .i64 a),one (.int .u32 x)] S K:=by
 refine zsd _ h (us:=[.int .i64 op,.int .i64 d,.int .i64 a,.int .u32 x]) rfl zK (fun w vC1 vS1 k1=>zq5 k1 op d a x (hp.c8 hn)) fun w' hl=>hK (hp.app _ (Nat.le_refl 1)) w' ?_;unfold iI at hl;rw [zbo] at hl;rw [zbp, ← z5i hp.ok (.inr rfl)];exact hl
end
section
variable {w:World} {g:Nat} {vC vS:Value} {X:EmX} {E:Em} {k:Int}
theorem zau (h:EmAt w g vC vS X) (hp:EmP E k 0 X) (hz:0≤E.size∧E.size≤1048576) (o:BOp) (ho:OpF o) (hc:16≤o.code∧o.code≤19):
  Calls Tryz.prog 123 #[pV g,opV o] w fun e w'=>e= .returned (.tuple #[])∧EmTo w w' g vC vS (X.app (accE E k o)):=by
 have hes:E.size=X.size:=hp.ok.size;have hcs:o.code=16∨o.code=17∨o.code=18∨o.code=19:=(by omega);have hsz:szE o.code=1∨szE o.code=4:=(by unfold szE;split<;>simp);have hld:ldE o.code=23∨ldE o.code=24:=(by unfold ldE;split<;>simp);refine zfh [pV g,opV o] Tryz.func123 Tryz.ntmps123 rfl zS ?_;refine z3i ?_;(conv=>whnf);refine z3f fun r w1 hR=>?_;obtain ⟨pb,us,e1,e2,e3⟩:=hR.own 0 _ rfl;obtain rfl:=ziw (us:=opC o) e3;have hB1:=hR.toBelow;have hpb:=zoh h (zoi hR e1);have h1:=h.later hB1;refine ⟨z6d [(0,pV g),(3,pV pb)],fun a' hf=>z6m ⟨z6k hf rfl,z6i hf 3 rfl e1,trivial⟩,?_⟩;clear hR e3;refine z3i ?_;(conv=>whnf);refine z3d (α:=Unit) (fun _=>[(0,one (pV g)),(3,one (pV pb)),(4,one (.int .i64 (szE o.code))),(5,one (.int .i64 (ldE o.code)))]) (fun _ w2=>EmTo w1 w2 g vC vS X) ?_ fun _ w2 hl=>?_
 ·rcases hcs with hc|hc|hc|hc
  all_goals
   refine z3i ?_;(conv=>whnf);refine ⟨.int .i64 _,by have:=zd1 (off:=0+0) e2 rfl;rw [hc] at this;exact this,?_⟩;refine kB ?_
  all_goals
   first
    |(refine ⟨.int .i64 _,(by have:=zd1 (off:=0+0) e2 rfl;rw [hc] at this;exact this),?_⟩;(conv=>whnf);refine kA ?_)
    |skip
  all_goals
   first
    |(refine z23 rfl nF (fun _=>z3j ?_)
      exact zca () (aI rfl (aI rfl (aI (by rw [hc];rfl) (aI (by rw [hc];rfl) trivial)))) fun r w3 hR=>EmTo.refl h1 hR.toBelow)
    |(refine z23 rfl (fun _=>?_) nT
      refine z3m ?_;(conv=>whnf)
      exact zca () (aI rfl (aI rfl (aI (by rw [hc];rfl) (aI (by rw [hc];rfl) trivial)))) fun r w3 hR=>EmTo.refl h1 hR.toBelow)
 obtain ⟨vC1,vS1,h2,k2⟩:=hl.now;refine z25 ?_;refine z3i ?_;(conv=>whnf);refine ⟨_,zjj h2 (k:=0) (x:= .int .i64 X.size) rfl,?_⟩;(conv=>whnf);refine z23 rfl (fun hlt=>?_) (fun hlt=>z3j (zcd ?_))
 ·have hlt:E.size<szE o.code:=by rw [hp.ok.size];exact of_decide_eq_true hlt
  refine z25 (z26 1 rfl rfl rfl ?_);(conv=>whnf);refine zsk hl hp (by decide) 2 (by decide) (skIn E 2 k) (zlr hp) fun hp w3 hl=>?_;(conv=>whnf);refine zcd ?_;refine z3m ?_;(conv=>whnf);refine zcl (zcg ?_);(conv=>whnf)
  refine zmp rfl fun w9 hB=>⟨rfl,?_⟩
  unfold accE;rw [if_pos hlt];exact (hl.early hB1).later hB
 have hge:¬E.size<szE o.code:=(by rw [hp.ok.size];exact of_decide_eq_false hlt);clear h2 k2;refine z25 (z26 3 rfl rfl rfl ?_);(conv=>whnf);refine ⟨_,zd1 (off:=0+2) (hl.blkO e2 hpb) rfl,?_⟩;(conv=>whnf);refine zsh hl hp (by decide) o.a 10 ho.a fun hp w3 hl=>?_;(conv=>whnf);refine zcd ?_;refine z3d (α:=Unit) (fun _=>[(0,one (pV g)),(3,one (pV pb)),(4,one (.int .i64 (szE o.code))),(5,one (.int .i64 (ldE o.code)))]) (fun _ w2=>EmTo w1 w2 g vC vS ((X.app (rdE E o.a 10)).app (adE E o))∧EmP E k (0+1+3) ((X.app (rdE E o.a 10)).app (adE E o))) ?_ fun _ w2 hl=>?_
 ·refine z3i ?_
  (conv=>whnf);refine ⟨_,zd1 (off:=0+4) (hl.blkO e2 hpb) rfl,?_⟩;(conv=>whnf);refine ze2 rfl zK (fun r w' hR=>zm5 o.n 18 w' ho.n (.inl rfl)) ?_;(conv=>whnf);refine z23 rfl (fun hf=>?_) (fun hf=>?_)
  ·have hf:zm1 o.n=true:=hf
   refine z26 4 rfl rfl rfl ?_;(conv=>whnf);refine ⟨_,zd1 (off:=0+4) (hl.blkO e2 hpb) rfl,?_⟩;(conv=>whnf);refine zsf hl hp (by decide) 16 12 (rrE E o.a 10) o.n fun hp w3 hl=>?_;(conv=>whnf);refine zca () Tn fun r w4 hR=>?_;unfold adE;rw [if_pos hf];exact ⟨hl.later hR.toBelow,⟨hp.ok,Nat.le_trans hp.code zO,Nat.le_trans hp.sites zO⟩⟩
  ·have hf:¬zm1 o.n=true:=by rw [show zm1 o.n=false from hf];decide
   have hcon:conE 13 o.n=con2 13 o.n:=(by unfold conE;rw [if_neg hf]);refine z25 (z26 3 rfl rfl rfl ?_);(conv=>whnf);refine ⟨_,zd1 (off:=0+4) (hl.blkO e2 hpb) rfl,?_⟩;(conv=>whnf);refine zsb hl hp (by decide) 13 o.n ho.n fun hp w3 hl=>?_;(conv=>whnf);refine zcd ?_;refine z26 2 rfl rfl rfl ?_;(conv=>whnf);refine zsn hl hp (by decide) 1 12 (rrE E o.a 10) 13 fun hp w3 hl=>?_;(conv=>whnf);refine zca () Tn fun r w4 hR=>?_;unfold adE;rw [if_neg hf, ← zbj, ← hcon];exact ⟨hl.later hR.toBelow,hp⟩
 obtain ⟨hl,hp⟩:=hl;obtain ⟨vC1,vS1,h2,k2⟩:=hl.now;refine z25 (z26 8 rfl rfl rfl ?_);(conv=>whnf);refine ⟨_,zjj h2 (k:=0) (x:= .int .i64 X.size) rfl,?_⟩;(conv=>whnf);refine ⟨E.size-szE o.code,by rw [← hes];exact wr64 zO,?_⟩;(conv=>whnf);refine ⟨E.size-szE o.code,by rw [wr32];omega,?_⟩;(conv=>whnf);refine zsb hl hp (by decide) 13 (E.size-szE o.code) (by unfold word;omega) fun hp w3 hl=>?_;(conv=>whnf);clear h2 k2;refine zcd ?_;refine z25 (z26 1 rfl rfl rfl ?_);(conv=>whnf);refine zsf hl hp (by decide) 35 13 12 2 fun hp w3 hl=>?_;(conv=>whnf);refine zcd ?_;refine z25 (z26 1 rfl rfl rfl ?_);(conv=>whnf);refine zsk hl hp (by decide) 2 (by decide) (skIn E 2 k) (zlr hp) fun hp w4 hl=>?_;(conv=>whnf);refine zcd ?_;refine z3d (α:=Unit) (fun _=>[(0,one (pV g)),(3,one (pV pb)),(4,one (.int .i64 (szE o.code))),(5,one (.int .i64 (ldE o.code)))]) (fun _ w2=>EmTo w1 w2 g vC vS (((((X.app (rdE E o.a 10)).app (adE E o)).app (conE 13 (E.size-szE o.code))).app [iI 35 13 12 2]).app [zq1 (skIn E 2 k)])∧¬18≤o.code) ?_ fun _ w2 hl=>?_
 ·rcases hcs with hc|hc|hc|hc
  all_goals
   refine z3i ?_;(conv=>whnf);refine ⟨.int .i64 _,by have:=zd1 (off:=0+0) (hl.blkO e2 hpb) rfl;rw [hc] at this;exact this,?_⟩;refine kB ?_
  all_goals
   first
    |(refine ⟨.int .i64 _,(by have:=zd1 (off:=0+0) (hl.blkO e2 hpb) rfl;rw [hc] at this;exact this),?_⟩;(conv=>whnf);refine kA ?_)
    |skip
  all_goals
   first
    |(refine z23 rfl nF (fun _=>z3j ?_)
      exact zca () Tn fun r w3 hR=>⟨hl.later hR.toBelow,by omega⟩)
    |(refine z23 rfl (fun _=>?_) nT
      have h18:18≤o.code:=(by omega);refine z25 (z26 3 rfl rfl rfl ?_);(conv=>whnf);refine ⟨_,zd1 (off:=0+3) (hl.blkO e2 hpb) rfl,?_⟩;(conv=>whnf);refine zsh hl hp (by decide) o.b 11 ho.b fun hp w3 hl=>?_;(conv=>whnf);refine zcd ?_;refine z25 (z26 1 rfl rfl rfl ?_);(conv=>whnf);refine zsj hl hp (by decide) fun w3 hl=>?_;(conv=>whnf);refine zcd ?_;refine z25 (z26 5 rfl rfl rfl ?_);(conv=>whnf);refine ⟨ldE o.code+25,wr64 zO,?_⟩;(conv=>whnf);refine ⟨ldE o.code+2,by rw [show ldE o.code+25-23=ldE o.code+2 by omega];exact wr64 zO,?_⟩;(conv=>whnf);refine zsa hl hp (by decide) (ldE o.code+2) (rrE E o.b 11) 12 0 fun hp w3 hl=>?_;(conv=>whnf);refine zcd ?_;refine z3m ?_;(conv=>whnf);refine zcj (zcg ?_);(conv=>whnf)
      refine zmp rfl fun w9 hB=>⟨rfl,?_⟩
      unfold accE;rw [if_neg hge,if_pos h18];simp only [zbj,List.append_assoc,List.cons_append,List.nil_append] at hl;refine EmTo.later ?_ hB;refine EmTo.early hB1 ?_;simp only [List.cons_append,List.nil_append]
      exact hl)
 obtain ⟨hl,hlt⟩:=hl;refine z25 (z26 3 rfl rfl rfl ?_);(conv=>whnf);refine ⟨_,zd1 (off:=0+1) (hl.blkO e2 hpb) rfl,?_⟩;(conv=>whnf);refine zsm hl hp o.d ho.d fun w3 hl=>?_;(conv=>whnf);refine zcd ?_;refine z25 (z26 1 rfl rfl rfl ?_);(conv=>whnf);refine zsj hl hp (by decide) fun w3 hl=>?_;(conv=>whnf);refine zcd ?_;refine z25 (z26 3 rfl rfl rfl ?_);(conv=>whnf);refine zsa hl hp (by decide) (ldE o.code) (tgE E o.d) 12 0 fun hp w3 hl=>?_;(conv=>whnf);refine zcd ?_;refine z26 3 rfl rfl rfl ?_;(conv=>whnf);refine ⟨_,zd1 (off:=0+1) (hl.blkO e2 hpb) rfl,?_⟩;(conv=>whnf);refine zsc hl hp (by decide) o.d ho.d fun hp w2 hl=>?_;(conv=>whnf);refine zb5 ?_;(conv=>whnf)
 refine zmp rfl fun w9 hB=>⟨rfl,?_⟩
 unfold accE;rw [if_neg hge,if_neg hlt];simp only [zbj,List.append_assoc,List.cons_append,List.nil_append] at hl;refine EmTo.later ?_ hB;refine EmTo.early hB1 ?_;simp only [List.cons_append,List.nil_append];exact hl
end
theorem ybb {x:Int} (h:0≤x∧x<18446744073709551616):IntKind.u64.wrap x=x:=by
 show x%18446744073709551616=x;omega
theorem z6z (s:St) (X:List Value) {j:Int} (h0:0≤j) (h1:j<16):(stL s []++X)[0+1+j.toNat*1]?=some (u32V (s.R j)):=by
 rcases (by omega:j=0∨j=1∨j=2∨j=3∨j=4∨j=5∨j=6∨j=7∨j=8∨j=9∨j=10∨j=11∨j=12∨j=13∨j=14∨j=15) with rfl|rfl|rfl|rfl|rfl|rfl|rfl|rfl|rfl|rfl|rfl|rfl|rfl|rfl|rfl|rfl<;>rfl
theorem za3 {w:World} {pa:Nat} {a:List Int} {t:TypeId} (h:w.heap[pa]?=some (.cells (alL a).toArray t (0,0))) (ha:a.length=28) {v:Int} (hv:0≤v∧v<28):zac w Gs.nil pa (0+v.toNat*1) [.int .i64 (getV a v)]:=by
 refine zd1 h ?_;rw [Nat.zero_add,Nat.mul_one,List.getElem?_map];unfold getV;rw [List.getElem?_eq_getElem zO];rfl
section
variable {w:World} {h c m:Nat} {ms:List Nat} {us:List Value} {n p:Nat} {M:MemP} {base ctx size:Int}
def valH (a:List Int) (L:Nat) (s:St) (M:MemP) (ctx:Int) (v:Nat):Int:=if L.testBit v=true∧0≤getV a (v:Int)∧getV a (v:Int)<9 then s.R (getV a (v:Int)+1) else M.load (ctx+4*(v:Int)) 0 4
theorem z9z (s:St) (ho:HoAt w h c m ms (stL s []) n p M base ctx size) (hM:M.ok n p) (hctx:0≤ctx∧ctx≤4000000) (a:List Int) (ha:a.length=28) (si:SiteP) (L:Nat) (hL:((L:Nat):Int)=si.live) (hL2:word si.live) (v:Nat) (hv:v<19):
  Calls Tryz.prog 63 #[pV h,.agg (alL a).toArray,z5m si,intV (v:Int)] w fun e w'=>e= .returned (.int .u32 (valH a L s M ctx v))∧Below w.heap.size w w':=by
 refine zfh [pV h,.agg (alL a).toArray,z5m si,intV (v:Int)] Tryz.func63 Tryz.ntmps63 rfl zS ?_;refine z3i ?_;(conv=>whnf);refine z3f fun r w1 hR=>?_;obtain ⟨pa,us1,e1,e2,e3⟩:=hR.own 0 _ rfl;obtain rfl:=ziw (us:=alL a) e3;obtain ⟨ps,us2,f1,f2,f3⟩:=hR.own 1 _ rfl;obtain rfl:=ziw (us:=z5k si) f3;have hB1:=hR.toBelow;refine ⟨z6d [(0,pV h),(3,intV (v:Int)),(5,pV pa),(6,pV ps)],fun a' hf=>z6m ⟨z6k hf rfl,z6k hf rfl,z6i hf 5 rfl e1,z6i hf 6 rfl f1,trivial⟩,?_⟩;clear hR e3 f3;have ho1:=ho.later hB1;have hav:=za3 (v:=(v:Int)) e2 ha zO;have hbit:=z3p (v:=v) hL
 have hwv:word (si.live/2^v):=by
  unfold word at hL2⊢;exact ⟨Int.ediv_nonneg hL2.1 (Int.le_of_lt (Int.pow_pos (by decide))),Int.lt_of_le_of_lt (Int.ediv_le_self _ hL2.1) hL2.2⟩
 refine z25 ?_;refine z3i ?_;(conv=>whnf);refine ⟨_,zd1 (off:=0+4) f2 rfl,?_⟩;(conv=>whnf);refine ⟨(v:Int),ybb zO,?_⟩;(conv=>whnf);refine ⟨by omega,si.live/2^v,by rw [Int.fdiv_eq_ediv_of_nonneg _ (Int.le_of_lt (Int.pow_pos (by decide))),Int.toNat_natCast,Nat.min_eq_left (by show v≤32;omega)],?_⟩;(conv=>whnf);refine ⟨_,z83 hwv (by unfold word;omega),?_⟩;(conv=>whnf);rw [hbit];by_cases hb:L.testBit v=true
 ·rw [if_pos hb]
  refine kB ?_;refine zz9 (size:=1) pa 0 28 (v:Int) rfl rfl rfl rfl rfl rfl zO zO ?_;refine kB ?_;refine ⟨_,hav,?_⟩;refine kB ?_;refine ⟨fun h0=>?_,fun h0=>?_⟩
  ·have h0:0≤getV a (v:Int):=of_decide_eq_true h0
   refine kB ?_;refine zz9 (size:=1) pa 0 28 (v:Int) rfl rfl rfl rfl rfl rfl zO zO ?_;refine kB ?_;refine ⟨_,hav,?_⟩;refine kB ?_;by_cases h9:getV a (v:Int)<9
   ·rw [show decide (getV a (v:Int)<9)=true from decide_eq_true h9]
    refine z23 (t:=true) rfl (fun _=>?_) (fun hc=>Bool.noConfusion (show true=false from hc));refine z3i ?_;refine z2v mixed zK ?_;(conv=>whnf);refine ⟨_,zd1 (off:=0+0) ho1.host rfl,?_⟩;(conv=>whnf);refine zz9 (size:=1) pa 0 28 (v:Int) rfl rfl rfl rfl rfl rfl zO zO ?_;(conv=>whnf);refine ⟨_,hav,?_⟩;(conv=>whnf);refine ⟨getV a (v:Int)+1,wr64 zO,?_⟩;(conv=>whnf);refine zz9 (size:=1) c (0+1) 16 (getV a (v:Int)+1) rfl rfl rfl rfl rfl rfl zO zO ?_;(conv=>whnf);refine ⟨_,zd1 ho1.cpu (z6z s [pV m] zO zO),?_⟩;(conv=>whnf);refine z3m ?_;(conv=>whnf);refine zcl (zcg ?_);(conv=>whnf)
    exact zmp rfl fun w2 hB=>⟨by unfold valH;rw [if_pos ⟨hb,h0,h9⟩],zdj hB1 hB⟩
   ·rw [show decide (getV a (v:Int)<9)=false from decide_eq_false h9]
    refine z23 (t:=false) rfl (fun hc=>Bool.noConfusion (show false=true from hc)) (fun _=>z3j (zcd ?_));refine z3i ?_;(conv=>whnf);refine ze2 rfl zK (fun r w' hR=>yav (ho1.later hR.toBelow) hM (v:Int) zO hctx) ?_;(conv=>whnf);refine z3m ?_;(conv=>whnf);refine zcg ?_;(conv=>whnf)
    exact zmp rfl fun w2 hB=>⟨by unfold valH;rw [if_neg (fun hh=>h9 hh.2.2)],zdj hB1 hB⟩
  ·have h0:¬0≤getV a (v:Int):=of_decide_eq_false h0
   refine kB ?_;refine z23 (t:=false) rfl (fun hc=>Bool.noConfusion (show false=true from hc)) (fun _=>z3j (zcd ?_));refine z3i ?_;(conv=>whnf);refine ze2 rfl zK (fun r w' hR=>yav (ho1.later hR.toBelow) hM (v:Int) zO hctx) ?_;(conv=>whnf);refine z3m ?_;(conv=>whnf);refine zcg ?_;(conv=>whnf)
   exact zmp rfl fun w2 hB=>⟨by unfold valH;rw [if_neg (fun hh=>h0 hh.2.1)],zdj hB1 hB⟩
 ·rw [if_neg hb]
  refine kB ?_;refine z23 (t:=false) rfl (fun hc=>Bool.noConfusion (show false=true from hc)) (fun _=>z3j (zcd ?_));refine z3i ?_;(conv=>whnf);refine ze2 rfl zK (fun r w' hR=>yav (ho1.later hR.toBelow) hM (v:Int) zO hctx) ?_;(conv=>whnf);refine z3m ?_;(conv=>whnf);refine zcg ?_;(conv=>whnf)
  exact zmp rfl fun w2 hB=>⟨by unfold valH;rw [if_neg (fun hh=>hb hh.1)],zdj hB1 hB⟩
end
end Go.Proofs.YtocafomnnkmjfaaGreat
