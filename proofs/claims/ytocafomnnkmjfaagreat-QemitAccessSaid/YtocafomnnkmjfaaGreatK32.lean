import Derived.Test.YtocafomnnkmjfaaGreatK31
set_option maxRecDepth 100000
set_option maxHeartbeats 2000000
namespace Go.Proofs.YtocafomnnkmjfaaGreat
open Go.RowKit
structure HostE (G n p:Nat) (vs:List Int) (g M:MemP) (steps limit:Int):Prop where
 vars:VarsOk vs
 mem:M.ok n p
 gok:g.ok (256*G) G
 gp:G<p
 words:∀ v,0≤v→v<19→M.load (cxE G v) 0 4=getV vs v
 ws:M.load (cxE G 28) 0 4=steps
 wl:M.load (cxE G 29) 0 4=limit
 guest:∀ y,0≤y→y<256*(G:Int)→M.get y=g.get y
 grr:∀ y r,0≤y→y<256*(G:Int)→(r=1∨r=2)→M.right y r=g.right y r
 crr:∀ y,256*(G:Int)≤y→y<256*(G:Int)+256→∀ r,(r=1∨r=2)→M.right y r=true
section
variable {E:Em} {G n p:Nat} {vs:List Int} {g:MemP} {R:Int→Int} {M:MemP} {F:Int→Option QI} {B:Int} {k:Nat} {steps limit:Int}
theorem HostE.rel (h:HostE G n p vs g M steps limit) (_hA:AlOk E.a) (hw:∀ j,0≤j→j<16→word (R j)) (h0:R 0=0) (h15:R 15=256*(G:Int)) (hr:∀ v,0≤v→v<19→0≤getV E.a v→R (getV E.a v+1)=getV vs v):RelE E G n p 0 vs g M R M:=by
 have kn:∀ v,zsq 0 v→0≤v∧v<19:=fun v hv=>by
  obtain ⟨a,b,c,d⟩:=hv;rcases d with d|d
  ·omega
  ·rw [Nat.zero_testBit] at d;cases d
 exact ⟨h.vars,h.mem,h.gok,h.gp,hw,h0,h15,fun v hv ha=>hr v (kn v hv).1 (kn v hv).2 ha,fun v hv _=>h.words v (kn v hv).1 (kn v hv).2,fun v v0 v1 _ _=>h.words v v0 v1,h.guest,h.grr,h.crr,fun _ _=>rfl,rfl⟩
theorem zj4 (h:HostE G n p vs g M steps limit) (hA:AlOk E.a) (hB:0≤B∧B≤4000000000):∀ (j:Nat),j≤19→∀ {R:Int→Int},(∀ j,0≤j→j<16→word (R j))→R 0=0→R 15=256*(G:Int)→Cd F B k (zjv E j)→
  ∃ R',Ex F B k R M (k+(zjv E j).length) R' M (zjv E j).length∧(∀ j,0≤j→j<16→word (R' j))∧R' 0=0∧R' 15=256*(G:Int)∧∀ v,0≤v→v<(j:Int)→0≤getV E.a v→R' (getV E.a v+1)=getV vs v
 |0,_,R,hw,h0,h15,_=>⟨R,Ex.refl,hw,h0,h15,fun v a b=>by omega⟩
 |j+1,hj,R,hw,h0,h15,hc=>by
  obtain ⟨R1,e1,w1,z1,b1,v1⟩:=zj4 h hA hB j zO hw h0 h15 (Cd.left (m:=ent1 E j) hc);have hc2:Cd F B (k+(zjv E j).length) (ent1 E j):=Cd.right hc;show ∃ R',Ex F B k R M (k+(zjv E j++ent1 E j).length) R' M (zjv E j++ent1 E j).length∧_;rw [List.length_append, ← Nat.add_assoc];unfold ent1 at hc2⊢;have hs1:=h.mem.np;have hs2:=h.mem.pmax;have hs3:=h.gp;by_cases ha:0≤getV E.a (j:Int)
  ·rw [if_pos ha] at hc2⊢
   have hlo:=(hA.lo (j:Int) zO zO).2;have hreg:regE (getV E.a (j:Int))=getV E.a (j:Int)+1:=if_pos ⟨ha,hlo⟩;have hcx:(R1 15+4*(j:Int))%4294967296=cxE G (j:Int):=(by rw [b1];unfold cxE;omega)
   have hbad:M.bad (cxE G (j:Int)) 1 0 4=none:=zc9.2 fun q _ hq=>by
    rw [show (cxE G (j:Int)+q)%4294967296=cxE G (j:Int)+q by unfold cxE;omega];exact h.crr _ (by unfold cxE;omega) (by unfold cxE;omega) 1 (.inl rfl)
   have e2:=zk8 (R:=R1) (M:=M) hB hc2 (by rw [hcx];exact hbad);rw [hcx,h.words (j:Int) zO zO,hreg] at e2;have hvw:=zoj h.vars (j:Int);refine ⟨_,e1.trans e2,fun q q0 q1=>z9i w1 _ hvw q q0 q1,z9j z1 _ _,(z9f zO).trans b1,fun v h0 h1 hva=>?_⟩;by_cases hvj:v=(j:Int)
   ·subst hvj;exact z9e zO
   ·have hne:getV E.a v≠getV E.a (j:Int):=fun e=>hvj (hA.inj v (j:Int) h0 zO zO zO hva e)
    rw [z9f zO];exact v1 v h0 zO hva
  ·rw [if_neg ha]
   refine ⟨R1,e1,w1,z1,b1,fun v h0 h1 hva=>?_⟩
   have hvj:v≠(j:Int):=fun e=>by subst e;exact ha hva
   exact v1 v h0 zO hva
theorem zj6 (h:HostE G n p vs g M steps limit) (hA:AlOk E.a) (hB:0≤B∧B≤4000000000) (hw:∀ j,0≤j→j<16→word (R j)) (h0:R 0=0) {L:Int} (_hL:0≤L∧L≤64) (hc:Cd F B 0 (entE E (256*(G:Int)) L)):
  (limit<(steps+L)%4294967296→∃ R',Ex F B 0 R M 6 R' M 6)∧
  (¬limit<(steps+L)%4294967296→∃ R',Ex F B 0 R M (entE E (256*(G:Int)) L).length R' (MemP.store (cxE G 28) 0 4 ((steps+L)%4294967296) M) (entE E (256*(G:Int)) L).length∧RelE E G n p 0 vs g (MemP.store (cxE G 28) 0 4 ((steps+L)%4294967296) M) R' (MemP.store (cxE G 28) 0 4 ((steps+L)%4294967296) M)):=by
 have hs1:=h.mem.np;have hs2:=h.mem.pmax;have hs3:=h.gp;have hcx:word (256*(G:Int)):=(by unfold word;omega)
 obtain ⟨S,hS⟩:∃ S,S=(steps+L)%4294967296:=⟨_,rfl⟩
 have hSw:word S:=by rw [hS];exact ya2 _
 rw [← hS]
 have hsw:word steps:=by rw [← h.ws];exact zti _ _ _ _
 have hlw:word limit:=by rw [← h.wl];exact zti _ _ _ _
 have e1:=zk6 (R:=R) (M:=M) hB hc.left (by decide) hcx
 have w1:∀ j,0≤j→j<16→word (updR R 15 (256*(G:Int)) j):=fun j j0 j1=>z9i hw _ hcx j j0 j1
 have z1:updR R 15 (256*(G:Int)) 0=0:=z9j h0 _ _
 have b1:updR R 15 (256*(G:Int)) 15=256*(G:Int):=z9e (by decide)
 generalize updR R 15 (256*(G:Int))=R1 at e1 w1 z1 b1;have hcr:=hc.right;rw [show (0:Nat)+(con2 15 (256*(G:Int))).length=2 from rfl] at hcr;have hl:=hcr.left
 have hbad:∀ v,0≤v→v<64→∀ r,(r=1∨r=2)→M.bad (cxE G v) r 0 4=none:=fun v v0 v1 r hr=>zc9.2 fun q _ hq=>by
  rw [show (cxE G v+q)%4294967296=cxE G v+q by unfold cxE;omega];exact h.crr _ (by unfold cxE;omega) (by unfold cxE;omega) r hr
 have a28:∀ R2:Int→Int,R2 15=256*(G:Int)→(R2 15+112)%4294967296=cxE G 28:=fun R2 hb=>by rw [hb];unfold cxE;omega
 have a29:∀ R2:Int→Int,R2 15=256*(G:Int)→(R2 15+116)%4294967296=cxE G 29:=fun R2 hb=>by rw [hb];unfold cxE;omega
 have e2:=zk8 (R:=R1) (M:=M) hB hl (by rw [a28 R1 b1];exact hbad 28 zO zO 1 (.inl rfl));rw [a28 R1 b1,h.ws] at e2;have w2:∀ j,0≤j→j<16→word (updR R1 10 steps j):=fun j j0 j1=>z9i w1 _ hsw j j0 j1;have z2:updR R1 10 steps 0=0:=z9j z1 _ _;have b2:updR R1 10 steps 15=256*(G:Int):=(z9f (by decide)).trans b1
 have v2:updR R1 10 steps 10=steps:=z9e (by decide)
 generalize updR R1 10 steps=R2 at e2 w2 z2 b2 v2;have e3:=zk8 (R:=R2) (M:=M) hB hl.tail (by rw [a29 R2 b2];exact hbad 29 zO zO 1 (.inl rfl));rw [a29 R2 b2,h.wl] at e3;have w3:∀ j,0≤j→j<16→word (updR R2 11 limit j):=fun j j0 j1=>z9i w2 _ hlw j j0 j1;have z3:updR R2 11 limit 0=0:=z9j z2 _ _;have b3:updR R2 11 limit 15=256*(G:Int):=(z9f (by decide)).trans b2;have v3:updR R2 11 limit 10=steps:=(z9f (by decide)).trans v2
 have l3:updR R2 11 limit 11=limit:=z9e (by decide)
 generalize updR R2 11 limit=R3 at e3 w3 z3 b3 v3 l3;have e4:=zk3 (R:=R3) (M:=M) hB hl.tail.tail;rw [v3, ← hS] at e4;have w4:∀ j,0≤j→j<16→word (updR R3 10 S j):=fun j j0 j1=>z9i w3 _ hSw j j0 j1;have z4:updR R3 10 S 0=0:=z9j z3 _ _;have b4:updR R3 10 S 15=256*(G:Int):=(z9f (by decide)).trans b3
 have v4:updR R3 10 S 10=S:=z9e (by decide)
 have l4:updR R3 10 S 11=limit:=(z9f (by decide)).trans l3;generalize updR R3 10 S=R4 at e4 w4 z4 b4 v4 l4;have e5:=zk4 (R:=R4) (M:=M) hB (e:=2) hl.tail.tail.tail (.inr (.inr rfl)) zO;rw [l4,v4] at e5;have eall:=(((e1.trans e2).trans e3).trans e4).trans e5
 constructor
 ·intro hlt
  rw [if_neg (by show ¬brE 35 limit S=true;unfold brE;simp [hlt])] at eall;exact ⟨R4,eall⟩
 ·intro hlt
  rw [if_pos (by show brE 35 limit S=true;unfold brE;simpa using hlt)] at eall;have hc6:=hl.tail.tail.tail.tail.tail;have e6:=zld (R:=R4) (M:=M) hB hc6 (by rw [a28 R4 b4];exact hbad 28 zO zO 2 (.inr rfl));rw [a28 R4 b4,v4] at e6
  have hrel0:RelE ⟨List.replicate 28 (-1),0,0,0,0⟩ G n p 0 vs g M R4 M:=h.rel ⟨rfl,fun v v0 v1=>by
    have:getV (List.replicate 28 (-1)) v= -1:=by unfold getV;rw [List.getElem?_replicate,if_pos zO];rfl
    rw [this];omega,rfl,fun u v u0 u1 _ _ hu _=>by
    have:getV (List.replicate 28 (-1)) u= -1:=by unfold getV;rw [List.getElem?_replicate,if_pos zO];rfl
    rw [this] at hu;omega⟩ w4 z4 b4 (fun v v0 v1 hva=>by
    have:getV (List.replicate 28 (-1)) v= -1:=(by unfold getV;rw [List.getElem?_replicate,if_pos zO];rfl);have hva:0≤getV (List.replicate 28 (-1)) v:=hva
    rw [this] at hva;omega)
  obtain ⟨c1,c2,c3,c4,c5,c6⟩:=hrel0.cxst (v:=28) zO hSw
  have h':HostE G n p vs g (MemP.store (cxE G 28) 0 4 S M) S limit:=⟨h.vars,c1,h.gok,h.gp,fun v v0 v1=>by rw [c3 v v0 zO zO];exact h.words v v0 v1,c2,by rw [c3 29 zO zO zO];exact h.wl,fun y y0 y1=>by rw [c4 y y0 (.inl (by unfold cxE;omega))];exact h.guest y y0 y1,fun y r y0 y1 hr=>by rw [c5];exact h.grr y r y0 y1 hr,fun y y0 y1 r hr=>by rw [c5];exact h.crr y y0 y1 r hr⟩
  generalize MemP.store (cxE G 28) 0 4 S M=M' at e6 h'⊢;obtain ⟨R5,e7,w7,z7,b7,v7⟩:=zj4 (F:=F) (B:=B) (k:=8) h' hA hB 19 (Nat.le_refl _) w4 z4 b4 hcr.right;refine ⟨R5,?_,h'.rel hA w7 z7 b7 fun v v0 v1 hva=>v7 v v0 zO hva⟩;have e:=(eall.trans e6).trans e7
  have hlen:(entE E (256*(G:Int)) L).length=8+(zjv E 19).length:=by
   unfold entE con2;simp only [List.length_append,List.length_cons,List.length_nil];omega
  rw [hlen];exact e.mono zO
theorem ybn:∀ {l:List BOp} {o:BOp},o∈l→0≤writes o→(ybm l).testBit (writes o).toNat=true
 |q::l,o,ho,hw=>by
  unfold ybm;rcases List.mem_cons.1 ho with rfl|ho
  ·rw [if_pos hw,Nat.testBit_or,Nat.testBit_two_pow_self];rfl
  ·have:=ybn ho hw
   split
   ·rw [Nat.testBit_or,this,Bool.or_true]
   ·exact this
theorem zsv {b:Blk} (_hb:b.ok) (hv:z9o b=true):0≤lenE b∧lenE b≤64:=by
 have h:=(z9z.1 hv).1;unfold zpo at h;simp only [Bool.and_eq_true,decide_eq_true_eq] at h;unfold lenE
 split<;>omega
theorem yav {b:Blk} {a:List Int} {pred:Int} (hb:b.ok) (hv:z9o b=true) (hA:AlOk a) (hpw:word pred) (hG:1≤G) (h:HostE G n p vs g M steps limit) (hB:0≤B∧B≤4000000000) (hw:∀ j,0≤j→j<16→word (R j)) (h0:R 0=0) (hc:Cd F B 0 (yao b a (256*(G:Int)) (256*(G:Int)) pred)):
  (limit<(steps+lenE b)%4294967296→(yao b a (256*(G:Int)) (256*(G:Int)) pred)[6]?=some (zqv ⟨1,0,0,0,0⟩)∧∃ R',Ex F B 0 R M 6 R' M 6)∧
  (¬limit<(steps+lenE b)%4294967296→∃ vs',zae (emE b a (256*(G:Int)) pred) G n p F B 0 (yao b a (256*(G:Int)) (256*(G:Int)) pred) (zkq b vs g).out vs' (zkq b vs g).mem (MemP.store (cxE G 28) 0 4 ((steps+lenE b)%4294967296) M) R M):=by
 obtain ⟨hl0,hl1⟩:=zsv hb hv;obtain ⟨q1,q2⟩:=zj6 (E:=emE b a (256*(G:Int)) pred) h hA hB hw h0 ⟨hl0,hl1⟩ hc.left
 constructor
 ·intro hlt
  exact ⟨rfl,q1 hlt⟩
 ·intro hlt
  obtain ⟨R',e,r⟩:=q2 hlt;obtain ⟨hh,s',hs',_⟩:=z9z.1 hv
  have hne:b.ops≠[]:=fun e=>by
   unfold zpo at hh;rw [e] at hh;simp at hh
  obtain ⟨vs',h1,_⟩:=zgp (E:=emE b a (256*(G:Int)) pred) hA hB hpw rfl hG b.at_ b.ops ⟨0,0,false⟩ s' 0 vs g R' _ _ hne hs' (fun o ho=>⟨hb.ops o ho,fun hw=>ybn ho hw⟩) r hc.right;refine ⟨vs',?_⟩;have hev:zkq b vs g=zkt b.at_ b.ops 0 vs g:=(by unfold zkq;rw [if_pos hv]);rw [hev];rw [Nat.zero_add] at h1;have e':Ex F B 0 R M (0+(entE (emE b a (256*(G:Int)) pred) (256*(G:Int)) (lenE b)).length) R' (MemP.store (cxE G 28) 0 4 ((steps+lenE b)%4294967296) M) (entE (emE b a (256*(G:Int)) pred) (256*(G:Int)) (lenE b)).length:=(by rw [Nat.zero_add];exact e);exact zn4 e' (by rw [Nat.zero_add];exact h1)
end
section
variable {w:World} {g:Nat} {vC vS:Value} {X:EmX} {E:Em} {k:Int}
theorem ztu (h:EmAt w g vC vS X) (o:BOp) (hn:word o.n):
  Calls Tryz.prog 124 #[pV g,opV o] w fun e w'=>e= .returned (.tuple #[])∧EmTo w w' g vC vS {X with index:=o.n}:=by
 refine zfg [pV g,opV o] Tryz.func124 Tryz.ntmps124 rfl zS ?_;refine z3q ?_;(conv=>whnf);refine z3n fun r w1 hR=>?_;obtain ⟨pb,us,e1,e2,e3⟩:=hR.own 0 _ rfl;obtain rfl:=zis (us:=opC o) e3;have hB1:=hR.toBelow;have hpb:=zob h (zoc hR e1);have h1:=h.later hB1;refine ⟨z6l [(0,pV g),(3,pV pb)],fun a' hf=>z6u ⟨z6s hf rfl,z6q hf 3 rfl e1,trivial⟩,?_⟩;clear hR e3;refine z3v 0 0 g rfl (emGs g vC vS) (emU X) fun r2 w2 hR2=>?_;have hB2:=hR2.toBelow;have h2:=h1.later hB2;refine ⟨_,z1u h2,rfl,?_⟩;have e4:=(hB2.block pb (zpt e2)).trans e2;have hal:=h2.al;clear h1 hR2;obtain ⟨A,size,code,sites,live,index,written⟩:=X;dsimp only at hal⊢;obtain ⟨x0,x1,x2,x3,x4,x5,x6,x7,x8,x9,x10,x11,x12,x13,x14,x15,x16,x17,x18,x19,x20,x21,x22,x23,x24,x25,x26,x27,rfl⟩:=zs3 hal;refine z3u ?_;(conv=>whnf);refine ⟨.int .u32 o.n,zfs (off:=0+4) (zpt e4) (fun hm=>hpb (zuc.1 hm)) (by simp [World.cell?,e4,opC]),?_⟩;(conv=>whnf);refine ⟨o.n,by exact wr64 (by unfold word at hn;omega),?_⟩;(conv=>whnf);refine zb5 ?_;(conv=>whnf)
 refine zme (X':=⟨[x0,x1,x2,x3,x4,x5,x6,x7,x8,x9,x10,x11,x12,x13,x14,x15,x16,x17,x18,x19,x20,x21,x22,x23,x24,x25,x26,x27],size,code,sites,live,o.n,written⟩) 1 2 rfl rfl rfl rfl rfl (by decide) fun w' h'=>⟨rfl,(h'.early hB2).early hB1⟩
theorem zq7:∀ l:List QI,(l.flatMap iqL).length=l.length*5
 |[]=>rfl
 |i::l=>by rw [List.flatMap_cons,List.length_append,zq7 l];show 5+l.length*5=(l.length+1)*5;omega
theorem zq8 (l1 l2:List QI) (i:QI) (v:Int):((l1++i::l2).flatMap iqL).set (l1.length*5+4) (.int .u32 v)=(l1++{i with imm:=v}::l2).flatMap iqL:=by
 rw [List.flatMap_append,List.flatMap_append,List.set_append_right _ _ (by rw [zq7];omega),zq7,Nat.add_sub_cancel_left]
 rfl
theorem zbk (X:EmX) (ra n:Int) (l:List It):((X.app [iI 32 ra 0 n]).app l).code=X.code++(⟨32,ra,0,0,n⟩:QI)::l.map (·.i):=by
 show (X.code++[⟨32,ra,0,0,n⟩])++l.map (·.i)=_;rw [List.append_assoc];rfl
theorem zbm (X:EmX) (ra n:Int) (l:List It):({(X.app [iI 32 ra 0 0]).app l with code:=X.code++(⟨32,ra,0,0,n⟩:QI)::l.map (·.i)}:EmX)=(X.app [iI 32 ra 0 n]).app l:=by
 unfold EmX.app;simp only [List.map_cons,List.map_nil,List.length_append,List.length_cons,List.length_nil,List.append_assoc,List.cons_append,List.nil_append]
 rfl
theorem zlg (h:EmAt w g vC vS X) (hp:EmP E k 0 X) (hw:word X.written) (o:BOp) (ho:OpF o):
  Calls Tryz.prog 127 #[pV g,opV o] w fun e w'=>e= .returned (.tuple #[])∧EmTo w w' g vC vS (X.app (rdE E o.a 10++([iI 32 (rrE E o.a 10) 0 (1+(exE E o.n).length)]++exE E o.n))):=by
 refine zfg [pV g,opV o] Tryz.func127 Tryz.ntmps127 rfl zS ?_;refine z3q ?_;(conv=>whnf);refine z3n fun r w1 hR=>?_;obtain ⟨pb,us,e1,e2,e3⟩:=hR.own 0 _ rfl;obtain rfl:=zis (us:=opC o) e3;have hB1:=hR.toBelow;have hpb:=zob h (zoc hR e1);have h1:=h.later hB1;refine ⟨z6l [(0,pV g),(3,pV pb)],fun a' hf=>z6u ⟨z6s hf rfl,z6q hf 3 rfl e1,trivial⟩,?_⟩;clear hR e3;refine z3e (z3f 3 rfl rfl rfl ?_);(conv=>whnf);refine ⟨_,zd1 (off:=0+2) e2 rfl,?_⟩;(conv=>whnf);refine zsb (EmTo.refl h1 (Below.refl _ _)) hp (by decide) o.a 10 ho.a fun hp w2 hl=>?_;(conv=>whnf);refine zcd ?_;obtain ⟨vC1,vS1,h2,hn2,k2⟩:=hl.now2;obtain ⟨A1,c1,rfl⟩:=z2b h2.code;have e4:=hl.blkO e2 hpb;have hpb2:=hn2 pb (zpt e2) hpb;refine z3q ?_;(conv=>whnf);refine ⟨_,zjf h2 (k:=1) (x:= .slice A1 (X.app (rdE E o.a 10)).code.length c1) rfl,?_⟩;(conv=>whnf);refine z3e (z3f 4 rfl rfl rfl ?_);(conv=>whnf);refine zr8 h2 [⟨32,rrE E o.a 10,0,0,0⟩] 0 1 rfl rfl (by have:=hp.c8 (by decide);omega) fun w3 hl3=>?_;(conv=>whnf);refine zcd ?_;have hp3:EmP E k (0+1+1) ((X.app (rdE E o.a 10)).app [iI 32 (rrE E o.a 10) 0 0]):=hp.app _ (Nat.le_refl 1);have hl4:EmTo w2 w3 g (.slice A1 (X.app (rdE E o.a 10)).code.length c1) vS1 ((X.app (rdE E o.a 10)).app [iI 32 (rrE E o.a 10) 0 0]):=(by unfold iI;rw [zbo];exact hl3);have e5:=hl4.blkO e4 hpb2;refine z3e (z3f 2 rfl rfl rfl ?_);(conv=>whnf);refine ⟨opC o,zd0 e5,rfl,?_⟩;(conv=>whnf);refine zr7 (.tuple #[]) hl4 (us:=[opV o]) rfl zK (fun w4 vC3 vS3 k3=>zlm k3 hp3 (by decide) hw o) fun w5 hl5=>?_;(conv=>whnf);refine zcd ?_;obtain ⟨vC3,vS3,h5,k5⟩:=hl5.now
 have hc3:(((X.app (rdE E o.a 10)).app [iI 32 (rrE E o.a 10) 0 0]).app (exE E o.n)).code=(X.app (rdE E o.a 10)).code++(⟨32,rrE E o.a 10,0,0,0⟩:QI)::(exE E o.n).map (·.i):=by
  exact zbk _ _ _ _
 have hfin:({((X.app (rdE E o.a 10)).app [iI 32 (rrE E o.a 10) 0 0]).app (exE E o.n) with code:=(X.app (rdE E o.a 10)).code++(⟨32,rrE E o.a 10,0,0,(((X.app (rdE E o.a 10)).code.length+((exE E o.n).length+1):Nat):Int)-(X.app (rdE E o.a 10)).code.length⟩:QI)::(exE E o.n).map (·.i)}:EmX)=X.app (rdE E o.a 10++([iI 32 (rrE E o.a 10) 0 (1+(exE E o.n).length)]++exE E o.n)):=by
  rw [← zbj, ← zbj,zbm,show ((((X.app (rdE E o.a 10)).code.length+((exE E o.n).length+1):Nat):Int)-(X.app (rdE E o.a 10)).code.length)=1+(exE E o.n).length by omega]
 have hlen3:((exE E o.n).map (·.i)).length=(exE E o.n).length:=List.length_map ..;have hle:=hp3.c8 (by decide);have hex:=zk1 (E:=E) o.n;have hle1:(X.app (rdE E o.a 10)).code.length≤100000000:=hp.c8 (by decide);generalize ((X.app (rdE E o.a 10)).app [iI 32 (rrE E o.a 10) 0 0]).app (exE E o.n)=X3 at hl5 h5 k5 hc3 hfin;generalize hC2:(exE E o.n).map (·.i)=C2 at hc3 hfin hlen3;generalize (X.app (rdE E o.a 10)).code=C1 at hc3 hfin hle1⊢;refine z3v 0 0 g rfl (emGs g vC3 vS3) (emU X3) fun r2 w6 hR2=>?_;have hB2:=hR2.toBelow;have h6:=h5.later hB2;refine ⟨_,z1u h6,rfl,?_⟩;have hal:=h6.al;clear h5 hR2;obtain ⟨A,size,code,sites,live,index,written⟩:=X3;dsimp only at hal hc3 hfin⊢;subst hc3;obtain ⟨x0,x1,x2,x3,x4,x5,x6,x7,x8,x9,x10,x11,x12,x13,x14,x15,x16,x17,x18,x19,x20,x21,x22,x23,x24,x25,x26,x27,rfl⟩:=zs3 hal;refine z3t (z27 15 mixed zK ?_);(conv=>whnf);have hlc:(C1++(⟨32,rrE E o.a 10,0,0,0⟩:QI)::C2).length=C1.length+((exE E o.n).length+1):=(by rw [List.length_append,List.length_cons,hlen3]);refine ⟨(((C1.length+((exE E o.n).length+1):Nat):Int)-C1.length),by dsimp only;rw [hlc];exact wr64 zO,?_⟩;(conv=>whnf);refine ⟨(((C1.length+((exE E o.n).length+1):Nat):Int)-C1.length),by rw [wr32];omega,?_⟩;(conv=>whnf);refine ⟨⟨by omega,by dsimp only;rw [hlc];omega⟩,?_⟩;(conv=>whnf);refine ⟨by show C1.length*5+4+1≤((C1++(⟨32,rrE E o.a 10,0,0,0⟩:QI)::C2).flatMap iqL).length;rw [zq7,hlc];omega,?_⟩;(conv=>whnf);refine zb5 ?_;(conv=>whnf)
 refine zme (X':=⟨[x0,x1,x2,x3,x4,x5,x6,x7,x8,x9,x10,x11,x12,x13,x14,x15,x16,x17,x18,x19,x20,x21,x22,x23,x24,x25,x26,x27],size,C1++(⟨32,rrE E o.a 10,0,0,((C1.length+((exE E o.n).length+1):Nat):Int)-C1.length⟩:QI)::C2,sites,live,index,written⟩) 1 2 rfl rfl rfl ?_ rfl (by decide) fun w' h'=>⟨rfl,?_⟩
 ·show some (Ow.row iqT 5 (C1++(⟨32,rrE E o.a 10,0,0,0⟩:QI)::C2).length (((C1++(⟨32,rrE E o.a 10,0,0,0⟩:QI)::C2).flatMap iqL).set (C1.length*5+4) (.int .u32 (((C1.length+((exE E o.n).length+1):Nat):Int)-C1.length))))=some (Ow.row iqT 5 _ _)
  rw [zq8,List.length_append,List.length_append]
  rfl
 ·rw [hfin] at h'
  exact (k2 _ _ (k5 _ _ (h'.early hB2))).early hB1
end
open Go.RowKit
section
variable {w:World} {g:Nat} {vC vS:Value} {X:EmX} {E:Em} {k:Int}
theorem zza (X1:EmX) (n:Nat) (hn:X1.code.length=n+3):({z5p X1 6 with const:=4*(n:Int)}:SiteP)=z5t X1.code.length ⟨6,0,0,0,12⟩:=by
 unfold z5p z5t;rw [if_neg (by decide),if_neg (by decide),hn];show (⟨_,_,_,_,_,_⟩:SiteP)=⟨_,_,_,_,_,4*((n+3:Nat):Int)-12⟩;rw [show 4*((n+3:Nat):Int)-12=4*(n:Int) by omega]
theorem zlk (h:EmAt w g vC vS X) (hp:EmP E k 0 X) (hpr:E.pred=0) (hw:word X.written) (o:BOp) (ho:OpF o):
  Calls Tryz.prog 129 #[pV g,opV o] w fun e w'=>e= .returned (.tuple #[])∧EmTo w w' g vC vS (X.app (rdE E o.a 10++([i3 1 10 (rrE E o.a 10) 0]++(svE E++([iI 25 10 15 76]++(con2 11 E.pred++[iI 33 10 11 2,zqv ⟨6,0,E.pred,0,12⟩,zqv ⟨5,0,0,0,0⟩])))))):=by
 refine zfg [pV g,opV o] Tryz.func129 Tryz.ntmps129 rfl zS ?_;refine z3q ?_;(conv=>whnf);refine z3n fun r w1 hR=>?_;obtain ⟨pb,us,e1,e2,e3⟩:=hR.own 0 _ rfl;obtain rfl:=zis (us:=opC o) e3;have hB1:=hR.toBelow;have hpb:=zob h (zoc hR e1);have h1:=h.later hB1;refine ⟨z6l [(0,pV g),(3,pV pb)],fun a' hf=>z6u ⟨z6s hf rfl,z6q hf 3 rfl e1,trivial⟩,?_⟩;clear hR e3;refine z3e (z3p (emG g vC vS) (fun w=>EmTo w1 w g vC vS X) (fun w hB=>EmTo.refl h1 hB) ?_);(conv=>whnf);refine ⟨_,zpx e2 hpb (k:=0+2) (x:= .int .i64 o.a) rfl,?_⟩;(conv=>whnf);refine zry hp (by decide) o.a 10 ho.a fun hp=>?_;(conv=>whnf);refine zr0 hp (by decide) 1 10 (rrE E o.a 10) 0 fun hp=>?_;(conv=>whnf);intro w2 _ hl;refine zcd ?_;refine z3e (z3f 1 rfl rfl rfl ?_);(conv=>whnf);refine zsc hl hp (by decide) hw fun hp w2 hl=>?_;(conv=>whnf);refine zcd ?_;refine z3e (z3f 1 rfl rfl rfl ?_);(conv=>whnf);refine zr9 hl hp (by decide) 25 10 15 76 fun hp w3 hl=>?_;(conv=>whnf);refine zcd ?_;simp only [zbj,List.append_assoc,List.cons_append,List.nil_append] at hl hp;generalize hX:X.app (rdE E o.a 10++i3 1 10 (rrE E o.a 10) 0::(svE E++[iI 25 10 15 76]))=X2 at hl hp;obtain ⟨vC1,vS1,h2,k2⟩:=hl.now;obtain ⟨A1,c1,rfl⟩:=z2b h2.code;have hle:=hp.c8 (by decide);refine z3q ?_;(conv=>whnf);refine ⟨_,zjf h2 (k:=1) (x:= .slice A1 X2.code.length c1) rfl,?_⟩;(conv=>whnf);refine ⟨4*(X2.code.length:Int),wr64 zO,?_⟩;(conv=>whnf);refine z3n fun r w4 hR=>?_;obtain ⟨pf,us,f1,f2,f3⟩:=hR.own 0 _ rfl;obtain rfl:=zis (us:=[.int .i64 (4*(X2.code.length:Int))]) f3;have hB2:=hR.toBelow;have hpf:=zob h2 (zoc hR f1);have h3:=h2.later hB2;refine ⟨z6l [(0,pV g),(4,pV pf)],fun a' hf=>z6u ⟨z6s hf rfl,z6q hf 4 rfl f1,trivial⟩,?_⟩;clear hR f3;refine z3q ?_;(conv=>whnf);refine ze2 rfl zK (fun r w' hR=>zg0 11 0 w' (by unfold word;decide)) ?_;(conv=>whnf);refine z3e (z3f 2 rfl rfl rfl ?_);(conv=>whnf);refine zwy (z0p 0 0 2 rfl rfl rfl rfl ?_) rfl;(conv=>whnf);refine zr8 h3 (zgz 11 0) 0 2 rfl rfl zO fun w5 hl3=>?_;(conv=>whnf);refine zcd ?_;have hp3:=hp.app (con2 11 0) (Nat.le_refl 2);have hl4:EmTo w4 w5 g (.slice A1 X2.code.length c1) vS1 (X2.app (con2 11 0)):=(by rw [zgv,zbl];exact hl3);clear hl3;refine z3e (z3f 1 rfl rfl rfl ?_);(conv=>whnf);refine zr9 hl4 hp3 (by decide) 33 10 11 2 fun hp w6 hl=>?_;(conv=>whnf);refine zcd ?_;refine z3e (z3f 2 rfl rfl rfl ?_);(conv=>whnf);refine zsf hl hp zO 6 (.inr rfl) 173 pf [.int .i64 (4*(X2.code.length:Int))] _ (fun s=>{s with const:=4*(X2.code.length:Int)}) zK f2 hpf (fun w1 b s h1 h2=>zlj _ w1 b pf s h1 h2) ⟨6,0,0,0,12⟩ (zza _ _ (by show ((X2.code++_)++_).length=_;rw [List.length_append,List.length_append];rfl)) fun hp w7 hl=>?_;(conv=>whnf);refine zcd ?_;refine z3f 1 rfl rfl rfl ?_;(conv=>whnf);refine zse hl hp (by decide) 5 (by decide) ⟨5,0,0,0,0⟩ (by rw [z5r (by decide)]) fun hp w8 hl=>?_;(conv=>whnf);refine zb5 ?_;(conv=>whnf)
 refine zmj rfl fun w9 hB=>⟨rfl,?_⟩
 subst hX;simp only [zbj,List.append_assoc,List.cons_append,List.nil_append] at hl;rw [hpr];simp only [List.cons_append,List.nil_append];refine EmTo.later ?_ hB;refine EmTo.early hB1 ?_;refine k2 _ _ ?_;refine EmTo.early hB2 ?_;exact hl
end
section
variable {w0 w:World} {g:Nat} {vC vS:Value} {X1:EmX} {E:Em} {k:Int} {n:Nat} {S:List Ow} {K:Value→World→Prop}
theorem zsg (h:EmTo w0 w g vC vS X1) (hp:EmP E k n X1) (v:Int) (hv:0≤v∧v<28) (hK:∀ w',EmTo w0 w' g vC vS X1→K (.int .i64 (tgE E v)) w'):Jmp Tryz.prog w Gs.nil 73 [one (pV g),one (.int .i64 v)] S K:=
 zr7 _ h (us:=[.int .i64 v]) rfl zK (fun w vC1 vS1 k1=>(z8u E k1 hp.ok.a hp.ok.al v hv).mono fun e w2 ⟨he,hB⟩=>⟨he,EmTo.refl k1 hB⟩) hK
theorem zsd (h:EmTo w0 w g vC vS X1) (hp:EmP E k n X1) (hn:n≤1000) (hK:∀ w',EmTo w0 w' g vC vS {X1 with sites:=X1.sites++[z5p X1 3]}→K (.tuple #[]) w'):Jmp Tryz.prog w Gs.nil 168 [one (pV g),one (.int .i64 3),one .nilFunc] S K:=
 zr7 _ h (us:=[.int .i64 3,.nilFunc]) rfl zK (fun w vC1 vS1 k1=>z5x k1 3 (by decide) (hp.c8 hn) (hp.s8 hn)) hK
theorem zr4 (h:EmTo w0 w g vC vS {X1 with sites:=X1.sites++[z5p X1 3]}) (hp:EmP E k n X1) (hn:n≤1000) (op d a x:Int) (hK:EmP E k (n+1) (X1.app [⟨⟨op,d,a,0,x⟩,some (skIn E 3 k)⟩])→∀ w',EmTo w0 w' g vC vS (X1.app [⟨⟨op,d,a,0,x⟩,some (skIn E 3 k)⟩])→K (.tuple #[]) w'):Jmp Tryz.prog w Gs.nil 116 [one (pV g),one (.int .i64 op),one (.int .i64 d),one (.int .i64 a),one (.int .u32 x)] S K:=by
 refine zr7 _ h (us:=[.int .i64 op,.int .i64 d,.int .i64 a,.int .u32 x]) rfl zK (fun w vC1 vS1 k1=>zqz k1 op d a x (hp.c8 hn)) fun w' hl=>hK (hp.app _ (Nat.le_refl 1)) w' ?_;unfold iI at hl;rw [zbo] at hl;rw [zbp, ← z5q hp.ok (.inr rfl)];exact hl
end
section
variable {w:World} {g:Nat} {vC vS:Value} {X:EmX} {E:Em} {k:Int}
theorem zau (h:EmAt w g vC vS X) (hp:EmP E k 0 X) (hz:0≤E.size∧E.size≤1048576) (o:BOp) (ho:OpF o) (hc:16≤o.code∧o.code≤19):
  Calls Tryz.prog 123 #[pV g,opV o] w fun e w'=>e= .returned (.tuple #[])∧EmTo w w' g vC vS (X.app (accE E k o)):=by
 have hes:E.size=X.size:=hp.ok.size;have hcs:o.code=16∨o.code=17∨o.code=18∨o.code=19:=(by omega);have hsz:szE o.code=1∨szE o.code=4:=(by unfold szE;split<;>simp);have hld:ldE o.code=23∨ldE o.code=24:=(by unfold ldE;split<;>simp);refine zfg [pV g,opV o] Tryz.func123 Tryz.ntmps123 rfl zS ?_;refine z3q ?_;(conv=>whnf);refine z3n fun r w1 hR=>?_;obtain ⟨pb,us,e1,e2,e3⟩:=hR.own 0 _ rfl;obtain rfl:=zis (us:=opC o) e3;have hB1:=hR.toBelow;have hpb:=zob h (zoc hR e1);have h1:=h.later hB1;refine ⟨z6l [(0,pV g),(3,pV pb)],fun a' hf=>z6u ⟨z6s hf rfl,z6q hf 3 rfl e1,trivial⟩,?_⟩;clear hR e3;refine z3q ?_;(conv=>whnf);refine z3l (α:=Unit) (fun _=>[(0,one (pV g)),(3,one (pV pb)),(4,one (.int .i64 (szE o.code))),(5,one (.int .i64 (ldE o.code)))]) (fun _ w2=>EmTo w1 w2 g vC vS X) ?_ fun _ w2 hl=>?_
 ·rcases hcs with hc|hc|hc|hc
  all_goals
   refine z3q ?_;(conv=>whnf);refine ⟨.int .i64 _,by have:=zd1 (off:=0+0) e2 rfl;rw [hc] at this;exact this,?_⟩;refine kB ?_
  all_goals
   first
    |(refine ⟨.int .i64 _,(by have:=zd1 (off:=0+0) e2 rfl;rw [hc] at this;exact this),?_⟩;(conv=>whnf);refine kA ?_)
    |skip
  all_goals
   first
    |(refine z3c rfl nF (fun _=>z3r ?_)
      exact zca () (aI rfl (aI rfl (aI (by rw [hc];rfl) (aI (by rw [hc];rfl) trivial)))) fun r w3 hR=>EmTo.refl h1 hR.toBelow)
    |(refine z3c rfl (fun _=>?_) nT
      refine z3u ?_;(conv=>whnf)
      exact zca () (aI rfl (aI rfl (aI (by rw [hc];rfl) (aI (by rw [hc];rfl) trivial)))) fun r w3 hR=>EmTo.refl h1 hR.toBelow)
 obtain ⟨vC1,vS1,h2,k2⟩:=hl.now;refine z3e ?_;refine z3q ?_;(conv=>whnf);refine ⟨_,zjf h2 (k:=0) (x:= .int .i64 X.size) rfl,?_⟩;(conv=>whnf);refine z3c rfl (fun hlt=>?_) (fun hlt=>z3r (zcd ?_))
 ·have hlt:E.size<szE o.code:=by rw [hp.ok.size];exact of_decide_eq_true hlt
  refine z3e (z3f 1 rfl rfl rfl ?_);(conv=>whnf);refine zse hl hp (by decide) 2 (by decide) (skIn E 2 k) (zln hp) fun hp w3 hl=>?_;(conv=>whnf);refine zcd ?_;refine z3u ?_;(conv=>whnf);refine zcl (zcg ?_);(conv=>whnf)
  refine zmj rfl fun w9 hB=>⟨rfl,?_⟩
  unfold accE;rw [if_pos hlt];exact (hl.early hB1).later hB
 have hge:¬E.size<szE o.code:=(by rw [hp.ok.size];exact of_decide_eq_false hlt);clear h2 k2;refine z3e (z3f 3 rfl rfl rfl ?_);(conv=>whnf);refine ⟨_,zd1 (off:=0+2) (hl.blkO e2 hpb) rfl,?_⟩;(conv=>whnf);refine zsb hl hp (by decide) o.a 10 ho.a fun hp w3 hl=>?_;(conv=>whnf);refine zcd ?_;refine z3l (α:=Unit) (fun _=>[(0,one (pV g)),(3,one (pV pb)),(4,one (.int .i64 (szE o.code))),(5,one (.int .i64 (ldE o.code)))]) (fun _ w2=>EmTo w1 w2 g vC vS ((X.app (rdE E o.a 10)).app (adE E o))∧EmP E k (0+1+3) ((X.app (rdE E o.a 10)).app (adE E o))) ?_ fun _ w2 hl=>?_
 ·refine z3q ?_
  (conv=>whnf);refine ⟨_,zd1 (off:=0+4) (hl.blkO e2 hpb) rfl,?_⟩;(conv=>whnf);refine ze2 rfl zK (fun r w' hR=>zmz o.n 18 w' ho.n (.inl rfl)) ?_;(conv=>whnf);refine z3c rfl (fun hf=>?_) (fun hf=>?_)
  ·have hf:zmv o.n=true:=hf
   refine z3f 4 rfl rfl rfl ?_;(conv=>whnf);refine ⟨_,zd1 (off:=0+4) (hl.blkO e2 hpb) rfl,?_⟩;(conv=>whnf);refine zr9 hl hp (by decide) 16 12 (rrE E o.a 10) o.n fun hp w3 hl=>?_;(conv=>whnf);refine zca () Tn fun r w4 hR=>?_;unfold adE;rw [if_pos hf];exact ⟨hl.later hR.toBelow,⟨hp.ok,Nat.le_trans hp.code zO,Nat.le_trans hp.sites zO⟩⟩
  ·have hf:¬zmv o.n=true:=by rw [show zmv o.n=false from hf];decide
   have hcon:conE 13 o.n=con2 13 o.n:=(by unfold conE;rw [if_neg hf]);refine z3e (z3f 3 rfl rfl rfl ?_);(conv=>whnf);refine ⟨_,zd1 (off:=0+4) (hl.blkO e2 hpb) rfl,?_⟩;(conv=>whnf);refine zr5 hl hp (by decide) 13 o.n ho.n fun hp w3 hl=>?_;(conv=>whnf);refine zcd ?_;refine z3f 2 rfl rfl rfl ?_;(conv=>whnf);refine zsh hl hp (by decide) 1 12 (rrE E o.a 10) 13 fun hp w3 hl=>?_;(conv=>whnf);refine zca () Tn fun r w4 hR=>?_;unfold adE;rw [if_neg hf, ← zbj, ← hcon];exact ⟨hl.later hR.toBelow,hp⟩
 obtain ⟨hl,hp⟩:=hl;obtain ⟨vC1,vS1,h2,k2⟩:=hl.now;refine z3e (z3f 8 rfl rfl rfl ?_);(conv=>whnf);refine ⟨_,zjf h2 (k:=0) (x:= .int .i64 X.size) rfl,?_⟩;(conv=>whnf);refine ⟨E.size-szE o.code,by rw [← hes];exact wr64 zO,?_⟩;(conv=>whnf);refine ⟨E.size-szE o.code,by rw [wr32];omega,?_⟩;(conv=>whnf);refine zr5 hl hp (by decide) 13 (E.size-szE o.code) (by unfold word;omega) fun hp w3 hl=>?_;(conv=>whnf);clear h2 k2;refine zcd ?_;refine z3e (z3f 1 rfl rfl rfl ?_);(conv=>whnf);refine zr9 hl hp (by decide) 35 13 12 2 fun hp w3 hl=>?_;(conv=>whnf);refine zcd ?_;refine z3e (z3f 1 rfl rfl rfl ?_);(conv=>whnf);refine zse hl hp (by decide) 2 (by decide) (skIn E 2 k) (zln hp) fun hp w4 hl=>?_;(conv=>whnf);refine zcd ?_;refine z3l (α:=Unit) (fun _=>[(0,one (pV g)),(3,one (pV pb)),(4,one (.int .i64 (szE o.code))),(5,one (.int .i64 (ldE o.code)))]) (fun _ w2=>EmTo w1 w2 g vC vS (((((X.app (rdE E o.a 10)).app (adE E o)).app (conE 13 (E.size-szE o.code))).app [iI 35 13 12 2]).app [zqv (skIn E 2 k)])∧¬18≤o.code) ?_ fun _ w2 hl=>?_
 ·rcases hcs with hc|hc|hc|hc
  all_goals
   refine z3q ?_;(conv=>whnf);refine ⟨.int .i64 _,by have:=zd1 (off:=0+0) (hl.blkO e2 hpb) rfl;rw [hc] at this;exact this,?_⟩;refine kB ?_
  all_goals
   first
    |(refine ⟨.int .i64 _,(by have:=zd1 (off:=0+0) (hl.blkO e2 hpb) rfl;rw [hc] at this;exact this),?_⟩;(conv=>whnf);refine kA ?_)
    |skip
  all_goals
   first
    |(refine z3c rfl nF (fun _=>z3r ?_)
      exact zca () Tn fun r w3 hR=>⟨hl.later hR.toBelow,by omega⟩)
    |(refine z3c rfl (fun _=>?_) nT
      have h18:18≤o.code:=(by omega);refine z3e (z3f 3 rfl rfl rfl ?_);(conv=>whnf);refine ⟨_,zd1 (off:=0+3) (hl.blkO e2 hpb) rfl,?_⟩;(conv=>whnf);refine zsb hl hp (by decide) o.b 11 ho.b fun hp w3 hl=>?_;(conv=>whnf);refine zcd ?_;refine z3e (z3f 1 rfl rfl rfl ?_);(conv=>whnf);refine zsd hl hp (by decide) fun w3 hl=>?_;(conv=>whnf);refine zcd ?_;refine z3e (z3f 5 rfl rfl rfl ?_);(conv=>whnf);refine ⟨ldE o.code+25,wr64 zO,?_⟩;(conv=>whnf);refine ⟨ldE o.code+2,by rw [show ldE o.code+25-23=ldE o.code+2 by omega];exact wr64 zO,?_⟩;(conv=>whnf);refine zr4 hl hp (by decide) (ldE o.code+2) (rrE E o.b 11) 12 0 fun hp w3 hl=>?_;(conv=>whnf);refine zcd ?_;refine z3u ?_;(conv=>whnf);refine zcj (zcg ?_);(conv=>whnf)
      refine zmj rfl fun w9 hB=>⟨rfl,?_⟩
      unfold accE;rw [if_neg hge,if_pos h18];simp only [zbj,List.append_assoc,List.cons_append,List.nil_append] at hl;refine EmTo.later ?_ hB;refine EmTo.early hB1 ?_;simp only [List.cons_append,List.nil_append]
      exact hl)
 obtain ⟨hl,hlt⟩:=hl;refine z3e (z3f 3 rfl rfl rfl ?_);(conv=>whnf);refine ⟨_,zd1 (off:=0+1) (hl.blkO e2 hpb) rfl,?_⟩;(conv=>whnf);refine zsg hl hp o.d ho.d fun w3 hl=>?_;(conv=>whnf);refine zcd ?_;refine z3e (z3f 1 rfl rfl rfl ?_);(conv=>whnf);refine zsd hl hp (by decide) fun w3 hl=>?_;(conv=>whnf);refine zcd ?_;refine z3e (z3f 3 rfl rfl rfl ?_);(conv=>whnf);refine zr4 hl hp (by decide) (ldE o.code) (tgE E o.d) 12 0 fun hp w3 hl=>?_;(conv=>whnf);refine zcd ?_;refine z3f 3 rfl rfl rfl ?_;(conv=>whnf);refine ⟨_,zd1 (off:=0+1) (hl.blkO e2 hpb) rfl,?_⟩;(conv=>whnf);refine zr6 hl hp (by decide) o.d ho.d fun hp w2 hl=>?_;(conv=>whnf);refine zb5 ?_;(conv=>whnf)
 refine zmj rfl fun w9 hB=>⟨rfl,?_⟩
 unfold accE;rw [if_neg hge,if_neg hlt];simp only [zbj,List.append_assoc,List.cons_append,List.nil_append] at hl;refine EmTo.later ?_ hB;refine EmTo.early hB1 ?_;simp only [List.cons_append,List.nil_append];exact hl
end
end Go.Proofs.YtocafomnnkmjfaaGreat
namespace Go.Proofs
open Go.Shelf Go.Lib
def Tryz.laysWS_ren:Go.Shelf.Ren:=⟨fun|166=>131|169=>133|240=>174|276=>207|n=>n,fun|20=>20|37=>113|70=>209|72=>211|75=>213|80=>85|127=>254|164=>272|n=>n,fun n=>n⟩
theorem Tryz.laysWS:Lays.n166 Tryz.prog Tryz.laysWS_ren where
 mixed:=by kernel_rfl
 f166:=Tryz.func131.trans (congrArg some (by kernel_rfl))
 f240:=Tryz.func174.trans (congrArg some (by kernel_rfl))
 f276:=Tryz.func207.trans (congrArg some (by kernel_rfl))
 t0:=Tryz.underlying0
 a0:=Tryz.isAgg0
 z0:=Tryz.sizeOf0
 v0:=Tryz.zeroValue0
 t3:=Tryz.underlying3
 a3:=Tryz.isAgg3
 z3:=Tryz.sizeOf3
 v3:=Tryz.zeroValue3
 t4:=Tryz.underlying4
 a4:=Tryz.isAgg4
 z4:=Tryz.sizeOf4
 v4:=Tryz.zeroValue4
 t9:=Tryz.underlying9
 a9:=Tryz.isAgg9
 z9:=Tryz.sizeOf9
 v9:=Tryz.zeroValue9
 t20:=Tryz.underlying20
 a20:=Tryz.isAgg20
 z20:=Tryz.sizeOf20
 v20:=Tryz.zeroValue20
 t37:=Tryz.underlying113
 a37:=Tryz.isAgg113
 z37:=Tryz.sizeOf113
 v37:=Tryz.zeroValue113
 t70:=Tryz.underlying209
 a70:=Tryz.isAgg209
 z70:=Tryz.sizeOf209
 v70:=Tryz.zeroValue209
 t72:=Tryz.underlying211
 a72:=Tryz.isAgg211
 z72:=Tryz.sizeOf211
 v72:=Tryz.zeroValue211
 t75:=Tryz.underlying213
 a75:=Tryz.isAgg213
 z75:=Tryz.sizeOf213
 v75:=Tryz.zeroValue213
 t164:=Tryz.underlying272
 a164:=Tryz.isAgg272
 z164:=Tryz.sizeOf272
 v164:=Tryz.zeroValue272
theorem Tryz.laysBS:Lays.n169 Tryz.prog Tryz.laysWS_ren where
 mixed:=by kernel_rfl
 f169:=Tryz.func133.trans (congrArg some (by kernel_rfl))
 t0:=Tryz.underlying0
 a0:=Tryz.isAgg0
 z0:=Tryz.sizeOf0
 v0:=Tryz.zeroValue0
 t3:=Tryz.underlying3
 a3:=Tryz.isAgg3
 z3:=Tryz.sizeOf3
 v3:=Tryz.zeroValue3
 t9:=Tryz.underlying9
 a9:=Tryz.isAgg9
 z9:=Tryz.sizeOf9
 v9:=Tryz.zeroValue9
 t37:=Tryz.underlying113
 a37:=Tryz.isAgg113
 z37:=Tryz.sizeOf113
 v37:=Tryz.zeroValue113
 t70:=Tryz.underlying209
 a70:=Tryz.isAgg209
 z70:=Tryz.sizeOf209
 v70:=Tryz.zeroValue209
 t72:=Tryz.underlying211
 a72:=Tryz.isAgg211
 z72:=Tryz.sizeOf211
 v72:=Tryz.zeroValue211
 t127:=Tryz.underlying254
 a127:=Tryz.isAgg254
 z127:=Tryz.sizeOf254
 v127:=Tryz.zeroValue254
theorem Tryz.extraB:Builder.Extra Tryz.prog Tryz.laysWS_ren where
 sizeBuilder:=by kernel_rfl
 liesBuilder:=by kernel_rfl
 t5:=Tryz.underlying5
 a5:=Tryz.isAgg5
 z5:=Tryz.sizeOf5
 v5:=Tryz.zeroValue5
 infoByte:=by kernel_rfl
 cellsByte:=by kernel_rfl
 sizeByte:=by kernel_rfl
 neB5:=by decide
end Go.Proofs
namespace Go.Proofs.YtocafomnnkmjfaaGreat
open Go.RowKit
abbrev zab (w:World) (B b:Nat) (l:List Int):Prop:=Lib.IsBuilder 211 5 B b (l.map (Value.int .u8)) w
theorem zen {x:Int} (h:0≤x∧x<256):(((UInt8.ofNat x.toNat).toNat:Nat):Int)=x:=by
 have h2:(UInt8.ofNat x.toNat).toNat=x.toNat:=by simp;omega
 rw [h2];omega
theorem zfn (l:List Int) (hl:∀ x∈l,0≤x∧x<256):(l.map fun n=>UInt8.ofNat n.toNat).map (fun b=>Value.int .u8 (b.toNat:Nat))=l.map (Value.int .u8):=by
 rw [List.map_map];refine List.map_congr_left fun x hx=>?_;show Value.int .u8 (((UInt8.ofNat x.toNat).toNat:Nat):Int)=Value.int .u8 x;rw [zen (hl x hx)]
theorem z73 (l:List Int) (hl:∀ x∈l,0≤x∧x<256):Lib.strCells (zeq l)=l.map (Value.int .u8):=by
 unfold Lib.strCells;rw [zet];exact zfn l hl
theorem ybq (w:World) (B b:Nat) (l m:List Int) (hm:∀ x∈m,0≤x∧x<256) (h:zab w B b l) (hlen:l.length+m.length≤140737488355328) (hB:B≤w.heap.size):
  Calls Tryz.prog 131 #[pV b,strV m] w fun e w'=>e= .returned (.tuple #[.int .i64 (m.length:Int),.nilIface])∧zab w' B b (l++m)∧Below B w w':=by
 refine (Any.Builder_WriteString Tryz.laysWS Tryz.extraB B b (l.map (Value.int .u8)) (zeq m) w h (by rw [List.length_map,zeu];exact hlen) hB).mono fun e w' ⟨h1,h2,h3⟩=>⟨?_,.inr ?_,h3⟩
 ·rw [h1,zeu]
 ·rw [z73 m hm, ← List.map_append] at h2
  exact h2
theorem zeg (w:World) (B b:Nat) (l:List Int) (hl:∀ x∈l,0≤x∧x<256) (h:zab w B b l) (hB:B≤w.heap.size):
  Calls Tryz.prog 133 #[pV b] w fun e w'=>e= .returned (strV l)∧Below B w w':=by
 have h2:Lib.IsBuilder (Tryz.laysWS_ren.t 72) (Tryz.laysWS_ren.t 5) B b (Lib.byteCells (l.map fun n=>UInt8.ofNat n.toNat)) w:=by
  unfold Lib.byteCells;rw [zfn l hl];exact h
 refine (Any.Builder_String_any Tryz.laysBS Tryz.extraB B b _ w h2 hB).mono fun e w' ⟨h1,h3⟩=>⟨?_,h3⟩
 rw [h1];show Ending.returned (.string ⟨_⟩)= .returned (.string (zeq l));rw [← zet]
theorem zdx {w w':World} {B b:Nat} {l:List Int} (h:zab w B b l) (hB:Below w.heap.size w w'):zab w' B b l:=by
 have key:∀ p,Lib.BuilderAt 211 5 B b p (l.map (Value.int .u8)) w→Lib.BuilderAt 211 5 B b p (l.map (Value.int .u8)) w':=fun p ⟨h1,v,h2,h3,h4⟩=>by
  refine ⟨h1,v,(hB.block b (zpt h2)).trans h2,⟨h3.1,h3.2.imp id fun ⟨g,cap,cur,f1,f2,f3,f4⟩=>⟨g,cap,cur,f1,f2,(hB.block g (zpt f3)).trans f3,f4⟩⟩,h4⟩
 exact h.imp (key _) (key _)
theorem zzs (n:Int) (w:World) (hn:word n):Calls Tryz.prog 132 #[.int .u32 n,intV 4] w fun e w'=>e= .returned (strV (putL n))∧Below w.heap.size w w':=by
 refine zfg [.int .u32 n,intV 4] Tryz.func132 Tryz.ntmps132 rfl zS ?_
 refine z3q ?_
 conv=>whnf
 refine z3u ?_
 conv=>whnf
 refine ⟨zei n 0,by have:=zeo hn (j:=0) zO;simpa using this,?_⟩
 conv=>whnf
 refine ⟨by omega,_,rfl,?_⟩
 conv=>whnf
 refine ⟨zei n 1,zeo hn (j:=1) zO,?_⟩
 conv=>whnf
 refine ⟨by omega,_,rfl,?_⟩
 conv=>whnf
 refine ⟨zei n 2,zeo hn (j:=2) zO,?_⟩
 conv=>whnf
 refine ⟨by omega,_,rfl,?_⟩
 conv=>whnf
 refine ⟨zei n 3,zeo hn (j:=3) zO,?_⟩
 conv=>whnf
 refine zw5 rfl rfl rfl rfl ?_
 conv=>whnf
 refine zw4 rfl rfl rfl rfl ?_
 conv=>whnf
 refine zwy (z0q (size:=1) 0 0 4 4 0 4 rfl rfl rfl rfl rfl (.inl ⟨rfl,rfl⟩) (.inr ⟨_,_,rfl,rfl⟩) zO zO zO ?_) rfl
 conv=>whnf
 refine z0e 0 4 4 (putL n) rfl rfl rfl rfl rfl rfl rfl ?_
 conv=>whnf
 refine zcg ?_
 conv=>whnf
 exact zmj rfl fun w2 hB=>⟨rfl,hB⟩
theorem zm3:∀ (l:List QI) (k:Nat) (i:QI),l[k]?=some i→∀ j,j<5→(l.flatMap iqL)[k*5+j]?=(iqL i)[j]?
 |[],k,i,h,_,_=>by simp at h
 |q::l,0,i,h,j,hj=>by
  simp at h;subst h;rw [List.flatMap_cons,List.getElem?_append_left (by show _<5;omega),Nat.zero_mul,Nat.zero_add]
 |q::l,k+1,i,h,j,hj=>by
  rw [List.flatMap_cons,List.getElem?_append_right (by show 5≤_;omega),show (k+1)*5+j-(iqL q).length=k*5+j by show _-5=_;omega];exact zm3 l k i (by simpa using h) j hj
theorem zfp {w:World} {A:Option Addr} {k:Nat} {l:List QI} {i:QI} (h:SlAt w w.heap.size A (l.flatMap iqL)) (hk:l[k]?=some i):∃ bb off,A=some ⟨bb,off,none⟩∧zac w Gs.nil bb (off+(k:Int).toNat*5) (iqL i):=by
 have hlt:k<l.length:=by
  rcases Nat.lt_or_ge k l.length with h1|h1
  ·exact h1
  ·rw [List.getElem?_eq_none h1] at hk;cases hk
 obtain ⟨bb,off,rfl,hb,hc⟩:=SlAt.open_ h (by rw [zq7];omega);refine ⟨bb,off,rfl,hb,(fun hm=>by rcases hm with hm|hm<;>cases hm),fun j u hj=>?_⟩
 have hj5:j<5:=by
  rcases Nat.lt_or_ge j 5 with h1|h1
  ·exact h1
  ·rw [List.getElem?_eq_none (by exact h1)] at hj;cases hj
 have:=hc (k*5+j) u ((zm3 l k i hk j hj5).trans hj)
 simpa [Nat.add_assoc] using this
theorem zjn {i:QI} (w:World) (hv:z9p i=true) (hi:i.ok):Calls Tryz.prog 130 #[qiV i] w fun e w'=>e= .returned (.tuple #[.int .u32 (ya0 i),intV 0])∧Below w.heap.size w w':=by
 have h:=zjp i w hi.op hi.imm;rw [show encQ i=some (ya0 i) from if_pos hv] at h;exact h
theorem ya9 (l:List Int) (x:Int):ya5 (l++[x])=ya5 l++putL x:=by
 unfold ya5;rw [List.flatMap_append];simp
abbrev z8x (l:List QI):List Int:=ya5 (l.map ya0)
theorem z8y {l:List QI} {j:Nat} {i:QI} (h:l[j]?=some i):z8x (l.take (j+1))=z8x (l.take j)++putL (ya0 i):=by
 rw [List.take_add_one,h];show ya5 ((l.take j++[i]).map ya0)=_;rw [List.map_append];exact ya9 _ _
theorem z80 (is:List QI) (hv:∀ i∈is,z9p i=true∧i.ok) (A:Option Addr) (c:Nat) (hn:is.length≤1000000000) (w:World) (hs:SlAt w w.heap.size A (is.flatMap iqL)):
  Calls Tryz.prog 75 #[.slice A is.length c] w fun e w'=>e= .returned (strV (z8x is))∧Below w.heap.size w w':=by
 refine zfg [.slice A is.length c] Tryz.func75 Tryz.ntmps75 rfl zS ?_;refine z3q ?_;(conv=>whnf);refine z3q ?_;(conv=>whnf);refine z3n fun r w1 hR=>?_;obtain ⟨pb,us,e1,e2,e3⟩:=hR.own 0 _ rfl;obtain rfl:=zis (us:=[.pointer none,.slice none 0 0]) e3;have hB1:=hR.toBelow;have hfr:w.heap.size≤pb:=zoc hR e1;refine ⟨z6l [(0,.slice A is.length c),(3,pV pb)],fun a' hf=>z6u ⟨z6s hf rfl,z6q hf 3 rfl e1,trivial⟩,?_⟩;have h0:zab w1 w.heap.size pb []:= .inl ⟨hfr,_,e2,⟨rfl,.inl ⟨rfl,rfl⟩⟩,nofun⟩;clear hR e3;refine z3e ?_;refine z3q ?_;(conv=>whnf);refine z3b ?_;refine z3j (fun j:{j:Nat//j≤is.length}=>[(3,one (pV pb)),(8,one (.slice A is.length c)),(9,one (.int .i64 (is.length:Int))),(10,one (.int .i64 (j.1:Int)))]) (fun j w'=>zab w' w.heap.size pb (z8x (is.take j.1))∧Below w.heap.size w w') (fun j=>is.length-j.1) ⟨0,by omega⟩ Tn (fun r w' hR=>⟨zdx h0 hR.toBelow,zdj hB1 hR.toBelow⟩) (fun j w' hJ=>?_);obtain ⟨j,hj⟩:=j;dsimp only at hJ⊢;obtain ⟨hb,hB2⟩:=hJ;refine z3q ?_;(conv=>whnf);refine z3q ?_;(conv=>whnf);refine ⟨fun hc=>?_,fun hc=>?_⟩
 ·have hlt:j<is.length:=by simpa using hc
  obtain ⟨i,hi⟩:∃ i,is[j]?=some i:=⟨_,List.getElem?_eq_getElem hlt⟩
  obtain ⟨hvi,hoi⟩:=hv i (List.mem_of_getElem? hi);have hs2:SlAt w' w'.heap.size A (is.flatMap iqL):=(hs.below hB2 (Nat.le_refl _)).more hB2.size;obtain ⟨bb,off,hA,hcl⟩:=zfp hs2 hi;have hww:=(zib hvi hoi.imm).2;(conv=>whnf);refine z3l (α:=Unit) (fun _=>[(3,one (pV pb)),(8,one (.slice A is.length c)),(9,one (.int .i64 (is.length:Int))),(10,one (.int .i64 (j:Int)))]) (fun _ w2=>zab w2 w.heap.size pb (z8x (is.take (j+1)))∧Below w.heap.size w w2) ?_ fun _ w2 hl=>?_
  ·refine z3b ?_
   rw [hA];refine z3q ?_;(conv=>whnf)
   (refine ⟨⟨by omega,by omega⟩,?_⟩;(conv=>whnf))
   refine ⟨iqL i,hcl,rfl,?_⟩;(conv=>whnf);refine z3q ?_;(conv=>whnf);refine ze2 rfl zK (fun r w' hR=>zjn w' hvi hoi) ?_;(conv=>whnf);refine z3f 2 rfl rfl rfl ?_;(conv=>whnf);refine ze2 rfl zK (fun r w' hR=>zzs (ya0 i) w' hww) ?_;(conv=>whnf);refine ⟨by kernel_rfl,fun r w2 us' hR hd=>?_⟩;obtain rfl:=zcs (xs:=[pV pb,strV (putL (ya0 i))]) rfl hd;have hz:=Nat.le_trans hB2.size hR.toBelow.size
   refine (ybq w2 w.heap.size pb _ (putL (ya0 i)) (zzj _ _) (zdx hb hR.toBelow) ?_ hz).mono fun e w3 ⟨he,hb3,hB3⟩=>⟨_,he,?_⟩
   ·rw [show (z8x (is.take j)).length=4*(is.take j).length by rw [ya8,List.length_map],List.length_take,show (putL (ya0 i)).length=4 from zzk _ _]
    omega
   ·conv=>whnf
    refine zb4 (zca () Tn fun r w4 hR4=>?_);rw [z8y hi];exact ⟨zdx hb3 hR4.toBelow,zdg (zdg (zdg hB2 hR.toBelow hB2.size) hB3 (Nat.le_refl _)) hR4.toBelow (Nat.le_trans hz hB3.size)⟩
  ·refine z3u ?_
   (conv=>whnf);refine ⟨((j+1:Nat):Int),by rw [show (j:Int)+1=((j+1:Nat):Int) by omega];exact wr64 zO,?_⟩;(conv=>whnf);exact zcc ⟨j+1,by omega⟩ Tn (fun r w3 hR=>⟨zdx hl.1 hR.toBelow,zdg hl.2 hR.toBelow hl.2.size⟩) (by show is.length-(j+1)<is.length-j;omega)
 ·have hj:j=is.length:=by simp at hc;omega
  subst hj;rw [List.take_length] at hb;(conv=>whnf);refine zcf (zb6 (zcd ?_));refine z3e ?_;refine z3f 0 rfl rfl rfl ?_;(conv=>whnf);refine ⟨by kernel_rfl,fun r w2 us' hR hd=>?_⟩;obtain rfl:=zcs (xs:=[pV pb]) rfl hd;have hz:=Nat.le_trans hB2.size hR.toBelow.size
  refine (zeg w2 w.heap.size pb _ (ya7 _) (zdx hb hR.toBelow) hz).mono fun e w3 ⟨he,hB3⟩=>⟨_,he,?_⟩
  (conv=>whnf);refine zcd ?_;refine z3u ?_;(conv=>whnf);refine zcg ?_;(conv=>whnf)
  exact zmj rfl fun w4 hB4=>⟨rfl,zdg (zdg (zdg hB2 hR.toBelow hB2.size) hB3 (Nat.le_refl _)) hB4 (Nat.le_trans hz hB3.size)⟩
def zts:List BOp→Int→Int
 |[],k=>k
 |o::l,k=>zts l (ztr o k)
theorem ztt:∀ (l:List BOp) (o:BOp) (k:Int),zts (l++[o]) k=ztr o (zts l k)
 |[],_,_=>rfl
 |p::l,o,k=>ztt l o (ztr p k)
theorem zgo (E:Em):∀ (l:List BOp) (o:BOp) (k:Int),zgk E k (l++[o])=zgk E k l++znw E (ztr o (zts l k)) o
 |[],o,k=>by
  show znw E (ztr o k) o++[]=[]++znw E (ztr o k) o;rw [List.append_nil,List.nil_append]
 |p::l,o,k=>by
  show znw E (ztr p k) p++zgk E (ztr p k) (l++[o])=(znw E (ztr p k) p++zgk E (ztr p k) l)++znw E (ztr o (zts l (ztr p k))) o;rw [zgo E l o,List.append_assoc]
def EmX.op (X:EmX) (E:Em) (o:BOp):EmX:={X.app (znw E (ztr o X.index) o) with index:=ztr o X.index}
def EmX.opsTo (X:EmX) (E:Em) (l:List BOp):EmX:={X.app (zgk E X.index l) with index:=zts l X.index}
theorem zq0 (X:EmX) (l m:List It) (k k2:Int):({({X.app l with index:=k}:EmX).app m with index:=k2}:EmX)={X.app (l++m) with index:=k2}:=by
 rw [← zbj];rfl
theorem zxb (X:EmX) (E:Em):X.opsTo E []=X:=by
 unfold EmX.opsTo;show {X.app [] with index:=X.index}=X;rw [zbn]
theorem zxd (X:EmX) (E:Em) (l:List BOp) (o:BOp):(X.opsTo E l).op E o=X.opsTo E (l++[o]):=by
 unfold EmX.op EmX.opsTo;rw [zgo,ztt];exact zq0 X _ _ _ _
theorem zw6 (X:EmX) (E:Em) (o:BOp) (h:o.code≠20):X.op E o=X.app (znw E X.index o):=by
 unfold EmX.op ztr;rw [if_neg h];rfl
theorem zww {o:BOp} (ho:o.ok) (hf:znn o=true):OpF o:=⟨ho.n,znr hf,zno hf,znp hf⟩
section
variable {w:World} {g:Nat} {vC vS:Value} {X:EmX} {E:Em}
theorem zly {a fid:Nat} (h:some (a:Int)=some (fid:Int)):fid=a:=by injection h with h;omega
theorem z14 (h:EmAt w g vC vS X) (hp:EmP E X.index 0 X) (hpr:E.pred=0) (hz:0≤E.size∧E.size≤1048576) (hw:word X.written) (o:BOp) (ho:OpF o) (fid:Nat) (hf:zxn o.code=some (fid:Int)):
  Calls Tryz.prog fid #[pV g,opV o] w fun e w'=>e= .returned (.tuple #[])∧EmTo w w' g vC vS (X.op E o):=by
 by_cases h1:o.code=1
 ·rw [h1] at hf
  obtain rfl:=zly (a:=119) hf;rw [zw6 X E o zO];unfold znw;rw [if_pos h1];exact z4r h hp o ho
 by_cases h2:o.code=2
 ·rw [h2] at hf
  obtain rfl:=zly (a:=120) hf;rw [zw6 X E o zO];unfold znw;rw [if_neg h1,if_pos h2];exact zus h hp o ho
 by_cases h3:o.code=12
 ·rw [h3] at hf
  obtain rfl:=zly (a:=121) hf;rw [zw6 X E o zO];unfold znw;rw [if_neg h1,if_neg h2,if_pos h3];exact zi3 h hp o ho
 by_cases h4:o.code=13
 ·rw [h4] at hf
  obtain rfl:=zly (a:=122) hf;rw [zw6 X E o zO];unfold znw;rw [if_neg h1,if_neg h2,if_neg h3,if_pos h4];exact zkm h hp o ho
 by_cases h5:3≤o.code∧o.code≤15
 ·unfold zxn at hf
  simp only [show ¬o.code=1 by omega,show ¬o.code=2 by omega,show ¬o.code=12 by omega,show ¬o.code=13 by omega,show ¬o.code=16 by omega,show ¬o.code=17 by omega,show ¬o.code=18 by omega,show ¬o.code=19 by omega,show ¬o.code=20 by omega,show ¬o.code=21 by omega,show ¬o.code=22 by omega,show ¬o.code=23 by omega,show ¬o.code=24 by omega,show ¬o.code=25 by omega,if_false] at hf
  cases hf
 by_cases h6:16≤o.code∧o.code≤19
 ·have hc:o.code=16∨o.code=17∨o.code=18∨o.code=19:=by omega
  have hf2:zxn o.code=some ((123:Nat):Int):=by
   rcases hc with hc|hc|hc|hc<;>(rw [hc];rfl)
  rw [hf2] at hf;obtain rfl:=zly hf;rw [zw6 X E o zO];unfold znw;rw [if_neg h1,if_neg h2,if_neg h3,if_neg h4,if_neg h5,if_pos h6];exact zau h hp hz o ho h6
 by_cases h7:o.code=21
 ·rw [h7] at hf
  obtain rfl:=zly (a:=125) hf;rw [zw6 X E o zO];unfold znw;rw [if_neg h1,if_neg h2,if_neg h3,if_neg h4,if_neg h5,if_neg h6,if_pos h7];exact zo2 h hp o ho
 by_cases h8:o.code=22
 ·rw [h8] at hf
  obtain rfl:=zly (a:=126) hf;rw [zw6 X E o zO];unfold znw;rw [if_neg h1,if_neg h2,if_neg h3,if_neg h4,if_neg h5,if_neg h6,if_neg h7,if_pos h8];exact z6v h hp o
 by_cases h9:o.code=23
 ·rw [h9] at hf
  obtain rfl:=zly (a:=127) hf;rw [zw6 X E o zO];unfold znw;rw [if_neg h1,if_neg h2,if_neg h3,if_neg h4,if_neg h5,if_neg h6,if_neg h7,if_neg h8,if_pos h9];exact zlg h hp hw o ho
 by_cases h10:o.code=24
 ·rw [h10] at hf
  obtain rfl:=zly (a:=128) hf;rw [zw6 X E o zO];unfold znw;rw [if_neg h1,if_neg h2,if_neg h3,if_neg h4,if_neg h5,if_neg h6,if_neg h7,if_neg h8,if_neg h9,if_pos h10];exact zlm h hp (by decide) hw o
 by_cases h11:o.code=25
 ·rw [h11] at hf
  obtain rfl:=zly (a:=129) hf;rw [zw6 X E o zO];unfold znw;rw [if_neg h1,if_neg h2,if_neg h3,if_neg h4,if_neg h5,if_neg h6,if_neg h7,if_neg h8,if_neg h9,if_neg h10,if_pos h11];exact zlk h hp hpr hw o ho
 by_cases h12:o.code=20
 ·rw [h12] at hf
  obtain rfl:=zly (a:=124) hf
  have e:X.op E o={X with index:=o.n}:=by
   unfold EmX.op ztr;rw [if_pos h12]
   have:znw E o.n o=[]:=by
    unfold znw;rw [if_neg h1,if_neg h2,if_neg h3,if_neg h4,if_neg h5,if_neg h6,if_neg h7,if_neg h8,if_neg h9,if_neg h10,if_neg h11]
   rw [this,zbn]
  rw [e];exact ztu h o ho.n
 ·unfold zxn at hf
  simp only [h1,h2,h3,h4,show ¬o.code=16 by omega,show ¬o.code=17 by omega,show ¬o.code=18 by omega,show ¬o.code=19 by omega,h12,h7,h8,h9,h10,h11,if_false] at hf
  cases hf
end
end Go.Proofs.YtocafomnnkmjfaaGreat
