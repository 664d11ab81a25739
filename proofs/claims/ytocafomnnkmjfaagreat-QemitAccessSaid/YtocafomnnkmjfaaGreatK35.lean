import Derived.Test.YtocafomnnkmjfaaGreatK27
import Derived.Test.YtocafomnnkmjfaaGreatK34
set_option maxRecDepth 100000
set_option maxHeartbeats 2000000
namespace Go.Proofs.YtocafomnnkmjfaaGreat
open Go.RowKit
def zqd (junk:Int) (k:Nat):Int→Int:=fun j=>if 1≤j∧j<(k:Int) then junk*j%4294967296 else 0
def zql (base junk:Int) (k:Nat):St:=⟨base,zqd junk k,0,0,0,0,0,0,0⟩
theorem zqe (junk:Int) (k:Nat) (hk:1≤k):regU (zqd junk k) (k:Int) (junk*(k:Int)%4294967296)=zqd junk (k+1):=by
 funext j
 unfold regU zqd;by_cases h:j=(k:Int)
 ·subst h;rw [if_pos rfl,if_pos zO]
 ·rw [if_neg h]
  by_cases h2:1≤j∧j<(k:Int)
  ·rw [if_pos h2,if_pos zO]
  ·rw [if_neg h2,if_neg zO]
theorem zqn (B junk:Int):zql B junk 1=⟨B,fun _=>0,0,0,0,0,0,0,0⟩:=by
 have:zqd junk 1=fun _=>0:=by
  funext j
  unfold zqd;rw [if_neg zO]
 unfold zql;rw [this]
abbrev zSt:List CV:=List.map CV.v (Value.agg #[Value.int IntKind.u32 0,Value.int IntKind.u32 0,Value.int IntKind.u32 0,Value.int IntKind.u32 0,Value.int IntKind.u32 0,Value.int IntKind.u32 0,Value.int IntKind.u32 0,Value.int IntKind.u32 0,Value.int IntKind.u32 0,Value.int IntKind.u32 0,Value.int IntKind.u32 0,Value.int IntKind.u32 0,Value.int IntKind.u32 0,Value.int IntKind.u32 0,Value.int IntKind.u32 0,Value.int IntKind.u32 0,Value.int IntKind.u32 0,Value.int IntKind.u32 0,Value.int IntKind.u32 0,Value.int IntKind.u32 0,Value.int IntKind.u32 0,Value.int IntKind.u32 0,Value.int IntKind.i64 0,Value.int IntKind.i64 0]).cells.toList
theorem ybx (B:Int):z38 zSt 0 [CV.v (Value.int IntKind.u32 B)]=stC ⟨B,fun _=>0,0,0,0,0,0,0,0⟩ []:=rfl
theorem zqo (B junk:Int):z38 zSt 0 (z38 zSt 0 [CV.v (Value.int IntKind.u32 B)])=stC (zql B junk 1) []:=by
 rw [zqn,ybx];exact z4b rfl
theorem zdv {x:Int} (h:0≤x∧x<8):bits .and .i64 x 3=x%4:=by
 rcases (by omega:x=0∨x=1∨x=2∨x=3∨x=4∨x=5∨x=6∨x=7) with rfl|rfl|rfl|rfl|rfl|rfl|rfl|rfl<;>rfl
theorem zp6 (g:MemP) (j:Nat) (M:MemP):zp2 g (j+1) M=(((zp2 g j M).pokeAt ((256*j:Nat):Int) (g.page j) (g.page j).length).protect j (g.rightsAt j%4)):=rfl
theorem zqc (f:Nat) (x:Int) (j:Nat) (M:MemP):zp8 f x (j+1) M=(zp8 f x j M).protect (f+j) x:=rfl
theorem zpv {W:World} {gs:List Nat} {pb:Nat} {us:List Value} {t:TypeId} (h:W.heap[pb]?=some (.cells us.toArray t (0,0))) (hn:pb∉gs):zac W (Gs.flat ⟨[],gs⟩) pb 0 us:=
 zfo (zd0 h) fun hm=>by
  rcases hm with hm|hm
  ·cases hm
  ·exact hn hm
theorem zrw {W:World} {c:Nat} {gs:List Nat} {U U':List Ow} {fid:FuncId} {args:List AV} {us:List Value} (v:Value) {K:Value→(World→Prop)→Prop} (hu:avals args=some us) (hok:fnOk Tryz.prog fid=true)
  (hc:∀ w,ObjsAt w (c::gs) U→Calls Tryz.prog fid (pV c::us).toArray w fun e w'=>e= .returned v∧ObjsAt w' (c::gs) U'∧GrownBys w w' (c::gs)) (hK:K v fun w=>ObjsAt w (c::gs) U'):JmpJ Tryz.prog W ⟨[],c::gs⟩ (fun w=>ObjsAt w (c::gs) U) fid (one (pV c)::args) K:=by
 refine .one hok v _ (fun w us' hh hj hd=>?_) hK;obtain ⟨u1,l1,rfl,d1,d2⟩:=hd;obtain rfl:=zi2 d1;obtain rfl:=zcs hu d2
 exact (hc w hj).mono fun e w' ⟨he,h1,h2⟩=>⟨he,zp1 hh (zpz h2) fun b hb=> .inl hb,h1⟩
theorem zrv {W:World} {gs:List Nat} {J:World→Prop} {fid:FuncId} {args:List AV} {us:List Value} {g:Nat} {gs0:List Nat} {n p:Nat} {M:MemP} (v:Value) {K:Value→(World→Prop)→Prop} (hu:avals args=some us) (hok:fnOk Tryz.prog fid=true) (hJ:∀ w w',J w→Below w.heap.size w w'→J w') (hU:ObjsAt W (g::gs0) (memS 0 n p M)) (hd:∀ b∈g::gs0,b∉gs)
  (hc:∀ w,ObjsAt w (g::gs0) (memS 0 n p M)→Calls Tryz.prog fid us.toArray w fun e w'=>e= .returned v∧ObjsAt w' (g::gs0) (memS 0 n p M)∧GrownBys w w' (g::gs0)) (hK:K v J):JmpJ Tryz.prog W ⟨[],gs⟩ J fid args K:=
 zrq v hu hok hJ (fun w hh hj=>by
  have h1:=ObjsAt.later (zt6 n p M) hU hh.size fun b hb=>zpu hh (hU.lt b hb) (hd b hb)
  exact (hc w h1).mono fun e w' ⟨he,h2,h3⟩=>⟨he,zvy (zt6 n p M) h1 h2 h3⟩) hK
theorem zwc {w w':World} {g:Nat} {gs0 gs:List Nat} {n p:Nat} {M:MemP} (hU:ObjsAt w (g::gs0) (memS 0 n p M)) (hh:Held w ⟨[],gs⟩ w') (hd:∀ b∈g::gs0,b∉gs):ObjsAt w' (g::gs0) (memS 0 n p M):=
 ObjsAt.later (zt6 n p M) hU hh.size fun b hb=>zpu hh (hU.lt b hb) (hd b hb)
theorem zdi {w w1 w2:World} {gs:List Nat} (hB:Below w.heap.size w w1) (hh:Held w1 ⟨[],gs⟩ w2) (hg:∀ b∈gs,w.heap.size≤b):Below w.heap.size w w2:=
 ⟨hh.os.trans hB.os,hh.tape.trans hB.tape,hh.output.trans hB.output,Nat.le_trans hB.size hh.size,fun k hk=>(zpu hh (Nat.lt_of_lt_of_le hk hB.size) fun hm=>by have:=hg k hm;omega).trans (hB.block k hk)⟩
theorem zv1 {w w':World} {gs:List Nat} {c:Nat} {us:List Value} {n p:Nat} {M:MemP} (h:NewObjs w w' (c::gs) (cpuU 0 us n p M)):∃ m ms,gs=m::ms∧w'.heap[c]?=some (.cells (us++[pV m]).toArray cpuT (0,0))∧ObjsAt w' (m::ms) (memS 0 n p M)∧c∉m::ms∧(∀ b∈c::m::ms,w.heap.size≤b):=by
 obtain ⟨m,ms,rfl,h1,h2,h3⟩:=zhl h.at_;exact ⟨m,ms,rfl,h1,h2,h3,h.fresh⟩
section
variable {w:World}
theorem zuv {g0:Nat} {gs0:List Nat} {G:Nat} {gm:MemP} (hU:ObjsAt w (g0::gs0) (memS 0 (256*G) G gm)) (hg:gm.ok (256*G) G) (ws:List Int) (hwl:ws.length=64) (hww:∀ x∈ws,word x) (code:List Int) (hcb:∀ x∈code,0≤x∧x<256) (hcl:code.length≤1000000) (off:Nat) (hoff:off≤1000) (junk:Int) (P:Nat) (hP:P=G+2+(4*off+code.length+255)/256) (hP2:P≤4096):
  Calls Tryz.prog 28 #[pV g0,.agg (u32L ws).toArray,strV code,intV (off:Int),.int .u32 junk] w fun e w'=>∃ h c m ms,e= .returned (pV h)∧HoAt w' h c m ms (stL (zql ((256*(G+1)+4*off:Nat):Int) junk 16) []) (256*P) P (zp7 gm G P (256*(G+1)+4*off) ws code) ((256*(G+1)+4*off:Nat):Int) ((256*G:Nat):Int) ((256*G:Nat):Int)∧(∀ b∈h::c::m::ms,w.heap.size≤b)∧Below w.heap.size w w':=by
 obtain ⟨D,hD⟩:∃ D,D=(4*off+code.length+255)/256:=⟨_,rfl⟩
 have hPD:P=G+2+D:=(by omega);refine zfg [pV g0,.agg (u32L ws).toArray,strV code,intV (off:Int),.int .u32 junk] Tryz.func28 Tryz.ntmps28 rfl zS ?_;refine z3q ?_;(conv=>whnf);refine z3n fun r w1 hR=>?_;obtain ⟨px,us,e1,e2,e3⟩:=hR.own 0 _ rfl;obtain rfl:=zis (us:=u32L ws) e3;have hB1:=hR.toBelow;have hpx:=zoc hR e1;refine ⟨z6l [(0,pV g0),(2,strV code),(3,intV (off:Int)),(4,.int .u32 junk),(6,pV px)],fun a' hf=>z6u ⟨z6s hf rfl,z6s hf rfl,z6s hf rfl,z6s hf rfl,z6q hf 6 rfl e1,trivial⟩,?_⟩;have hU1:=zv0 (zt6 (256*G) G gm) hU hB1;clear hR e3;refine z3q ?_;(conv=>whnf);refine ze3 rfl zK hU1 (fun w' hU=>zuh gm (256*G) G w' g0 gs0 hU) ?_;(conv=>whnf);refine z3q ?_;(conv=>whnf);refine ⟨((G+2:Nat):Int),wr64 zO,?_⟩;(conv=>whnf);refine ⟨((4*off:Nat):Int),by rw [show (4:Int)*(off:Int)=((4*off:Nat):Int) by omega];exact wr64 zO,?_⟩;(conv=>whnf);refine z0k code rfl rfl rfl ?_;(conv=>whnf);refine ⟨((4*off+code.length:Nat):Int),by rw [show ((4*off:Nat):Int)+(code.length:Int)=((4*off+code.length:Nat):Int) by omega];exact wr64 zO,?_⟩;(conv=>whnf);refine ⟨((4*off+code.length+255:Nat):Int),by rw [show ((4*off+code.length:Nat):Int)+255=((4*off+code.length+255:Nat):Int) by omega];exact wr64 zO,?_⟩;(conv=>whnf);refine ⟨by decide,(D:Int),by rw [Int.tdiv_eq_ediv_of_nonneg zO,wr64 zO];omega,?_⟩;(conv=>whnf);refine ⟨(P:Int),by rw [show ((G+2:Nat):Int)+(D:Int)=(P:Int) by omega];exact wr64 zO,?_⟩;(conv=>whnf);refine z3e (z3f 1 rfl rfl rfl ?_);(conv=>whnf);refine ⟨by kernel_rfl,fun r w2 us' hR hd=>?_⟩;obtain rfl:=zcs (xs:=[intV (P:Int)]) rfl hd;have hB2:=hR.toBelow
 refine (zhj P w2 zO).mono fun e w3 ⟨c,gs,he,hn⟩=>⟨_,he,?_⟩
 obtain ⟨m,ms,rfl,hcc,hmm,hcm,hfr⟩:=zv1 hn;have hB3:=zdg (zdg hB1 hB2 hB1.size) hn.below (Nat.le_trans hB1.size hB2.size);have hz3:=Nat.le_trans hB1.size hB2.size;have hU3:=zv0 (zt6 (256*G) G gm) (zv0 (zt6 (256*G) G gm) hU1 hB2) hn.below;have e23:w3.heap[px]?=some (.cells (u32L ws).toArray 64 (0,0)):=((hn.below.block px (Nat.lt_of_lt_of_le (zpt e2) hB2.size)).trans (hB2.block px (zpt e2))).trans e2
 have hpn:px∉m::ms:=fun hm=>by
  have:=hfr px (List.mem_cons_of_mem _ hm);have:=zpt e2;have:=hB2.size;omega
 have hd0:∀ b∈g0::gs0,b∉m::ms:=fun b hb hm=>by
  have:=hfr b (List.mem_cons_of_mem _ hm);have:=hU.lt b hb;omega
 have hfw:∀ b∈c::m::ms,w.heap.size≤b:=fun b hb=>by have:=hfr b hb;omega
 clear hn hfr hU1 hU e2 hB1 hB2 hR hd;(conv=>whnf);refine ⟨((256*G:Nat):Int),by rw [show (256:Int)*(G:Int)=((256*G:Nat):Int) by omega];exact wr64 zO,?_⟩;(conv=>whnf);refine ⟨((256*G:Nat):Int),by rw [wr32];omega,?_⟩;(conv=>whnf);refine ⟨((G+1:Nat):Int),wr64 zO,?_⟩;(conv=>whnf);refine ⟨((256*(G+1):Nat):Int),by rw [show (256:Int)*((G+1:Nat):Int)=((256*(G+1):Nat):Int) by omega];exact wr64 zO,?_⟩;(conv=>whnf);refine ⟨((4*off:Nat):Int),by rw [show (4:Int)*(off:Int)=((4*off:Nat):Int) by omega];exact wr64 zO,?_⟩;(conv=>whnf);refine ⟨((256*(G+1)+4*off:Nat):Int),by rw [show ((256*(G+1):Nat):Int)+((4*off:Nat):Int)=((256*(G+1)+4*off:Nat):Int) by omega];exact wr64 zO,?_⟩;(conv=>whnf);refine ⟨((256*(G+1)+4*off:Nat):Int),by rw [wr32];omega,?_⟩;(conv=>whnf);refine ⟨((256*G:Nat):Int),by rw [show (256:Int)*(G:Int)=((256*G:Nat):Int) by omega];exact wr64 zO,?_⟩;(conv=>whnf);refine zcd ?_;refine z3n fun r w4 hR=>?_;obtain ⟨h,us,f1,f2,f3⟩:=hR.own 0 _ rfl;obtain rfl:=zis (us:=[pV c,.int .u32 ((256*(G+1)+4*off:Nat):Int),.int .u32 ((256*G:Nat):Int),.int .i64 ((256*G:Nat):Int)]) f3;have hB4:=hR.toBelow;have hhf:=zoc hR f1;refine ⟨z6l [(0,pV g0),(2,strV code),(4,.int .u32 junk),(6,pV px),(11,intV (G:Int)),(12,intV (P:Int)),(13,pV h)],fun a' hf=>z6u ⟨z6s hf rfl,z6s hf rfl,z6s hf rfl,z6s hf rfl,z6s hf rfl,z6s hf rfl,z6q hf 13 rfl f1,trivial⟩,?_⟩;have hz0:(MemP.zero P).ok (256*P) P:=zuq hP2
 have ho:HoAt w4 h c m ms stZ (256*P) P (MemP.zero P) ((256*(G+1)+4*off:Nat):Int) ((256*G:Nat):Int) ((256*G:Nat):Int):=⟨f2,(hB4.block c (zpt hcc)).trans hcc,rfl,zv0 (zt6 _ _ _) hmm hB4,fun e=>by have:=zpt hcc;omega,fun hm=>by have:=hmm.lt h hm;omega,hcm⟩
 have hU4:=zv0 (zt6 (256*G) G gm) hU3 hB4;have e24:=(hB4.block px (zpt e23)).trans e23;have hB04:=zdg hB3 hB4 hB3.size;have hhw:w.heap.size≤h:=Nat.le_trans hB3.size hhf;clear hR f3 f1 f2 hcc hmm hU3 e23 hB3 hB4 hhf hz3 hcm;refine z3e ?_;refine z3q ?_;(conv=>whnf);refine z3b ?_;refine z3j (fun j:{j:Nat//j≤G}=>[(0,one (pV g0)),(2,one (strV code)),(4,one (.int .u32 junk)),(6,one (pV px)),(11,one (intV (G:Int))),(12,one (intV (P:Int))),(13,one (pV h)),(14,one (intV (j.1:Int)))]) (fun j w'=>HoAt w' h c m ms stZ (256*P) P (zp2 gm j.1 (MemP.zero P)) ((256*(G+1)+4*off:Nat):Int) ((256*G:Nat):Int) ((256*G:Nat):Int)∧Held w4 ⟨[],m::ms⟩ w') (fun j=>G-j.1) ⟨0,by omega⟩ Tn (fun r w' hR=>⟨ho.later hR.toBelow,zpy hR.toBelow⟩) (fun j w' hJ=>?_);obtain ⟨j,hj⟩:=j;dsimp only at hJ⊢;obtain ⟨ho5,hh5⟩:=hJ;refine z3e ?_;refine z3q ?_;(conv=>whnf);refine z3c rfl (fun hc=>z3r (zcd ?_)) (fun hc=>?_)
 ·have hlt:j<G:=by have:=of_decide_eq_true hc;omega
  have hMj:=zp4 hg hz0 j hj;have hs:=zp6 gm j (MemP.zero P);have hpl:=zyc hg hlt;have hpb:=zya hg j;have hri:=z19 hg j;generalize zp2 gm j (MemP.zero P)=Mj at ho5 hMj hs;have hMk:=zy5 hMj ((256*j:Nat):Int) hpb (gm.page j).length (Nat.le_refl _);refine z3l (α:=Unit) (fun _=>[(0,one (pV g0)),(2,one (strV code)),(4,one (.int .u32 junk)),(6,one (pV px)),(11,one (intV (G:Int))),(12,one (intV (P:Int))),(13,one (pV h)),(14,one (intV (j:Int)))]) (fun _ w2=>HoAt w2 h c m ms stZ (256*P) P (zp2 gm (j+1) (MemP.zero P)) ((256*(G+1)+4*off:Nat):Int) ((256*G:Nat):Int) ((256*G:Nat):Int)∧Held w4 ⟨[],m::ms⟩ w2) ?_ fun _ w2 hl=>?_
  ·refine z3b ?_
   refine z3e ?_;refine z3s (m::ms) (.q 0 (.q 1 (.q 2 (.q 3 (.q 4 (.q 5 (.q 6 (.q 7 (.q 8 (.q 9 (.q 10 (.q 11 (.alt 12 (.alt 13 .done .no) .no))))))))))))) (fun w=>ObjsAt w (m::ms) (memS 0 (256*P) P Mj)) (fun w hB=>zv0 (zt6 _ _ Mj) ho5.mem hB) mixed zK zK ?_;(conv=>whnf);refine ⟨_,zpx ho5.host ho5.hm (k:=0+0) rfl,?_⟩;(conv=>whnf);refine ⟨_,ho5.ptrH,?_⟩;(conv=>whnf);refine ⟨((256*j:Nat):Int),by rw [show (256:Int)*(j:Int)=((256*j:Nat):Int) by omega];exact wr64 zO,?_⟩;(conv=>whnf);refine ⟨((256*j:Nat):Int),by rw [wr32];omega,?_⟩;(conv=>whnf);refine ⟨?_,trivial⟩;refine zrv (strV (gm.page j)) (us:=[pV g0,intV (j:Int)]) rfl zK ztz (zwc hU4 hh5 hd0) hd0 (fun w hU=>zug gm (256*G) G j w g0 gs0 hU hg hlt) ?_;(conv=>whnf);refine ⟨?_,trivial⟩;refine zru (.tuple #[]) (Mj.pokeAt ((256*j:Nat):Int) (gm.page j) (gm.page j).length) (us:=[.int .u32 ((256*j:Nat):Int),strV (gm.page j)]) rfl zK (fun w hU=>zuj Mj (256*P) P _ (gm.page j) w m ms hU hMj (by unfold word;omega) hpb zO zO) ?_;(conv=>whnf);intro w6 hh6 hj6;refine zcd ?_;have ho6:=ho5.turn hh6 hj6;have hh56:=zp1 hh5 hh6 fun b hb=> .inl hb;clear hj6 hh6;refine z3s (m::ms) (.q 0 (.q 1 (.q 2 (.q 3 (.q 4 (.q 5 (.q 6 (.q 7 (.q 8 (.q 9 (.alt 10 (.q 11 (.alt 12 .done .no)) .no))))))))))) (fun w=>ObjsAt w (m::ms) (memS 0 (256*P) P _)) (fun w hB=>zv0 (zt6 _ _ _) ho6.mem hB) mixed zK zK ?_;(conv=>whnf);refine ⟨_,zpx ho6.host ho6.hm (k:=0+0) rfl,?_⟩;(conv=>whnf);refine ⟨_,ho6.ptrH,?_⟩;(conv=>whnf);refine ⟨?_,trivial⟩;refine zrv (intV (gm.rightsAt j)) (us:=[pV g0,intV (j:Int)]) rfl zK ztz (zwc hU4 hh56 hd0) hd0 (fun w hU=>zun gm (256*G) G j w g0 gs0 hU hg hlt) ?_;(conv=>whnf);refine ⟨gm.rightsAt j%4,zdv hri,?_⟩;(conv=>whnf);refine ⟨?_,trivial⟩;refine zru (.tuple #[]) ((Mj.pokeAt ((256*j:Nat):Int) (gm.page j) (gm.page j).length).protect j (gm.rightsAt j%4)) (us:=[intV (j:Int),intV (gm.rightsAt j%4)]) rfl zK (fun w hU=>zuk _ (256*P) P j _ w m ms hU hMk zO hP2 zO) ?_;(conv=>whnf);intro w7 hh7 hj7;refine zb4 (zca () Tn fun r w8 hR=>?_);rw [hs];exact ⟨(ho6.turn hh7 hj7).later hR.toBelow,zp1 (gs1:=[]) (zp1 hh56 hh7 fun b hb=> .inl hb) (zpy hR.toBelow) nofun⟩
  ·refine z3u ?_
   (conv=>whnf);refine ⟨((j+1:Nat):Int),by rw [show (j:Int)+1=((j+1:Nat):Int) by omega];exact wr64 zO,?_⟩;(conv=>whnf);exact zcc ⟨j+1,by omega⟩ Tn (fun r w3 hR=>⟨hl.1.later hR.toBelow,zp1 (gs1:=[]) hl.2 (zpy hR.toBelow) nofun⟩) (by show G-(j+1)<G-j;omega)
 ·have hje:j=G:=by have:=of_decide_eq_false hc;omega
  rw [hje] at ho5;have hMg:=zp4 hg hz0 G (Nat.le_refl _);have hMe:zp7 gm G P (256*(G+1)+4*off) ws code=zp8 (G+1) 4 (P-(G+1)) (zqh (G+1) (P-(G+1)) ((((zp2 gm G (MemP.zero P)).pokeAt ((256*G:Nat):Int) (ya5 ws) (ya5 ws).length).protect G 3).pokeAt ((256*(G+1)+4*off:Nat):Int) code code.length)):=rfl;refine z3u ?_;(conv=>whnf);refine zb7 (zcf (zb6 (zcd ?_)));generalize zp2 gm G (MemP.zero P)=Mg at ho5 hMg hMe;have hwb:=ya7 ws;have hwbl:=ya8 ws;refine z3e ?_;have e25:=(zpu hh5 (zpt e24) hpn).trans e24;refine z3s (m::ms) (.q 0 (.q 1 (.q 2 (.q 3 (.q 4 (.q 5 (.q 6 (.q 7 (.q 8 (.q 9 (.q 10 (.q 11 (.alt 12 (.alt 13 .done .no) .no))))))))))))) (fun w=>ObjsAt w (m::ms) (memS 0 (256*P) P Mg)) (fun w hB=>zv0 (zt6 _ _ Mg) ho5.mem hB) mixed zK zK ?_;(conv=>whnf);refine ⟨_,zpx ho5.host ho5.hm (k:=0+0) rfl,?_⟩;(conv=>whnf);refine ⟨_,ho5.ptrH,?_⟩;(conv=>whnf);refine ⟨_,zpx ho5.host ho5.hm (k:=0+2) rfl,?_⟩;(conv=>whnf);refine ⟨u32L ws,zpv e25 hpn,by rw [List.length_map];exact hwl,?_⟩;(conv=>whnf);refine ⟨?_,trivial⟩;refine zrq (strV (ya5 ws)) (us:=[.agg (u32L ws).toArray]) (zcp _) zK ztz (fun w _ _=>ybb ws hwl hww w) ?_;(conv=>whnf);refine ⟨?_,trivial⟩;refine zru (.tuple #[]) (Mg.pokeAt ((256*G:Nat):Int) (ya5 ws) (ya5 ws).length) (us:=[.int .u32 ((256*G:Nat):Int),strV (ya5 ws)]) rfl zK (fun w hU=>zuj Mg (256*P) P _ (ya5 ws) w m ms hU hMg (by unfold word;omega) hwb zO zO) ?_;(conv=>whnf);intro w6 hh6 hj6;refine zcd ?_;have ho6:=ho5.turn hh6 hj6;have hh56:=zp1 hh5 hh6 fun b hb=> .inl hb;have hM6:=zy5 hMg ((256*G:Nat):Int) hwb (ya5 ws).length (Nat.le_refl _);clear hj6 hh6 ho5 hh5 hMg e25;generalize Mg.pokeAt ((256*G:Nat):Int) (ya5 ws) (ya5 ws).length=M6 at ho6 hM6 hMe;refine z3n fun r w6b hR=>?_;refine ⟨z6l [(2,strV code),(4,.int .u32 junk),(11,intV (G:Int)),(12,intV (P:Int)),(13,pV h)],fun a' hf=>z6u ⟨z6s hf rfl,z6s hf rfl,z6s hf rfl,z6s hf rfl,z6s hf rfl,trivial⟩,?_⟩
  replace ho6:=ho6.later hR.toBelow
  replace hh56:=zp1 (gs1:=[]) hh56 (zpy hR.toBelow) nofun
  clear hR;refine z3e ?_;refine z3p (m::ms) (fun w=>ObjsAt w (m::ms) (memS 0 (256*P) P M6)) (fun w hB=>zv0 (zt6 _ _ _) ho6.mem hB) ?_;(conv=>whnf);refine ⟨_,zpx ho6.host ho6.hm (k:=0+0) rfl,?_⟩;(conv=>whnf);refine ⟨_,ho6.ptrH,?_⟩;(conv=>whnf);refine zru (.tuple #[]) (M6.protect G 3) (us:=[intV (G:Int),intV 3]) rfl zK (fun w hU=>zuk _ (256*P) P G _ w m ms hU hM6 zO hP2 zO) ?_;(conv=>whnf);intro w7 hh7 hj7;refine zcd ?_;have ho7:=ho6.turn hh7 hj7;have hh57:=zp1 hh56 hh7 fun b hb=> .inl hb;have hM7:=zzd hM6 G (x:=3) (by decide);clear hj7 hh7 ho6 hh56 hM6;generalize M6.protect G 3=M7 at ho7 hM7 hMe;refine z3e (z3f 2 rfl rfl rfl ?_);(conv=>whnf);refine ⟨by kernel_rfl,fun r w8 us' hR hd=>?_⟩;obtain rfl:=zcs (xs:=[pV h,intV 0,strV code]) rfl hd;have hB8:=hR.toBelow
  refine (zyf (ho7.later hB8) hM7 zO G zO zO 0 (by unfold word;omega) yax code hcb hcl).mono fun e w9 ⟨he,ho9,hh9⟩=>⟨_,he,?_⟩
  rw [Int.add_zero] at ho9;have hh59:=zp1 (zp1 (gs1:=[]) hh57 (zpy hB8) nofun) hh9 fun b hb=> .inl hb;have hM9:=zqj (G+1) (zy5 hM7 ((256*(G+1)+4*off:Nat):Int) hcb code.length (Nat.le_refl _)) (P-(G+1));clear hR hd hB8 ho7 hh57 hM7 hh9;generalize zqh (G+1) (P-(G+1)) (M7.pokeAt ((256*(G+1)+4*off:Nat):Int) code code.length)=M9 at ho9 hM9 hMe;(conv=>whnf);refine zcd ?_;refine z3e ?_;refine z3q ?_;(conv=>whnf);refine ⟨((G+1:Nat):Int),wr64 zO,?_⟩;(conv=>whnf);refine z3b ?_;refine z3j (fun j:{j:Nat//j≤P-(G+1)}=>[(4,one (.int .u32 junk)),(12,one (intV (P:Int))),(13,one (pV h)),(15,one (.int .i64 ((G+1+j.1:Nat):Int)))]) (fun j w'=>HoAt w' h c m ms stZ (256*P) P (zp8 (G+1) 4 j.1 M9) ((256*(G+1)+4*off:Nat):Int) ((256*G:Nat):Int) ((256*G:Nat):Int)∧Held w4 ⟨[],m::ms⟩ w') (fun j=>P-(G+1)-j.1) ⟨0,by omega⟩ Tn (fun r w' hR=>⟨ho9.later hR.toBelow,zp1 (gs1:=[]) hh59 (zpy hR.toBelow) nofun⟩) (fun j2 w' hJ=>?_);obtain ⟨j2,hj2⟩:=j2;dsimp only at hJ⊢;obtain ⟨hoj,hhj⟩:=hJ;refine z3e ?_;refine z3q ?_;(conv=>whnf);refine z3c rfl (fun hc=>z3r (zcd ?_)) (fun hc=>?_)
  ·have hlt:G+1+j2<P:=by have:=of_decide_eq_true hc;omega
   have hMj:=zqa (G+1) (x:=4) (by decide) hM9 j2;have hs:=zqc (G+1) 4 j2 M9;generalize zp8 (G+1) 4 j2 M9=Mj at hoj hMj hs;refine z3l (α:=Unit) (fun _=>[(4,one (.int .u32 junk)),(12,one (intV (P:Int))),(13,one (pV h)),(15,one (.int .i64 ((G+1+j2:Nat):Int)))]) (fun _ w2=>HoAt w2 h c m ms stZ (256*P) P (zp8 (G+1) 4 (j2+1) M9) ((256*(G+1)+4*off:Nat):Int) ((256*G:Nat):Int) ((256*G:Nat):Int)∧Held w4 ⟨[],m::ms⟩ w2) ?_ fun _ w2 hl=>?_
   ·refine z3b ?_
    refine z3p (m::ms) (fun w=>ObjsAt w (m::ms) (memS 0 (256*P) P Mj)) (fun w hB=>zv0 (zt6 _ _ _) hoj.mem hB) ?_;(conv=>whnf);refine ⟨_,zpx hoj.host hoj.hm (k:=0+0) rfl,?_⟩;(conv=>whnf);refine ⟨_,hoj.ptrH,?_⟩;(conv=>whnf);refine zru (.tuple #[]) (Mj.protect (G+1+j2) 4) (us:=[intV ((G+1+j2:Nat):Int),intV 4]) rfl zK (fun w hU=>zuk _ (256*P) P (G+1+j2) _ w m ms hU hMj hlt hP2 zO) ?_;(conv=>whnf);intro w3 hh3 hj3;refine zb4 (zca () Tn fun r w4 hR=>?_);rw [hs];exact ⟨(hoj.turn hh3 hj3).later hR.toBelow,zp1 (gs1:=[]) (zp1 hhj hh3 fun b hb=> .inl hb) (zpy hR.toBelow) nofun⟩
   ·refine z3u ?_
    (conv=>whnf);refine ⟨((G+1+(j2+1):Nat):Int),by rw [show ((G+1+j2:Nat):Int)+1=((G+1+(j2+1):Nat):Int) by omega];exact wr64 zO,?_⟩;(conv=>whnf);exact zcc ⟨j2+1,by omega⟩ Tn (fun r w3 hR=>⟨hl.1.later hR.toBelow,zp1 (gs1:=[]) hl.2 (zpy hR.toBelow) nofun⟩) (by show P-(G+1)-(j2+1)<P-(G+1)-j2;omega)
  ·have hje:j2=P-(G+1):=by have:=of_decide_eq_false hc;omega
   rw [hje, ← hMe] at hoj;refine z3u ?_;(conv=>whnf);refine zb7 (zcf (zb6 (zcd ?_)));generalize zp7 gm G P (256*(G+1)+4*off) ws code=MH at hoj;refine z3q ?_;(conv=>whnf);refine ⟨_,zd1 (off:=0+1) hoj.host rfl,?_⟩;(conv=>whnf)
   obtain ⟨B,hBe⟩:∃ B:Int,B=((256*(G+1)+4*off:Nat):Int):=⟨_,rfl⟩
   rw [← hBe] at hoj⊢;refine z3e ?_;refine z3q ?_;(conv=>whnf);refine z3b ?_;refine z3h (α:={k:Nat//1≤k∧k≤16}) (fun k=>[(4,one (.int .u32 junk)),(13,one (pV h)),(16,.p (.c (.ref 0 0))),(17,one (.int .i64 (k.1:Int)))]) (fun k=>[.cells stT (stC (zql B junk k.1) [])]) (fun k=>16-k.1) ⟨1,by omega⟩ (zj7 (show (1:Nat)=1 from rfl) Tn (aI ((aI rfl (Or.inl (zqo B junk)))) trivial)) (fun k=>?_);obtain ⟨k,hk1,hk2⟩:=k;dsimp only;refine z3e ?_;refine z3q ?_;(conv=>whnf);refine z3c rfl (fun hc=>z3r (zcd ?_)) (fun hc=>?_)
   ·have hlt:k<16:=by have:=of_decide_eq_true hc;omega
    obtain ⟨X,hX⟩:∃ X,X=stC (zql B junk k) []:=⟨_,rfl⟩
    have hXl:X.length=24:=(by rw [hX];rfl);rw [← hX];refine z3k (α:=Unit) (fun _=>[(4,one (.int .u32 junk)),(13,one (pV h)),(16,.p (.c (.ref 0 0))),(17,one (.int .i64 (k:Int)))]) (fun _=>[.cells stT (stC (zql B junk (k+1)) [])]) ?_ fun _=>?_
    ·refine z3b ?_
     refine z3u ?_;(conv=>whnf);refine ⟨(k:Int),by rw [wr32];omega,?_⟩;(conv=>whnf);refine ⟨junk*(k:Int)%4294967296,wr32 _,?_⟩;(conv=>whnf);refine ⟨⟨by omega,by omega⟩,?_⟩;(conv=>whnf);erw [show Nat.ble (0+1+(k:Int).toNat*tsz Tryz.prog 41+[CV.v (Value.int IntKind.u32 (junk*(k:Int)%4294967296))].length) X.length=true from Nat.ble_eq_true_of_le (by rw [hXl];show 0+1+k*1+1≤24;omega)];(conv=>whnf);rw [show Nat.ble X.length 8=false from by rw [hXl];rfl];(conv=>whnf)
     have hset:z38 X (0+1+(k:Int).toNat*tsz Tryz.prog 41) [CV.v (Value.int IntKind.u32 (junk*(k:Int)%4294967296))]=stC (zql B junk (k+1)) []:=by
      rw [hX];refine (z69 (zql B junk k) [] (junk*(k:Int)%4294967296) (j:=(k:Int)) zO zO).trans ?_;show stC {zql B junk k with R:=regU (zqd junk k) (k:Int) (junk*(k:Int)%4294967296)} []=_;rw [zqe junk k hk1];rfl
     exact zb4 (zb8 () (zj7 rfl Tn (aI ((aI rfl (Or.inl hset))) trivial)))
    ·refine z3u ?_
     (conv=>whnf);refine ⟨((k+1:Nat):Int),by rw [show (k:Int)+1=((k+1:Nat):Int) by omega];exact wr64 zO,?_⟩;(conv=>whnf);exact zcb ⟨k+1,by omega⟩ (zj7 rfl Tn (aI sM trivial)) (by show 16-(k+1)<16-k;omega)
   ·have hk:k=16:=by have:=of_decide_eq_false hc;omega
    subst hk;refine z3u ?_;(conv=>whnf);refine zb7 (zce (zb6 (zcd ?_)));refine z3n fun r w7 hR=>?_;obtain ⟨ps,us,e1,e2,e3⟩:=hR.own 0 _ rfl;obtain rfl:=zis (us:=stL (zql B junk 16) []) e3;have hB7:=hR.toBelow;have hps:=zoc hR e1;refine ⟨z6l [(13,pV h),(16,pV ps)],fun a' hf=>z6u ⟨z6s hf rfl,z6q hf 16 rfl e1,trivial⟩,?_⟩;clear hR e3;have hoc:=hoj.later hB7;have hJ0:=zhh hoc.cpu hoc.mem hoc.cm;have hhn:h∉c::m::ms:=fun hm=>(List.mem_cons.1 hm).elim (fun e=>hoc.hc e) hoc.hm
    have hpsn:ps∉c::m::ms:=fun hm=>by
     rcases List.mem_cons.1 hm with rfl|hm
     ·have:=zpt hoj.cpu;omega
     ·have:=hoj.mem.lt ps hm;omega
    have hst:stL {zql B junk 16 with R:=regU (zql B junk 16).R 0 0,f:=0} []=stL (zql B junk 16) []:=by
     have:regU (zqd junk 16) 0 0=zqd junk 16:=by
      funext j
      unfold regU zqd;by_cases h:j=0
      ·rw [if_pos h,if_neg zO]
      ·rw [if_neg h]
     show stL {zql B junk 16 with R:=regU (zqd junk 16) 0 0,f:=0} []=_;rw [this];rfl
    generalize hSG:stL (zql B junk 16) []=SL at e2 hst;have hSl:SL.length=24:=(by rw [← hSG];rfl);refine z3e ?_;refine z3s (c::m::ms) (.q 0 (.q 1 (.q 2 (.q 3 (.q 4 (.alt 5 .done .no)))))) (fun w=>ObjsAt w (c::m::ms) (cpuU 0 stZ (256*P) P MH)) (fun w hB=>ObjsAt.later (zhe _ _ _ _) hJ0 hB.size fun b hb=>hB.block b (hJ0.lt b hb)) mixed zK zK ?_;(conv=>whnf);refine ⟨_,zpx hoc.host hhn (k:=0+0) rfl,?_⟩;(conv=>whnf);refine ⟨SL,zpv e2 hpsn,hSl,?_⟩;(conv=>whnf);refine ⟨?_,trivial⟩;refine zrw (U':=cpuU 0 SL (256*P) P MH) (.tuple #[]) (us:=[.agg SL.toArray]) (zcp _) zK (fun w hU=>by have h1:=z4n (zql B junk 16) (Int.le_refl 0) rfl stZ rfl MH (256*P) P w c (m::ms) hU;rw [hst] at h1;rw [← hSG] at h1⊢;exact h1) ?_;(conv=>whnf);intro w8 hh8 hj8;refine zcd ?_;obtain ⟨m2,ms2,em,hc8,hm8,hn8⟩:=zhl hj8;injection em with em1 em2;subst em1;subst em2
    have ho8:HoAt w8 h c m ms SL (256*P) P MH B ((256*G:Nat):Int) ((256*G:Nat):Int):=⟨(zpu hh8 (zpt hoc.host) hhn).trans hoc.host,hc8,hSl,hm8,hoc.hc,hoc.hm,hn8⟩
    refine z3q ?_;(conv=>whnf);refine z3u ?_;(conv=>whnf);refine zcg ?_;(conv=>whnf)
    refine zmj rfl fun w9 hB9=>⟨h,c,m,ms,rfl,ho8.later hB9,fun b hb=>?_,?_⟩
    ·rcases List.mem_cons.1 hb with rfl|hb
     ·exact hhw
     ·exact hfw b hb
    ·have b1:=zdi hB04 hhj (fun b hb=>hfw b (List.mem_cons_of_mem _ hb))
     have b2:=zdg b1 hB7 b1.size;have b3:=zdi b2 hh8 hfw;exact zdg b3 hB9 b3.size
end
section
variable {P:Program} {w0:World} {G:Gs} {N:Nd} {S:List Ow} {f:Fr} {d:Code} {Q:Exit→Act→World→Prop} {α:Type}
theorem zb9 {T:α→Fr} {J:α→World→Prop} (h:∀ r w,Rel w0 G S r w→∃ y,(∀ a,FDen r f a→FDen Env.none (T y) a)∧J y w):AtQ w0 G N .normal f S (MidW N T J Q):=
 ⟨fun a w ⟨r,hR,hfd,hN,hds⟩=>by
  obtain ⟨y,h1,h2⟩:=h r w hR
  exact ⟨y,h1 a hfd,hN,hds,h2⟩⟩
end
structure CpAt (w:World) (c m:Nat) (ms:List Nat) (us:List Value) (n p:Nat) (M:MemP):Prop where
 cpu:w.heap[c]?=some (.cells (us++[pV m]).toArray cpuT (0,0))
 ul:us.length=24
 mem:ObjsAt w (m::ms) (memS 0 n p M)
 cm:c∉m::ms
section
variable {w w':World} {h c m:Nat} {ms:List Nat} {us:List Value} {n p:Nat} {M:MemP} {base ctx size:Int}
theorem HoAt.cp (ho:HoAt w h c m ms us n p M base ctx size):CpAt w c m ms us n p M:=⟨ho.cpu,ho.ul,ho.mem,ho.cm⟩
theorem CpAt.later (hc:CpAt w c m ms us n p M) (hB:Below w.heap.size w w'):CpAt w' c m ms us n p M:=⟨(hB.block c (zpt hc.cpu)).trans hc.cpu,hc.ul,zv0 (zt6 n p M) hc.mem hB,hc.cm⟩
theorem CpAt.ptr (hc:CpAt w c m ms us n p M):zac w Gs.nil c (0+24) [pV m]:=
 zd1 hc.cpu (by rw [List.getElem?_append_right (by rw [hc.ul];exact Nat.le_refl _),hc.ul];rfl)
end
theorem z7a {F:Int→Option QI} {a:Int} {R:Int→Int} {M:MemP} {y} (h:z7d (qAt F a) a R M=some y):∃ i,F a=some i∧z7d i a R M=some y:=by
 cases hF:F a with
 |none=>
  have:qAt F a=⟨0,0,0,0,0⟩:=(by unfold qAt;rw [hF];rfl);rw [this] at h;have h0:z7d ⟨0,0,0,0,0⟩ a R M=none:=rfl;rw [h0] at h;cases h
 |some i=>
  have:qAt F a=i:=(by unfold qAt;rw [hF];rfl);rw [this] at h;exact ⟨i,rfl,h⟩
def stAt (s:St) (y:(Int→Int)×Int×MemP) (j:Nat):St:={s with pc:=y.2.1,R:=y.1,steps:=s.steps+j}
theorem zhy {l m:List CV} {n:Nat} (h:l.length=n):cut (l++m) 0 n=some l:=by
 unfold cut;rw [show Nat.ble (0+n) (l++m).length=true from Nat.ble_eq_true_of_le (by rw [List.length_append];omega)];rw [List.drop_zero, ← h,List.take_left]
abbrev trT:TypeId:=93
theorem zd3 {w:World} {G:Gs} {b:Nat} {us vs:List Value} {t:TypeId} (h:w.heap[b]?=some (.cells (us++vs).toArray t (0,0))) (hG:b∉G):zac w G b 0 us:=by
 refine ⟨zpt h,hG,fun j u hj=>?_⟩
 have hlt:j<us.length:=by
  rcases Nat.lt_or_ge j us.length with h1|h1
  ·exact h1
  ·rw [List.getElem?_eq_none h1] at hj;cases hj
 simp only [World.cell?,h,Nat.zero_add];simp [List.getElem?_append_left hlt,hj]
theorem zd2 {w:World} {G:Gs} {b off:Nat} {us:List Value} {x:Value} {t:TypeId} (h:w.heap[b]?=some (.cells us.toArray t (0,0))) (hG:b∉G) (hx:us[off]?=some x):zac w G b off [x]:=zfo (zd1 h hx) hG
theorem zd4 {w:World} {G:Gs} {b off:Nat} {us xs:List Value} {t:TypeId} (h:w.heap[b]?=some (.cells us.toArray t (0,0))) (hG:b∉G) (hx:∀ j u,xs[j]?=some u→us[off+j]?=some u):zac w G b off xs:=
 ⟨zpt h,hG,fun j u hj=>by
  have:=hx j u hj
  simp [World.cell?,h,this]⟩
theorem z7f {s:St} {M M':MemP} {v:Value} (h:zaq s M v M'):∃ s' k inf,v=zxw s' k inf:=by
 unfold zaq at h
 split at h
 ·obtain ⟨k,inf,_,hv,_⟩:=h
  exact ⟨s,k,inf,hv⟩
 ·split at h
  ·split at h
   ·obtain ⟨k,inf,_,_,hv,_⟩:=h
    exact ⟨s,k,inf,hv⟩
   ·exact ⟨_,_,_,h.1⟩
  ·obtain ⟨s',k,inf,hv,_⟩:=h
   exact ⟨s',k,inf,hv⟩
section
variable {w:World} {c m:Nat} {ms:List Nat} {n p:Nat} {M:MemP}
theorem z2u (s:St) (hs:s.ok) (hdue:s.due=0) (hst:s.steps≤1000000) (hC:CpAt w c m ms (stL s []) n p M) (hM:M.ok n p) (k:Nat) (most:Int) (hk:(k:Int)<most) (hkm:k≤1000000) {R':Int→Int} {pc':Int} {M':MemP} (hit:zrk (z07 M.fet) k s.R s.pc M=some (R',pc',M')) {i:QI} (hi:z07 M.fet pc'=some i) (hstop:(i.op=48∧i.imm=0)∨(z7d i pc' R' M'=none∧23≤i.op∧i.op≤26)):
  Calls Tryz.prog 40 #[pV c,.int .i64 most] w fun e w'=>(∃ inf,e= .returned (.agg #[.int .i64 (if i.op=48 then 4 else 5),.int .u32 inf])∧(i.op=48→inf=0))∧CpAt w' c m ms (stL (stAt s (R',pc',M') k) []) n p M'∧Held w ⟨[],c::m::ms⟩ w':=by
 have hF:∀ a x,z07 M.fet a=some x→x.ok:=fun a x hx=>(z1a hM hx).1
 have hr0:RunOk M n p s.R s.pc M:=⟨hs.pc,hs.reg,hs.zero,hM,rfl⟩
 have hstp:=hs.steps;refine zfg [pV c,.int .i64 most] Tryz.func40 Tryz.ntmps40 rfl zS ?_;refine z3q ?_;(conv=>whnf);refine z3n fun r w1 hR=>?_;obtain ⟨p4,us,e1,e2,e3⟩:=hR.own 0 _ rfl;obtain rfl:=zis (us:=[.int .i64 0,.int .u32 0]) e3;have hB1:=hR.toBelow;have hp4:=zoc hR e1;refine ⟨z6l [(0,pV c),(1,.int .i64 most),(4,pV p4)],fun a' hf=>z6u ⟨z6s hf rfl,z6s hf rfl,z6q hf 4 rfl e1,trivial⟩,?_⟩
 have h4n:p4∉c::m::ms:=fun hm=>by
  rcases List.mem_cons.1 hm with rfl|hm
  ·have:=zpt hC.cpu;omega
  ·have:=hC.mem.lt p4 hm;omega
 have hC1:=hC.later hB1;clear hR e3 e1;refine z3q ?_;(conv=>whnf);refine z3b ?_
 refine z3j (fun j:{j:Nat//j≤k}=>[(0,one (pV c)),(1,one (.int .i64 most)),(4,one (pV p4)),(5,one (.int .i64 (j.1:Int)))]) (fun j w'=>∃ y,zrk (z07 M.fet) j.1 s.R s.pc M=some y∧CpAt w' c m ms (stL (stAt s y j.1) []) n p y.2.2∧Held w1 ⟨[],c::m::ms⟩ w'∧w'.heap[p4]?=some (.cells ([.int .i64 0,.int .u32 0]:List Value).toArray trT (0,0))) (fun j=>k-j.1) ⟨0,by omega⟩ Tn (fun r w' hR=>⟨(s.R,s.pc,M),rfl,by
  have:stAt s (s.R,s.pc,M) 0=s:=(by unfold stAt;simp);show CpAt w' c m ms (stL (stAt s (s.R,s.pc,M) 0) []) n p M;rw [this]
  exact hC1.later hR.toBelow,zpy hR.toBelow,(hR.toBelow.block p4 (zpt e2)).trans e2⟩) (fun j w' hJ=>?_)
 obtain ⟨j,hj⟩:=j;dsimp only at hJ⊢;obtain ⟨y,hy,hCj,hhj,e4⟩:=hJ;have hrj:=zrn hF j hr0 hy
 have hsj:(stAt s y j).ok:=⟨hrj.pc,hrj.reg,hrj.zero,hs.fl,by show 0≤s.steps+(j:Int)∧s.steps+(j:Int)<1099511627776;omega⟩
 have hduej:(stAt s y j).due=0:=hdue;have hpcj:(stAt s y j).pc=y.2.1:=rfl;have hRj:(stAt s y j).R=y.1:=rfl;generalize hSJ:stAt s y j=sj at hCj hsj hduej hpcj hRj;refine z3b ?_;refine z3e ?_;refine z3q ?_;refine z25 mixed zK ?_;(conv=>whnf);refine ⟨_,zd1 hCj.cpu (x:= .int .i64 0) (by show some (Value.int .i64 sj.due)=_;rw [hduej]),?_⟩;refine kB ?_;refine z3c (t:=false) rfl nF (fun _=>z3r (zcd ?_));refine z3e ?_;refine z3q ?_;(conv=>whnf);refine z3c rfl (fun hc=>absurd (of_decide_eq_true hc) zO) (fun _=>z3r (zcd ?_))
 obtain ⟨L,hL⟩:∃ L,L=stL sj []:=⟨_,rfl⟩
 have hLl:(L.map CV.v).length=24:=by rw [List.length_map,hL];rfl
 have hLg:(L.map CV.v++[CV.ref 1 0])[24]?=some (CV.ref 1 0):=by rw [List.getElem?_append_right zO,hLl];rfl
 rw [← hL] at hCj
 have hstep:∀ (w':World) (g:Nat) (gs:List Nat),ObjsAt w' (g::gs) (memS 0 n p y.2.2)→Calls Tryz.prog 94 #[.agg L.toArray,.pointer (some ⟨g,0,none⟩)] w' fun e w2=>∃ q:List Value×MemP,((q.1.map CV.v).length=26∧(∀ S,zwj S (q.1.map CV.v)=true)∧zaq sj y.2.2 (.agg q.1.toArray) q.2)∧e= .returned (.agg q.1.toArray)∧ObjsAt w2 (g::gs) (memS 0 n p q.2)∧GrownBys w' w2 (g::gs):=fun w' g gs hU=>by
  rw [hL];refine (z7j sj hsj y.2.2 n p w' g gs hU hrj.mem).mono fun e w2 ⟨v,M2,he,hR2,_,hO,hG⟩=>?_;obtain ⟨s',kk,inf,rfl⟩:=z7f hR2;exact ⟨(stL s' [intV kk,u32V inf],M2),⟨rfl,fun _=>rfl,hR2⟩,he,hO,hG⟩
 refine z3l (α:=Nat×St×Int×Int×MemP) (fun q=>[(0,one (pV c)),(1,one (.int .i64 most)),(4,one (pV p4)),(5,one (.int .i64 (j:Int))),(6,one (pV q.1))]) (fun q w2=>zaq sj y.2.2 (zxw q.2.1 q.2.2.1 q.2.2.2.1) q.2.2.2.2∧CpAt w2 c m ms L n p q.2.2.2.2∧w2.heap[q.1]?=some (.cells (stL q.2.1 [intV q.2.2.1,u32V q.2.2.2.1]).toArray outT (0,0))∧Held w1 ⟨[],c::m::ms⟩ w2∧w2.heap[p4]?=some (.cells ([.int .i64 0,.int .u32 0]:List Value).toArray trT (0,0))∧q.1∉c::m::ms∧q.1≠p4) ?_ fun q w2 hl=>?_
 ·refine z3v 0 0 c rfl ⟨c::m::ms,[]⟩ (cpuU 0 L n p y.2.2) fun r w3 hR3=>?_
  have hB3:=hR3.toBelow;have hC3:=hCj.later hB3;have hU3:=zhh hC3.cpu hC3.mem hC3.cm;refine ⟨_,z1x hU3,rfl,?_⟩;refine z3u ?_;refine z23 (.q 0 (.q 1 (.q 2 (.q 4 (.q 5 (.q 6 (.alt 3 (.alt 7 (.alt 8 (.alt 9 (.alt 10 .done .no) .no) (.alt 9 (.alt 8 (.alt 10 .done .no) .no) .no)) (.alt 9 (.alt 7 (.alt 8 (.alt 10 .done .no) .no) .no) .no)) (.alt 7 (.alt 3 (.alt 8 (.alt 9 (.alt 10 .done .no) .no) (.alt 9 (.alt 8 (.alt 10 .done .no) .no) .no)) (.alt 9 (.alt 3 (.alt 8 (.alt 10 .done .no) .no) .no) .no)) (.alt 9 (.alt 3 (.alt 7 (.alt 8 (.alt 10 .done .no) .no) .no) (.alt 7 (.alt 3 (.alt 8 (.alt 10 .done .no) .no) .no) .no)) .no))))))))) mixed zK zK ?_;(conv=>whnf)
  repeat' (first
   |(refine ⟨?_,?_,?_,trivial⟩<;>(conv=>whnf))
   |(refine ⟨?_,?_,trivial⟩<;>(conv=>whnf))
   |(refine ⟨?_,trivial⟩;(conv=>whnf))
   |(erw [zhy hLl];(conv=>whnf))
   |(erw [hLg];(conv=>whnf))
   |(refine ze8 (pre:=[.p (.agg (L.map .v))]) (suf:=[]) (xs:=[.agg L.toArray]) (ys:=[]) (α:=List Value×MemP) 1 (memS 0 n p y.2.2) (memS 1 n p y.2.2) (fun q=>memS 0 n p q.2) (fun q=>memS 1 n p q.2) (fun q=> .agg q.1.toArray) (fun q=>(q.1.map CV.v).length=26∧(∀ S,zwj S (q.1.map CV.v)=true)∧zaq sj y.2.2 (.agg q.1.toArray) q.2) zS (zt7 1 n p y.2.2) (zt6 n p y.2.2) (fun i hi=>zhi L n p y.2.2 _ i hi) (zcp _) rfl zK (fun q _=>zt7 1 n p q.2) (fun q _=>zt6 n p q.2) (fun _ _=>rfl) (fun w' g gs _ hU=>hstep w' g gs hU) ?_;rintro ⟨Lo,M2⟩ ⟨hLo,hone,hR2⟩;(conv=>whnf))
   |(erw [zdl (l:=List.map CV.v Lo) (n:=26) hLo];(conv=>whnf))
   |(erw [hone _];(conv=>whnf))
   |(erw [zdz (l:=List.map CV.v Lo) (hLo.trans rfl)];(conv=>whnf))
   |fail)
  all_goals
   refine zb9 fun r4 w4 hR4=>?_;obtain ⟨pb,us,b1,b2,b3⟩:=hR4.own 7 _ rfl;rw [z4b (by show _=(List.map CV.v Lo).length;rw [hLo];rfl)] at b3;obtain rfl:=zis (us:=Lo) b3;obtain ⟨s',kk,inf,hv⟩:=z7f hR2
   have hLe:us=stL s' [intV kk,u32V inf]:=by
    injection hv with hv;exact congrArg Array.toList hv
   subst hLe;have hgr:=hR4.growns
   have hpbn:pb∉c::m::ms:=fun hm=>by
    obtain ⟨i2,hi2⟩:=List.getElem?_of_mem hm;have h7:=hR4.inj i2 7 pb (hR4.first i2 pb hi2) b1;subst h7;rw [List.getElem?_eq_none (by have:=hU3.len;simp only [List.length_cons,List.length_nil] at this⊢;omega)] at hi2
    cases hi2
   have hpbw:w3.heap.size≤pb:=by
    rcases Nat.lt_or_ge pb w3.heap.size with h1|h1
    ·rcases (hR4.new 7 pb b1).2 h1 with h2|h2
     ·exact absurd h2 hpbn
     ·cases h2
    ·exact h1
   have hO4:ObjsAt w4 (c::m::ms) (cpuU 0 L n p M2):=hR4.objs (by have:=hU3.len;exact this) (fun i o ho=>by
    show (cpuU 0 L n p M2++([_]:List Ow))[i]?=some o
    rw [List.getElem?_append_left (by
     rcases Nat.lt_or_ge i (cpuU 0 L n p M2).length with h1|h1
     ·exact h1
     ·rw [List.getElem?_eq_none h1] at ho;cases ho)]
    exact ho) (by have:=hU3.len;rw [← this];exact zhe L n p M2)
   obtain ⟨m2,ms2,em,hc4,hm4,hn4⟩:=zhl hO4;injection em with em1 em2;subst em1;subst em2;refine ⟨(pb,s',kk,inf,M2),fun a' hf=>?_,hR2,⟨hc4,by rw [← List.length_map (f:=CV.v)];exact hLl,hm4,hn4⟩,b2,zp1 (zp1 (gs1:=[]) hhj (zpy hB3) nofun) (zpz hgr) fun b hb=> .inl hb,(hgr.block p4 (Nat.lt_of_lt_of_le (zpt e4) hB3.size) h4n).trans ((hB3.block p4 (zpt e4)).trans e4),hpbn,fun e=>by subst e;have:=hpbw;have:=zpt e4;have:=hB3.size;omega⟩;show FDen Env.none (z6l [(0,pV c),(1,.int .i64 most),(4,pV p4),(5,.int .i64 (j:Int)),(6,pV pb)]) a';exact z6u ⟨z6q hf 0 rfl (hR4.first 0 c rfl),z6s hf rfl,z6s hf rfl,z6s hf rfl,z6q hf 6 rfl b1,trivial⟩
 ·obtain ⟨pb,s',kk,inf,M2⟩:=q
  dsimp only at hl;obtain ⟨hR2,hC2,eb,hh2,e42,hpbn,hpb4⟩:=hl;refine z3e ?_;refine z3q ?_;(conv=>whnf);refine ⟨_,zd1 (off:=0+24+0) eb rfl,?_⟩;(conv=>whnf);unfold zaq at hR2;rw [hrj.fet,hpcj,hRj] at hR2;by_cases hjk:j<k
  ·obtain ⟨z,hz⟩:=zro k (j+1) hjk hit
   have hz2:=hz;rw [zrp,hy] at hz2;obtain ⟨i2,hi2,hst2⟩:=z7a (show z7d (qAt (z07 M.fet) y.2.1) y.2.1 y.1 y.2.2=some z from hz2);obtain ⟨Rz,pz,Mz⟩:=z;have hop:=(z7e (hF _ _ hi2) hrj.reg hrj.zero hrj.mem hst2).2.2.2.2.2;rw [hi2] at hR2;dsimp only at hR2;rw [if_pos (show z5o i2.op=true from decide_eq_true hop),hst2] at hR2;obtain ⟨hv,hM2⟩:=hR2;subst hM2
   have hvl:stL s' [intV kk,u32V inf]=stL {sj with pc:=pz,R:=Rz,steps:=sj.steps+1} [intV 0,u32V 0]:=by
    injection hv with hv;exact congrArg Array.toList hv
   have hk0:kk=0:=by
    have h1:=congrArg (fun l=>l[24]?) hvl;have h2:some (intV kk)=some (intV 0):=h1;injection h2 with h2;injection h2
   have hnx:stL s' []=stL (stAt s (Rz,pz,M2) (j+1)) []:=by
    have h1:=congrArg (List.take 24) hvl;have h2:stL s' []=stL {sj with pc:=pz,R:=Rz,steps:=sj.steps+1} []:=h1;rw [h2, ← hSJ];show stL ⟨pz,Rz,s.f,s.c0,s.c1,s.c2,s.c3,s.steps+(j:Int)+1,s.due⟩ []=stL ⟨pz,Rz,s.f,s.c0,s.c1,s.c2,s.c3,s.steps+((j+1:Nat):Int),s.due⟩ [];rw [show s.steps+(j:Int)+1=s.steps+((j+1:Nat):Int) by omega]
   refine z3c (t:=false) (by rw [hk0];rfl) nF (fun _=>z3r (zcd ?_))
   obtain ⟨L',hL'⟩:∃ L',L'=stL s' []:=⟨_,rfl⟩
   have hL'l:(L'.map CV.v).length=24:=by rw [List.length_map,hL'];rfl
   have hone:∀ S,zwj S (L'.map CV.v)=true:=fun S=>by rw [hL'];rfl
   have ebp:w2.heap[pb]?=some (.cells (L'++[intV kk,u32V inf]).toArray outT (0,0)):=(by rw [hL'];exact eb);refine z3l (α:=Unit) (fun _=>[(0,one (pV c)),(1,one (.int .i64 most)),(4,one (pV p4)),(5,one (.int .i64 (j:Int)))]) (fun _ w3=>CpAt w3 c m ms L' n p M2∧Held w1 ⟨[],c::m::ms⟩ w3∧w3.heap[p4]?=some (.cells ([.int .i64 0,.int .u32 0]:List Value).toArray trT (0,0))) ?_ fun _ w3 hl=>?_
   ·refine z3v 0 0 c rfl ⟨[c],[]⟩ [.cells cpuT ((L++[pV m]).map .v)] fun r w3 hR3=>?_
    have hB3:=hR3.toBelow;have hC3:=hC2.later hB3;refine ⟨_,z1x (zv2 hC3.cpu),rfl,?_⟩;have ebp3:=(hB3.block pb (zpt ebp)).trans ebp;have e43:=(hB3.block p4 (zpt e42)).trans e42;have hh3:=zp1 (gs1:=[]) hh2 (zpy hB3) nofun
    have hpbc:pb∉(⟨[c],[]⟩:Gs):=fun hm=>by
     rcases hm with hm|hm
     ·rw [List.mem_singleton] at hm
      exact hpbn (by rw [hm];exact List.mem_cons_self ..)
     ·cases hm
    refine z3u ?_;(conv=>whnf);refine ⟨L',zd3 ebp3 hpbc,by rw [← List.length_map (f:=CV.v)];exact hL'l,?_⟩;(conv=>whnf);have hlen2:((L++[pV m]).map CV.v).length=25:=(by rw [List.map_append,List.length_append,hLl];rfl);erw [zdl (l:=L'.map CV.v) (n:=24) hL'l];(conv=>whnf);erw [hone _];(conv=>whnf);erw [show Nat.ble (0+0+(L'.map CV.v).length) ((L++[pV m]).map CV.v).length=true from Nat.ble_eq_true_of_le (by rw [hL'l,hlen2];decide)];(conv=>whnf);rw [show Nat.ble ((L++[pV m]).map CV.v).length 8=false from by rw [hlen2];rfl];(conv=>whnf);refine zb9 fun r4 w4 hR4=>?_;obtain ⟨c',us,b1,b2,b3⟩:=hR4.own 0 _ rfl;have hcc:=hR4.first 0 c rfl;rw [hcc] at b1;injection b1 with b1;subst b1
    have hse:z38 ((L++[pV m]).map CV.v) 0 (L'.map CV.v)=(L'++[pV m]).map CV.v:=by
     rw [List.map_append,show List.map CV.v [pV m]=[CV.v (pV m)] from rfl,z4c (L'.map CV.v) (L.map CV.v) 0 zO 24 zO [CV.v (pV m)],z4b (by rw [hLl,hL'l]),List.map_append]
     rfl
    have b4:denL r4 (z38 ((L++[pV m]).map CV.v) 0 (L'.map CV.v)) us:=b3;rw [hse] at b4;obtain rfl:=zis b4;have hgr:=hR4.growns;refine ⟨(),fun a' hf=>?_,⟨b2,by rw [← List.length_map (f:=CV.v)];exact hL'l,?_,hC3.cm⟩,zp1 hh3 (zpz hgr) fun b hb=> .inl (by rw [List.mem_singleton.1 hb];exact List.mem_cons_self ..),(hgr.block p4 (zpt e43) fun hm=>h4n (by rw [List.mem_singleton.1 hm];exact List.mem_cons_self ..)).trans e43⟩
    ·show FDen Env.none (z6l [(0,pV c),(1,.int .i64 most),(4,pV p4),(5,.int .i64 (j:Int))]) a'
     exact z6u ⟨z6q hf 0 rfl hcc,z6s hf rfl,z6s hf rfl,z6s hf rfl,trivial⟩
    ·exact ObjsAt.later (zt6 n p M2) hC3.mem hgr.size fun b hb=>hgr.block b (hC3.mem.lt b hb) fun hm=>hC3.cm (by rw [← List.mem_singleton.1 hm];exact hb)
   ·obtain ⟨hC5,hh5,e45⟩:=hl
    rw [hL',hnx] at hC5;refine z3u ?_;(conv=>whnf);refine ⟨((j+1:Nat):Int),by rw [show (j:Int)+1=((j+1:Nat):Int) by omega];exact wr64 zO,?_⟩;(conv=>whnf);exact zb4 (zcc ⟨j+1,by omega⟩ Tn (fun r w6 hR=>⟨(Rz,pz,M2),hz,hC5.later hR.toBelow,zp1 (gs1:=[]) hh5 (zpy hR.toBelow) nofun,(hR.toBelow.block p4 (zpt e45)).trans e45⟩) (by show k-(j+1)<k-j;omega))
  ·have hjk:j=k:=by omega
   subst hjk;rw [hit] at hy;injection hy with hy;subst hy;dsimp only at hR2 hC2;rw [hi] at hR2;dsimp only at hR2
   have hres:kk=(if i.op=48 then 4 else 5)∧(i.op=48→inf=0)∧M2=M':=by
    rcases hstop with ⟨h48,him⟩|⟨hno,h1,h2⟩
    ·rw [if_neg (show ¬z5o i.op=true by rw [h48];decide)] at hR2
     obtain ⟨s2,k2,inf2,hv,h3⟩:=hR2;obtain ⟨_,rfl,rfl,rfl⟩:=h3 h48
     have hvl:stL s' [intV kk,u32V inf]=stL s2 [intV 4,u32V i.imm]:=by
      injection hv with hv;exact congrArg Array.toList hv
     have h1:some (intV kk)=some (intV 4):=congrArg (fun l=>l[24]?) hvl;have h2:some (u32V inf)=some (u32V i.imm):=congrArg (fun l=>l[25]?) hvl;injection h1 with h1;injection h1 with _ h1;injection h2 with h2;injection h2 with _ h2;exact ⟨by rw [if_pos h48];exact h1,fun _=>by rw [h2];exact him,rfl⟩
    ·rw [if_pos (show z5o i.op=true from decide_eq_true zO),hno] at hR2
     obtain ⟨k2,inf2,_,h3,hv,rfl⟩:=hR2
     have hvl:stL s' [intV kk,u32V inf]=stL sj [intV k2,u32V inf2]:=by
      injection hv with hv;exact congrArg Array.toList hv
     have h4:some (intV kk)=some (intV k2):=congrArg (fun l=>l[24]?) hvl;injection h4 with h4;injection h4 with _ h4;exact ⟨by rw [if_neg zO,h4];exact h3 h1,fun h=>by omega,rfl⟩
   obtain ⟨hkk,hinf,rfl⟩:=hres;have hkne:(kk !=0)=true:=(by rw [hkk];split<;>decide);refine z3c (t:=true) (congrArg (fun b=>one (Value.bool b)) hkne) (fun _=>?_) nT;refine z3e ?_;refine z3v 4 0 p4 rfl ⟨[p4],[]⟩ [.cells trT [.v (.int .i64 0),.v (.int .u32 0)]] fun r w3 hR3=>?_;have hB3:=hR3.toBelow;have hC3:=hC2.later hB3;have e43:=(hB3.block p4 (zpt e42)).trans e42;have eb3:=(hB3.block pb (zpt eb)).trans eb;have hh3:=zp1 (gs1:=[]) hh2 (zpy hB3) nofun;refine ⟨_,z1x (zv2 e43),rfl,?_⟩
   have hpb4':pb∉(⟨[p4],[]⟩:Gs):=fun hm=>by
    rcases hm with hm|hm
    ·rw [List.mem_singleton] at hm
     exact hpb4 hm
    ·cases hm
   refine z3u ?_;(conv=>whnf)
   refine ⟨[intV kk,u32V inf],zd4 eb3 hpb4' (fun j u hj=>by
    match j,hj with
    |0,hj=>exact hj
    |1,hj=>exact hj
    |j+2,hj=>simp at hj),rfl,?_⟩
   (conv=>whnf);refine zcd ?_;refine z3u ?_;(conv=>whnf);refine zco (zcg ?_) fun a w hq=>hq;(conv=>whnf);refine ⟨fun r w9 u hR hd=>?_⟩;rw [AV.val_den (x:= .agg #[.int .i64 kk,.int .u32 inf]) rfl hd];have hgr:=hR.growns
   have hCf:CpAt w9 c m ms L n p M2:=⟨(hgr.block c (zpt hC3.cpu) fun hm=>h4n (by rw [← List.mem_singleton.1 hm];exact List.mem_cons_self ..)).trans hC3.cpu,hC3.ul,ObjsAt.later (zt6 n p M2) hC3.mem hgr.size fun b hb=>hgr.block b (hC3.mem.lt b hb) fun hm=>h4n (by rw [← List.mem_singleton.1 hm];exact List.mem_cons_of_mem _ hb),hC3.cm⟩
   rw [hL, ← hSJ] at hCf;refine ⟨⟨inf,by rw [hkk],hinf⟩,hCf,?_⟩;have hz1:=hB1.size;have hz3:=hh3.size;exact ⟨hgr.os.trans (hh3.os.trans hB1.os),hgr.tape.trans (hh3.tape.trans hB1.tape),hgr.output.trans (hh3.output.trans hB1.output),Nat.le_trans hz1 (Nat.le_trans hz3 hgr.size),fun b hb hn=>(hgr.block b zO fun hm=>by rw [List.mem_singleton] at hm;omega).trans ((zpu hh3 zO fun hm=>hn (.inr hm)).trans (hB1.block b hb))⟩
end
end Go.Proofs.YtocafomnnkmjfaaGreat
