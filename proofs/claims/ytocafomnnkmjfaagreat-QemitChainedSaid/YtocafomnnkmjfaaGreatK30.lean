import Derived.Test.YtocafomnnkmjfaaGreatK29
set_option maxRecDepth 100000
set_option maxHeartbeats 2000000
namespace Go.Proofs.YtocafomnnkmjfaaGreat
open Go.RowKit
section
variable {w:World} {h c m:Nat} {ms:List Nat} {us:List Value} {n p:Nat} {M:MemP} {base ctx size:Int}
theorem zpf (ho:HoAt w h c m ms us n p M base ctx size) (hM:M.ok n p) {g:Nat} {gs:List Nat} {n2 p2:Nat} {N:MemP} (hU:ObjsAt w (g::gs) (memS 0 n2 p2 N)) (hN:N.ok n2 p2) (hs:0≤size∧size≤4000000) (he:∀ y,0≤y→y<size→M.get y=N.get y):
  Calls Tryz.prog 43 #[pV h,pV g] w fun e w'=>e= .returned (.bool true)∧Below w.heap.size w w':=by
 refine zfh [pV h,pV g] Tryz.func43 Tryz.ntmps43 rfl zS ?_;refine z3i ?_;(conv=>whnf);refine z25 ?_;refine z3i ?_;(conv=>whnf);refine z21 ?_;refine z3b (fun j:{j:Nat//(j:Int)≤size}=>[(0,one (pV h)),(1,one (pV g)),(5,one (.int .i64 (j.1:Int)))]) (fun _ w'=>Below w.heap.size w w') (fun j=>size.toNat-j.1) ⟨0,by omega⟩ Tn (fun r w' hR=>hR.toBelow) (fun j w' hJ=>?_);obtain ⟨j,hj⟩:=j;dsimp only at hJ⊢;have ho1:=ho.later hJ;have hU1:=zvw (zuc n2 p2 N) hU hJ;refine z25 ?_;refine z3i ?_;(conv=>whnf);refine ⟨_,zd1 (off:=0+3) ho1.host rfl,?_⟩;(conv=>whnf);refine z23 rfl (fun hc=>z3j (zcd ?_)) (fun hc=>?_)
 ·have hlt:(j:Int)<size:=of_decide_eq_true hc
  refine z3d (α:=Unit) (fun _=>[(0,one (pV h)),(1,one (pV g)),(5,one (.int .i64 (j:Int)))]) (fun _ w2=>Below w.heap.size w w2) ?_ fun _ w2 hB=>?_
  ·refine z21 ?_
   refine z3i ?_;(conv=>whnf);refine ⟨_,zd1 (off:=0+0) ho1.host rfl,?_⟩;(conv=>whnf);refine ⟨_,ho1.ptr,?_⟩;(conv=>whnf);refine ⟨(j:Int),by rw [wr32];omega,?_⟩;(conv=>whnf);refine ze3 rfl zK ho1.mem (fun w' hU=>zuo M n p (j:Int) w' m ms hU hM (by unfold word;omega)) ?_;(conv=>whnf);refine ⟨(j:Int),by rw [wr32];omega,?_⟩;(conv=>whnf);refine ze3 rfl zK hU1 (fun w' hU=>zuo N n2 p2 (j:Int) w' g gs hU hN (by unfold word;omega)) ?_;(conv=>whnf);refine z23 rfl (fun hc=>absurd hc (by rw [he (j:Int) zO hlt];simp)) (fun _=>z3j (zb4 (zca () Tn fun r w3 hR=>zdg hJ hR.toBelow hJ.size)))
  ·refine z3m ?_
   (conv=>whnf);refine ⟨((j+1:Nat):Int),by rw [show (j:Int)+1=((j+1:Nat):Int) by omega];exact wr64 zO,?_⟩;(conv=>whnf);exact zcc ⟨j+1,by omega⟩ Tn (fun r w3 hR=>zdg hB hR.toBelow hB.size) (by show size.toNat-(j+1)<size.toNat-j;omega)
 ·refine z3m ?_
  (conv=>whnf);refine zb7 (zcf (zb6 (zcd ?_)));refine z3i ?_;(conv=>whnf);refine z3m ?_;(conv=>whnf);refine zcg ?_;(conv=>whnf)
  exact zmp rfl fun w2 hB=>⟨rfl,zdg hJ hB hJ.size⟩
end
theorem znc:∀ (l:List SiteP) (k:Nat) (s:SiteP),l[k]?=some s→∀ j,j<6→(l.flatMap z5k)[k*6+j]?=(z5k s)[j]?
 |[],k,s,h,_,_=>by simp at h
 |q::l,0,s,h,j,hj=>by
  simp at h;subst h;rw [List.flatMap_cons,List.getElem?_append_left (by show _<6;omega),Nat.zero_mul,Nat.zero_add]
 |q::l,k+1,s,h,j,hj=>by
  rw [List.flatMap_cons,List.getElem?_append_right (by show 6≤_;omega),show (k+1)*6+j-(z5k q).length=k*6+j by show _-6=_;omega];exact znc l k s (by simpa using h) j hj
theorem z5b:∀ l:List SiteP,(l.flatMap z5k).length=l.length*6
 |[]=>rfl
 |s::l=>by rw [List.flatMap_cons,List.length_append,z5b l,List.length_cons];simp only [List.length_cons,List.length_nil];omega
theorem zfx {w:World} {A:Option Addr} {k:Nat} {l:List SiteP} {s:SiteP} (h:SlAt w w.heap.size A (l.flatMap z5k)) (hk:l[k]?=some s):∃ bb off,A=some ⟨bb,off,none⟩∧zac w Gs.nil bb (off+(k:Int).toNat*6) (z5k s):=by
 have hlt:k<l.length:=by
  rcases Nat.lt_or_ge k l.length with h1|h1
  ·exact h1
  ·rw [List.getElem?_eq_none h1] at hk;cases hk
 obtain ⟨bb,off,rfl,hb,hc⟩:=SlAt.open_ h (by rw [z5b];omega);refine ⟨bb,off,rfl,hb,(fun hm=>by rcases hm with hm|hm<;>cases hm),fun j u hj=>?_⟩
 have hj6:j<6:=by
  rcases Nat.lt_or_ge j 6 with h1|h1
  ·exact h1
  ·rw [List.getElem?_eq_none (by exact h1)] at hj;cases hj
 have:=hc (k*6+j) u ((znc l k s hk j hj6).trans hj)
 simpa [Nat.add_assoc] using this
theorem zmq (l:List SiteP) (tx:Value) (A:Option Addr) (cp:Nat) (hln:l.length≤1000000) (off:Int) (k:Nat) (hk:∃ s,l[k]?=some s∧s.off=off) (hn:∀ i s,i<k→l[i]?=some s→s.off≠off) (w:World) (hs:SlAt w w.heap.size A (l.flatMap z5k)):
  Calls Tryz.prog 41 #[.agg #[tx,.slice A l.length cp],.int .i64 off] w fun e w'=>e= .returned (.int .i64 (k:Int))∧Below w.heap.size w w':=by
 obtain ⟨sk,hsk,hof⟩:=hk
 have hkl:k<l.length:=by
  rcases Nat.lt_or_ge k l.length with h1|h1
  ·exact h1
  ·rw [List.getElem?_eq_none h1] at hsk;cases hsk
 refine zfh [.agg #[tx,.slice A l.length cp],.int .i64 off] Tryz.func41 Tryz.ntmps41 rfl zS ?_;refine z3i ?_;(conv=>whnf);refine z3f fun r w1 hR=>?_;obtain ⟨pc,us,e1,e2,e3⟩:=hR.own 0 _ rfl;obtain rfl:=ziw (us:=[tx,.slice A l.length cp]) e3;have hB1:=hR.toBelow;refine ⟨z6d [(1,.int .i64 off),(2,pV pc)],fun a' hf=>z6m ⟨z6k hf rfl,z6i hf 2 rfl e1,trivial⟩,?_⟩;clear hR e3;refine z25 ?_;refine z3i ?_;(conv=>whnf);refine z21 ?_;refine z3b (fun j:{j:Nat//j≤k}=>[(1,one (.int .i64 off)),(2,one (pV pc)),(5,one (.int .i64 (j.1:Int)))]) (fun _ w'=>Below w1.heap.size w1 w') (fun j=>k-j.1) ⟨0,by omega⟩ Tn (fun r w' hR=>hR.toBelow) (fun j w' hJ=>?_);obtain ⟨j,hj⟩:=j;dsimp only at hJ⊢;have e2':=(hJ.block pc (zpz e2)).trans e2
 have hs1:SlAt w' w'.heap.size A (l.flatMap z5k):=by
  have:=(hs.below hB1 (Nat.le_refl _)).more hB1.size;exact (this.below hJ (Nat.le_refl _)).more hJ.size
 obtain ⟨sj,hsj⟩:∃ s,l[j]?=some s:=⟨_,List.getElem?_eq_getElem zO⟩
 obtain ⟨bb,of2,hA,hcl⟩:=zfx hs1 hsj;refine z25 ?_;refine z3i ?_;(conv=>whnf);refine ⟨_,zd1 (off:=0+1) e2' rfl,?_⟩;(conv=>whnf);refine z23 rfl (fun _=>z3j (zcd ?_)) (fun hc=>absurd (of_decide_eq_false hc) zO);have hcl0:zac w' Gs.nil bb (of2+(j:Int).toNat*6+0) [.int .i64 sj.off]:=zfn hcl rfl;refine z3d (α:=Unit) (fun _=>[(1,one (.int .i64 off)),(2,one (pV pc)),(5,one (.int .i64 (j:Int)))]) (fun _ w2=>Below w1.heap.size w1 w2∧j<k) ?_ fun _ w2 hl=>?_
 ·refine z21 ?_
  refine z3i ?_;(conv=>whnf);refine ⟨_,zd1 (off:=0+1) e2' rfl,?_⟩;rw [hA];(conv=>whnf)
  (refine ⟨⟨by omega,by omega⟩,?_⟩;(conv=>whnf))
  refine ⟨_,hcl0,?_⟩;(conv=>whnf);refine z23 rfl (fun hc=>?_) (fun hc=>?_)
  ·have hc:sj.off=off:=of_decide_eq_true hc
   have hjk:j=k:=by
    rcases Nat.lt_or_ge j k with h1|h1
    ·exact absurd hc (hn j sj h1 hsj)
    ·omega
   subst hjk;refine z3i ?_;(conv=>whnf);refine z3m ?_;(conv=>whnf);refine zco (zcg ?_) fun a w hq=>hq;(conv=>whnf)
   exact zmp rfl fun w2 hB=>⟨rfl,zdj (zdj hB1 hJ) hB⟩
  ·have hc:¬sj.off=off:=of_decide_eq_false hc
   have hjk:j<k:=by
    rcases Nat.lt_or_ge j k with h1|h1
    ·exact h1
    ·have:j=k:=by omega
     subst this;rw [hsk] at hsj;injection hsj with hsj;subst hsj;exact absurd hof hc
   exact z3j (zb4 (zca () Tn fun r w3 hR=>⟨zdg hJ hR.toBelow hJ.size,hjk⟩))
 ·refine z3m ?_
  (conv=>whnf);refine ⟨((j+1:Nat):Int),by rw [show (j:Int)+1=((j+1:Nat):Int) by omega];exact wr64 zO,?_⟩;(conv=>whnf);exact zcc ⟨j+1,by omega⟩ Tn (fun r w3 hR=>zdg hl.1 hR.toBelow hl.1.size) (by show k-(j+1)<k-j;omega)
theorem ya3 (ws:List Int) (hl:ws.length=64) (hw:∀ x∈ws,word x) (w:World):Calls Tryz.prog 81 #[.agg (ws.map (Value.int .u32)).toArray] w fun e w'=>e= .returned (strV (yax ws))∧Below w.heap.size w w':=by
 refine zfh [.agg (ws.map (Value.int .u32)).toArray] Tryz.func81 Tryz.ntmps81 rfl zS ?_;refine z3i ?_;(conv=>whnf);refine z3f fun r w1 hR=>?_;obtain ⟨pc,us,e1,e2,e3⟩:=hR.own 0 _ rfl;obtain rfl:=ziw (us:=ws.map (Value.int .u32)) e3;have hB1:=hR.toBelow;refine ⟨z6d [(1,pV pc)],fun a' hf=>z6m ⟨z6i hf 1 rfl e1,trivial⟩,?_⟩;clear hR e3;refine z3i ?_;(conv=>whnf);refine z25 ?_;refine z3i ?_;(conv=>whnf);refine z21 ?_;refine z3b (fun j:{j:Nat//j≤64}=>[(1,one (pV pc)),(3,one (strV (yax (ws.take j.1)))),(4,one (.int .i64 (j.1:Int)))]) (fun _ w'=>Below w1.heap.size w1 w') (fun j=>64-j.1) ⟨0,by omega⟩ Tn (fun r w' hR=>hR.toBelow) (fun j w' hJ=>?_);obtain ⟨j,hj⟩:=j;dsimp only at hJ⊢;have e2':=(hJ.block pc (zpz e2)).trans e2;refine z3i ?_;(conv=>whnf);refine ⟨fun hc=>?_,fun hc=>?_⟩
 ·have hlt:j<64:=by simp at hc;omega
  obtain ⟨x,hx⟩:∃ x,ws[j]?=some x:=⟨_,List.getElem?_eq_getElem zO⟩
  have hsn:yax (ws.take (j+1))=yax (ws.take j)++putL x:=by
   rw [List.take_add_one,hx];exact ya1 _ _
  have hcl:zac w' Gs.nil pc (0+(j:Int).toNat*1) [.int .u32 x]:=zd1 e2' (by rw [Nat.zero_add,Nat.mul_one,Int.toNat_natCast,List.getElem?_map,hx];rfl);(conv=>whnf);refine z3d (α:=Unit) (fun _=>[(1,one (pV pc)),(3,one (strV (yax (ws.take (j+1))))),(4,one (.int .i64 (j:Int)))]) (fun _ w2=>Below w1.heap.size w1 w2) ?_ fun _ w2 hB=>?_
  ·refine z21 ?_
   refine z3m ?_;(conv=>whnf);refine zz9 (size:=1) pc 0 64 (j:Int) rfl rfl rfl rfl rfl rfl zO zO ?_;(conv=>whnf);refine ⟨_,hcl,?_⟩;(conv=>whnf);refine ze2 rfl zK (fun r w' hR=>zzi x w' (hw x (List.mem_of_getElem? hx))) ?_;(conv=>whnf);refine zz1 (yax (ws.take j)) (putL x) rfl rfl rfl (by rw [ya0,List.length_take,show (putL x).length=4 from zzb _ _];omega) ?_;(conv=>whnf);exact zb4 (zca () (aI rfl (aI ((by rw [hsn];rfl)) (aI rfl trivial))) fun r w3 hR=>zdg hJ hR.toBelow hJ.size)
  ·refine z3m ?_
   (conv=>whnf);refine ⟨((j+1:Nat):Int),by rw [show (j:Int)+1=((j+1:Nat):Int) by omega];exact wr64 zO,?_⟩;(conv=>whnf);exact zcc ⟨j+1,by omega⟩ Tn (fun r w3 hR=>zdg hB hR.toBelow hB.size) (by show 64-(j+1)<64-j;omega)
 ·have hj:j=64:=by simp at hc;omega
  subst hj;have ht:ws.take 64=ws:=List.take_of_length_le zO;rw [ht];(conv=>whnf);refine zcf (zb6 (zcd ?_));refine z3i ?_;(conv=>whnf);refine z3m ?_;(conv=>whnf);refine zcg ?_;(conv=>whnf)
  exact zmp rfl fun w2 hB=>⟨rfl,zdj (zdj hB1 hJ) hB⟩
theorem zs5 (b:Blk) (hb:b.ok) (hv:z9g b=true) (A1 A2 A3:Option Addr) (c1 c2 c3:Nat) (w:World) (h3:OpsAt w w.heap.size A3 b.ops):Calls Tryz.prog 23 #[.agg #[.slice A1 b.at_.length c1,.slice A2 b.pages.length c2,.slice A3 b.ops.length c3]] w fun e w'=>e= .returned (.int .u32 (lenE b))∧Below w.heap.size w w':=by
 obtain ⟨⟨hl1,hl2⟩,hl3,hl4⟩:=z9q hv;have hlr:=zs1 hb hv
 obtain ⟨o,ho⟩:∃ o,b.ops[b.ops.length-1]?=some o:=⟨_,List.getElem?_eq_getElem zO⟩
 have hlast:b.ops.getLast?=some o:=by rw [List.getLast?_eq_getElem?];exact ho
 have hlen:lenE b=(b.at_.length:Int)-(if o.code=22 then 1 else 0):=by
  unfold lenE;rw [hlast];simp
 refine zfh [.agg #[.slice A1 b.at_.length c1,.slice A2 b.pages.length c2,.slice A3 b.ops.length c3]] Tryz.func23 Tryz.ntmps23 rfl zS ?_
 obtain ⟨bb,off,rfl,hcell⟩:∃ bb off,A3=some ⟨bb,off,none⟩∧zac w Gs.nil bb (off+((b.ops.length-1:Nat):Int).toNat*5) (opC o):=by
  obtain ⟨bb,off,rfl,_⟩:=OpsAt.open_ h3 hl3;exact ⟨bb,off,rfl,zfv h3 (fun hm=>by rcases hm with hm|hm<;>cases hm) ho⟩
 have hcell:=zfn (k:=0) hcell rfl;refine z3i ?_;(conv=>whnf);refine z3i ?_;(conv=>whnf);refine z3d (α:=Unit) (fun _=>[(3,one (.int .i64 (lenE b)))]) (fun _ w2=>Below w.heap.size w w2) ?_ fun _ w2 hB=>?_
 ·refine z3i ?_
  (conv=>whnf);rw [show decide ((b.ops.length:Int)>0)=true from decide_eq_true zO];refine kA ?_;refine ⟨((b.ops.length-1:Nat):Int),by rw [show (b.ops.length:Int)-1=((b.ops.length-1:Nat):Int) by omega];exact wr64 zO,?_⟩;refine kB ?_
  (refine ⟨⟨by omega,by omega⟩,?_⟩;(conv=>whnf))
  refine kA ?_;refine ⟨_,hcell,?_⟩;refine kB ?_;refine z23 (t:=decide (o.code=22)) rfl (fun hc=>?_) (fun hc=>?_)
  ·have hc:o.code=22:=of_decide_eq_true hc
   refine z3m ?_;(conv=>whnf);refine ⟨(b.at_.length:Int)-1,wr64 zO,?_⟩;(conv=>whnf);rw [hlen,if_pos hc];exact zca () (aI rfl trivial) fun r w3 hR=>hR.toBelow
  ·have hc:¬o.code=22:=of_decide_eq_false hc
   rw [hlen,if_neg hc,Int.sub_zero];exact z3j (zca () (aI rfl trivial) fun r w3 hR=>hR.toBelow)
 ·refine z3i ?_
  (conv=>whnf);refine ⟨lenE b,by rw [wr32];omega,?_⟩;(conv=>whnf);refine z3m ?_;(conv=>whnf);refine zcg ?_;(conv=>whnf)
  exact zmp rfl fun w2 hB2=>⟨rfl,zdj hB hB2⟩
structure SkOk (E:Em) (N:Int) (it:It) (s:Sk):Prop where
 kind:1≤s.kind∧s.kind≤6
 live:s.live=0∨s.live=E.live
 index:0≤s.index∧s.index<N
 outer:¬(s.kind=2∨s.kind=3)→s.live=0∧s.index=0
 target:word s.target
 tgt0:s.kind≠4→s.kind≠6→s.target=0
 back:s.back=if s.kind=6 then 12 else 0
 ins3:s.kind=3→23≤it.i.op∧it.i.op≤26
 ins:s.kind≠3→it.i=⟨48,0,0,0,0⟩
def SitesOk (E:Em) (N:Int) (l:List It):Prop:=∀ it∈l,∀ s,it.s=some s→SkOk E N it s
section
variable {E:Em} {N:Int}
theorem SitesOk.nil:SitesOk E N []:=nofun
theorem SitesOk.app {l m:List It} (h1:SitesOk E N l) (h2:SitesOk E N m):SitesOk E N (l++m):=fun it h=>(List.mem_append.1 h).elim (h1 it) (h2 it)
theorem SitesOk.cons {it:It} {l:List It} (h1:∀ s,it.s=some s→SkOk E N it s) (h2:SitesOk E N l):SitesOk E N (it::l):=fun x h=>by
 rcases List.mem_cons.1 h with rfl|h
 ·exact h1
 ·exact h2 x h
theorem SitesOk.no {l:List It} (h:∀ it∈l,it.s=none):SitesOk E N l:=fun it hm s hs=>by rw [h it hm] at hs;cases hs
theorem zvd (op d a n:Int):SitesOk E N [iI op d a n]:= .no fun it h=>by rw [List.mem_singleton.1 h];rfl
theorem zvg (x y:It) (hx:x.s=none) (hy:y.s=none):SitesOk E N [x,y]:= .no fun it h=>by
 rcases List.mem_cons.1 h with rfl|h
 ·exact hx
 ·rw [List.mem_singleton.1 h];exact hy
theorem zu9 (d n:Int):SitesOk E N (con2 d n):=zvg _ _ rfl rfl
theorem zu8 (d n:Int):SitesOk E N (conE d n):=by unfold conE;split;exact zvd _ _ _ _;exact zu9 _ _
theorem zve (E':Em) (v s:Int):SitesOk E N (rdE E' v s):=by unfold rdE;split;exact .nil;exact zvd _ _ _ _
theorem zva (E':Em) (v:Int):SitesOk E N (dnE E' v):=by unfold dnE;split;exact zvd _ _ _ _;exact .nil
theorem zvf (E':Em):∀ j,SitesOk E N (svTo E' j)
 |0=> .nil
 |j+1=> .app (zvf E' j) (by unfold sv1;split;exact zvd _ _ _ _;exact .nil)
theorem zvb (E':Em):∀ j,SitesOk E N (zjz E' j)
 |0=> .nil
 |j+1=> .app (zvb E' j) (by unfold ent1;split;exact zvd _ _ _ _;exact .nil)
theorem zu7 (E':Em) (o:BOp):SitesOk E N (adE E' o):=by unfold adE;split;exact zvd _ _ _ _;exact .app (zu9 _ _) (.no fun it h=>by rw [List.mem_singleton.1 h];rfl)
theorem z50 {kind k:Int} (hN:0≤k∧k<N) (hk:kind=2) (i:QI) (hi:i=⟨48,0,0,0,0⟩):∀ s,some (skIn E kind k)=some s→SkOk E N ⟨i,some (skIn E kind k)⟩ s:=fun s h=>by
 injection h with h;subst h;subst hk;subst hi;exact ⟨⟨(by decide:(1:Int)≤2),(by decide:(2:Int)≤6)⟩,.inr rfl,hN,fun h=>absurd (Or.inl rfl) h,yap,fun _ _=>rfl,rfl,fun h=>absurd h (by decide:¬(2:Int)=3),fun _=>rfl⟩
theorem z5z {k:Int} (hN:0≤k∧k<N) (i:QI) (hi:23≤i.op∧i.op≤26):∀ s,some (skIn E 3 k)=some s→SkOk E N ⟨i,some (skIn E 3 k)⟩ s:=fun s h=>by
 injection h with h;subst h;exact ⟨⟨(by decide:(1:Int)≤3),(by decide:(3:Int)≤6)⟩,.inr rfl,hN,fun h=>absurd (Or.inr rfl) h,yap,fun _ _=>rfl,rfl,fun _=>hi,fun h=>absurd rfl h⟩
theorem z52 {s0:Sk} (hN:0<N) (h1:s0.kind=1∨s0.kind=4∨s0.kind=5∨s0.kind=6) (h2:s0.live=0) (h3:s0.index=0) (h4:word s0.target) (h5:s0.kind≠4→s0.kind≠6→s0.target=0) (h6:s0.back=if s0.kind=6 then 12 else 0):∀ s,(zq1 s0).s=some s→SkOk E N (zq1 s0) s:=fun s h=>by
 injection h with h;subst h;exact ⟨by omega,.inl h2,by omega,fun _=>⟨h2,h3⟩,h4,h5,h6,fun h=>by omega,fun _=>rfl⟩
theorem zlf (hN:0<N) {n:Int} (hn:word n):SitesOk E N (exE E n):= .app (zvf E 19) (.cons (z52 hN (.inr (.inl rfl)) rfl rfl hn (fun h=>absurd rfl h) rfl) .nil)
theorem zat {k:Int} (hN:0≤k∧k<N) {o:BOp} (_hc:16≤o.code∧o.code≤19):SitesOk E N (accE E k o):=by
 have hl:ldE o.code=24∨ldE o.code=23:=by unfold ldE;split;exact .inl rfl;exact .inr rfl
 have h2:SitesOk E N [zq1 (skIn E 2 k)]:= .cons (z50 hN rfl _ rfl) .nil
 unfold accE
 split
 ·exact h2
 ·refine .app (zve E _ _) (.app (zu7 E o) (.app (zu8 _ _) (.app (.app (zvd 35 13 12 2) h2) ?_)))
  split
  ·exact .app (zve E _ _) (.cons (z5z hN _ (by show 23≤ldE o.code+2∧ldE o.code+2≤26;omega)) .nil)
  ·exact .app (.cons (z5z hN _ (by show 23≤ldE o.code∧ldE o.code≤26;omega)) .nil) (zva E _)
theorem zvc {l:List It} (h:(l.all fun it=>it.s.isNone)=true):SitesOk E N l:= .no fun it hm=>by
 have:=List.all_eq_true.1 h it hm;exact Option.isNone_iff_eq_none.1 this
theorem zoc (hp:word E.pred) {k:Int} (hN:0≤k∧k<N) {o:BOp} (ho:word o.n):SitesOk E N (zn2 E k o):=by
 have hN0:0<N:=(by omega);have h2:SitesOk E N [zq1 (skIn E 2 k)]:= .cons (z50 hN rfl _ rfl) .nil;unfold zn2;by_cases c1:o.code=1
 ·rw [if_pos c1];exact .app (zu8 _ _) (zva E _)
 rw [if_neg c1];by_cases c2:o.code=2
 ·rw [if_pos c2];exact .app (zve E _ _) (.app (zvc rfl) (zva E _))
 rw [if_neg c2];by_cases c3:o.code=12
 ·rw [if_pos c3];exact .app (zve E _ _) (.app (zve E _ _) (.app (zvc rfl) (zva E _)))
 rw [if_neg c3];by_cases c4:o.code=13
 ·rw [if_pos c4];exact .app (zve E _ _) (.app (zve E _ _) (.app (zvc rfl) (zva E _)))
 rw [if_neg c4];by_cases c5:3≤o.code∧o.code≤15
 ·rw [if_pos c5];exact .app (zve E _ _) (.app (zve E _ _) (.app (zvc rfl) (zva E _)))
 rw [if_neg c5];by_cases c6:16≤o.code∧o.code≤19
 ·rw [if_pos c6];exact zat hN c6
 rw [if_neg c6];by_cases c7:o.code=21
 ·rw [if_pos c7];exact .app (zve E _ _) (.app (zvd _ _ _ _) h2)
 rw [if_neg c7];by_cases c8:o.code=22
 ·rw [if_pos c8];exact h2
 rw [if_neg c8];by_cases c9:o.code=23
 ·rw [if_pos c9];exact .app (zve E _ _) (.app (zvd _ _ _ _) (zlf hN0 ho))
 rw [if_neg c9];by_cases c10:o.code=24
 ·rw [if_pos c10];exact zlf hN0 ho
 rw [if_neg c10];by_cases c11:o.code=25
 ·rw [if_pos c11]
  exact .app (zve E _ _) (.app (zvc rfl) (.app (zvf E 19) (.app (zvd _ _ _ _) (.app (zu9 _ _) (.app (zvd 33 10 11 2) (.cons (z52 hN0 (.inr (.inr (.inr rfl))) rfl rfl hp (fun _ h=>absurd rfl h) rfl) (.cons (z52 hN0 (.inr (.inr (.inl rfl))) rfl rfl yap (fun _ _=>rfl) rfl) .nil)))))))
 rw [if_neg c11];exact .nil
theorem zf7 {s s1:Ck} {o:BOp} {x y:Bool} (h:zf3 s o x y=some s1):(o.code=20→o.n=(s.marks:Int)∧s1.marks=s.marks+1)∧(o.code≠20→s1.marks=s.marks):=by
 unfold zf3 at h;by_cases hc:(znt o&&zyp s o x y)=true
 ·rw [if_pos hc] at h
  by_cases c20:o.code=20
  ·rw [if_pos (by simpa using c20)] at h
   by_cases hm:(o.n==(s.marks:Int))=true
   ·rw [if_pos hm] at h
    injection h with h;subst h;exact ⟨fun _=>⟨by simpa using hm,rfl⟩,fun h=>absurd c20 h⟩
   ·rw [if_neg hm] at h;cases h
  ·rw [if_neg (by simpa using c20)] at h
   split at h
   ·injection h with h
    subst h;exact ⟨fun h=>absurd h c20,fun _=>rfl⟩
   ·cases h
 ·rw [if_neg hc] at h;cases h
theorem zgd:∀ (l:List BOp) (s s':Ck),zga s l=some s'→s.marks≤s'.marks
 |[],s,s',h=>by injection h with h;subst h;exact Nat.le_refl _
 |o::l,s,s',h=>by
  unfold zga at h
  split at h
  ·rename_i s1 hnx
   have:=zgd l s1 s' h;obtain ⟨h1,h2⟩:=zf7 hnx;by_cases c:o.code=20
   ·have:=(h1 c).2;omega
   ·have:=h2 c;omega
  ·cases h
theorem zgu (hp:word E.pred):∀ (l:List BOp) (s s':Ck) (k:Int),zga s l=some s'→(s'.marks:Int)=N→(0≤k∧k<N)→(∀ o∈l,word o.n)→SitesOk E N (zgo E k l)
 |[],_,_,_,_,_,_,_=> .nil
 |o::l,s,s',k,h,hN,hk,ho=>by
  unfold zga at h
  split at h
  ·rename_i s1 hnx
   have hm:=zgd l s1 s' h;obtain ⟨h1,h2⟩:=zf7 hnx
   have hk':0≤ztx o k∧ztx o k<N:=by
    unfold ztx;by_cases c:o.code=20
    ·rw [if_pos c];have:=h1 c;omega
    ·rw [if_neg c];exact hk
   exact .app (zoc hp hk' (ho o (List.mem_cons_self ..))) (zgu hp l s1 s' _ h hN hk' fun p hp=>ho p (List.mem_cons_of_mem _ hp))
  ·cases h
end
theorem yao {b:Blk} {a:List Int} {ctx size pred:Int} (hb:b.ok) (hv:z9g b=true) (hp:word pred):SitesOk (emE b a size pred) (b.at_.length:Int) (yag b a ctx size pred):=by
 obtain ⟨hh,s,hs,hm⟩:=z9r.1 hv;obtain ⟨hl,_⟩:=z9q hv;have hN:(0:Int)<(b.at_.length:Int):=(by omega);refine .app ?_ (zgu hp b.ops _ s 0 hs (by rw [hm]) zO fun o ho=>(hb.ops o ho).n);unfold entE;refine .app (zu9 _ _) (.app ?_ (zvb _ 19));exact .app (l:=[iI 23 10 15 112,iI 23 11 15 116,iI 16 10 10 (lenE b),iI 35 11 10 2]) (zvc rfl) (.cons (z52 hN (.inl rfl) rfl rfl yap (fun _ _=>rfl) rfl) (zvd _ _ _ _))
theorem zj4 (E:Em) (ctx n:Int):8≤(entE E ctx n).length:=by
 unfold entE con2;simp only [List.length_append,List.length_cons,List.length_nil];omega
theorem yam (b:Blk) (a:List Int) (ctx size pred:Int):8≤(yag b a ctx size pred).length:=by
 have:=zj4 (emE b a size pred) ctx (lenE b);unfold yag;rw [List.length_append];omega
theorem yaj {b:Blk} {a:List Int} {ctx size pred:Int} {k:Nat} {it:It} {s:Sk} (hk:(yag b a ctx size pred)[k]?=some it) (hs:it.s=some s) (h0:s.back≠0):8≤k:=by
 rcases Nat.lt_or_ge k 8 with h|h
 ·exfalso
  have h8:=zj4 (emE b a size pred) ctx (lenE b);unfold yag at hk;rw [List.getElem?_append_left zO] at hk;unfold entE con2 at hk
  rcases (by omega:k=0∨k=1∨k=2∨k=3∨k=4∨k=5∨k=6∨k=7) with rfl|rfl|rfl|rfl|rfl|rfl|rfl|rfl<;>(injection hk with hk;subst hk;first|(simp [iI] at hs;done)|(injection hs with hs;subst hs;exact h0 rfl))
 ·exact h
theorem z5v:∀ (l:List It) (n idx:Nat) (s:SiteP),(z5q n l)[idx]?=some s→∃ k it sk,l[k]?=some it∧it.s=some sk∧s=z5l (n+k) sk
 |[],n,idx,s,h=>by simp [z5q] at h
 |x::l,n,idx,s,h=>by
  unfold z5q at h
  cases hx:x.s with
  |none=>
   rw [hx] at h;obtain ⟨k,it,sk,h1,h2,h3⟩:=z5v l (n+1) idx s h;exact ⟨k+1,it,sk,by simpa using h1,h2,by rw [h3,show n+1+k=n+(k+1) by omega]⟩
  |some s0=>
   rw [hx] at h
   match idx with
   |0=>
    have h:z5l n s0=s:=(by simpa using h);exact ⟨0,x,s0,rfl,hx,h.symm⟩
   |idx+1=>
    obtain ⟨k,it,sk,h1,h2,h3⟩:=z5v l (n+1) idx s (by simpa using h);exact ⟨k+1,it,sk,by simpa using h1,h2,by rw [h3,show n+1+k=n+(k+1) by omega]⟩
theorem z5t:∀ (l:List It) (n i j:Nat) (s t:SiteP),i<j→(z5q n l)[i]?=some s→(z5q n l)[j]?=some t→s.off<t.off
 |[],n,i,j,s,t,_,h,_=>by simp [z5q] at h
 |x::l,n,i,j,s,t,hij,h,h2=>by
  unfold z5q at h h2
  cases hx:x.s with
  |none=>
   rw [hx] at h h2;exact z5t l (n+1) i j s t hij h h2
  |some s0=>
   rw [hx] at h h2
   match j,hij with
   |j+1,hij=>
    match i with
    |0=>
     have h:z5l n s0=s:=(by simpa using h);obtain ⟨k,it,sk,_,_,h3⟩:=z5v l (n+1) j t (by simpa using h2);rw [h3, ← h];show 4*(n:Int)<4*((n+1+k:Nat):Int);omega
    |i+1=>exact z5t l (n+1) i j s t zO (by simpa using h) (by simpa using h2)
structure BuiltOk (l:List SiteP) (n:Int):Prop where
 at_:∀ (i:Nat) (s:SiteP),l[i]?=some s→0≤s.off∧s.off%4=0∧s.off+4≤n∧0≤s.const∧s.const+8≤n
 inc:∀ (i:Nat) (s t:SiteP),l[i]?=some s→l[i+1]?=some t→s.off<t.off
theorem yak {b:Blk} {a:List Int} {ctx size pred:Int} (hb:b.ok) (hv:z9g b=true) (hp:word pred):BuiltOk (z5q 0 (yag b a ctx size pred)) (4*((yag b a ctx size pred).length:Int)):=by
 refine ⟨fun i s hs=>?_,fun i s t hs ht=>z5t _ 0 i (i+1) s t zO hs ht⟩;obtain ⟨k,it,sk,h1,h2,rfl⟩:=z5v _ 0 i s hs
 have hkl:k<(yag b a ctx size pred).length:=by
  rcases Nat.lt_or_ge k (yag b a ctx size pred).length with h|h
  ·exact h
  ·rw [List.getElem?_eq_none h] at h1;cases h1
 have h8:=yam b a ctx size pred;have hsk:=yao (ctx:=ctx) hb hv hp it (List.mem_of_getElem? h1) sk h2;have hbk:=hsk.back;rw [Nat.zero_add];unfold z5l;dsimp only;by_cases h0:sk.back=0
 ·rw [if_pos h0];omega
 ·have h12:sk.back=12:=by
   rw [hbk] at h0⊢
   split at h0
   ·rename_i h6;rw [if_pos h6]
   ·exact absurd rfl h0
  have:=yaj h1 h2 h0;rw [if_neg h0,h12];omega
theorem z5s:∀ (l:List It) (n:Nat),(z5q n l).length≤l.length
 |[],_=>Nat.le_refl _
 |x::l,n=>by
  have:=z5s l (n+1);unfold z5q
  split
  ·rw [List.length_cons];omega
  ·rw [List.length_cons,List.length_cons];omega
theorem zbz (o:BOp) (vs:List Int) (M:MemP) (t:Tl):zbr o vs (M.tl t)=⟨(zbr o vs M).vs,(zbr o vs M).stays,(zbr o vs M).mem.tl t⟩:=by
 unfold zbr;by_cases c1:o.code=1
 ·rw [if_pos c1,if_pos c1]
 rw [if_neg c1,if_neg c1];by_cases c2:o.code=2
 ·rw [if_pos c2,if_pos c2]
 rw [if_neg c2,if_neg c2];by_cases c3:o.code=16∨o.code=17
 ·rw [if_pos c3,if_pos c3,zdd,ztn]
  cases M.bad ((getV vs o.a+o.n)%4294967296) 1 0 (szN o.code)<;>rfl
 rw [if_neg c3,if_neg c3];by_cases c4:o.code=18∨o.code=19
 ·rw [if_pos c4,if_pos c4,zdd,z7n]
 rw [if_neg c4,if_neg c4];by_cases c5:o.code=21
 ·rw [if_pos c5,if_pos c5]
 rw [if_neg c5,if_neg c5];by_cases c6:o.code=22
 ·rw [if_pos c6,if_pos c6]
 rw [if_neg c6,if_neg c6];by_cases c7:zrf o.code=true
 ·rw [if_pos c7,if_pos c7]
 ·rw [if_neg c7,if_neg c7]
theorem zk2 (ats:List Int) (t:Tl):∀ (l:List BOp) (i:Int) (vs:List Int) (M:MemP),zkx ats l i vs (M.tl t)=⟨(zkx ats l i vs M).out,(zkx ats l i vs M).mem.tl t⟩
 |[],_,_,_=>rfl
 |o::l,i,vs,M=>by
  unfold zkx;rw [zbz];dsimp only
  split
  ·rfl
  ·split
   ·rfl
   ·split
    ·exact zk2 ats t l _ _ _
    ·rfl
theorem zkw (b:Blk) (vs:List Int) (M:MemP) (t:Tl):zku b vs (M.tl t)=⟨(zku b vs M).out,(zku b vs M).mem.tl t⟩:=by
 unfold zku
 split
 ·exact zk2 _ t _ _ _ _
 ·rfl
def zqj (junk:Int) (k:Nat):Int→Int:=fun j=>if 1≤j∧j<(k:Int) then junk*j%4294967296 else 0
def zqr (base junk:Int) (k:Nat):St:=⟨base,zqj junk k,0,0,0,0,0,0,0⟩
theorem zqk (junk:Int) (k:Nat) (hk:1≤k):regU (zqj junk k) (k:Int) (junk*(k:Int)%4294967296)=zqj junk (k+1):=by
 funext j
 unfold regU zqj;by_cases h:j=(k:Int)
 ·subst h;rw [if_pos rfl,if_pos zO]
 ·rw [if_neg h]
  by_cases h2:1≤j∧j<(k:Int)
  ·rw [if_pos h2,if_pos zO]
  ·rw [if_neg h2,if_neg zO]
theorem zqt (B junk:Int):zqr B junk 1=⟨B,fun _=>0,0,0,0,0,0,0,0⟩:=by
 have:zqj junk 1=fun _=>0:=by
  funext j
  unfold zqj;rw [if_neg zO]
 unfold zqr;rw [this]
abbrev zSt:List CV:=List.map CV.v (Value.agg #[Value.int IntKind.u32 0,Value.int IntKind.u32 0,Value.int IntKind.u32 0,Value.int IntKind.u32 0,Value.int IntKind.u32 0,Value.int IntKind.u32 0,Value.int IntKind.u32 0,Value.int IntKind.u32 0,Value.int IntKind.u32 0,Value.int IntKind.u32 0,Value.int IntKind.u32 0,Value.int IntKind.u32 0,Value.int IntKind.u32 0,Value.int IntKind.u32 0,Value.int IntKind.u32 0,Value.int IntKind.u32 0,Value.int IntKind.u32 0,Value.int IntKind.u32 0,Value.int IntKind.u32 0,Value.int IntKind.u32 0,Value.int IntKind.u32 0,Value.int IntKind.u32 0,Value.int IntKind.i64 0,Value.int IntKind.i64 0]).cells.toList
theorem ybo (B:Int):z3z zSt 0 [CV.v (Value.int IntKind.u32 B)]=stC ⟨B,fun _=>0,0,0,0,0,0,0,0⟩ []:=rfl
theorem zqu (B junk:Int):z3z zSt 0 (z3z zSt 0 [CV.v (Value.int IntKind.u32 B)])=stC (zqr B junk 1) []:=by
 rw [zqt,ybo];exact z32 rfl
theorem zdv {x:Int} (h:0≤x∧x<8):bits .and .i64 x 3=x%4:=by
 rcases (by omega:x=0∨x=1∨x=2∨x=3∨x=4∨x=5∨x=6∨x=7) with rfl|rfl|rfl|rfl|rfl|rfl|rfl|rfl<;>rfl
theorem zqc (g:MemP) (j:Nat) (M:MemP):zp8 g (j+1) M=(((zp8 g j M).pokeAt ((256*j:Nat):Int) (g.page j) (g.page j).length).protect j (g.rightsAt j%4)):=rfl
theorem zqi (f:Nat) (x:Int) (j:Nat) (M:MemP):zqe f x (j+1) M=(zqe f x j M).protect (f+j) x:=rfl
theorem zp1 {W:World} {gs:List Nat} {pb:Nat} {us:List Value} {t:TypeId} (h:W.heap[pb]?=some (.cells us.toArray t (0,0))) (hn:pb∉gs):zac W (Gs.flat ⟨[],gs⟩) pb 0 us:=
 zfq (zd0 h) fun hm=>by
  rcases hm with hm|hm
  ·cases hm
  ·exact hn hm
theorem zr2 {W:World} {c:Nat} {gs:List Nat} {U U':List Ow} {fid:FuncId} {args:List AV} {us:List Value} (v:Value) {K:Value→(World→Prop)→Prop} (hu:avals args=some us) (hok:fnOk Tryz.prog fid=true)
  (hc:∀ w,ObjsAt w (c::gs) U→Calls Tryz.prog fid (pV c::us).toArray w fun e w'=>e= .returned v∧ObjsAt w' (c::gs) U'∧GrownBys w w' (c::gs)) (hK:K v fun w=>ObjsAt w (c::gs) U'):JmpJ Tryz.prog W ⟨[],c::gs⟩ (fun w=>ObjsAt w (c::gs) U) fid (one (pV c)::args) K:=by
 refine .one hok v _ (fun w us' hh hj hd=>?_) hK;obtain ⟨u1,l1,rfl,d1,d2⟩:=hd;obtain rfl:=zi6 d1;obtain rfl:=zcs hu d2
 exact (hc w hj).mono fun e w' ⟨he,h1,h2⟩=>⟨he,zp7 hh (zp5 h2) fun b hb=> .inl hb,h1⟩
theorem zr1 {W:World} {gs:List Nat} {J:World→Prop} {fid:FuncId} {args:List AV} {us:List Value} {g:Nat} {gs0:List Nat} {n p:Nat} {M:MemP} (v:Value) {K:Value→(World→Prop)→Prop} (hu:avals args=some us) (hok:fnOk Tryz.prog fid=true) (hJ:∀ w w',J w→Below w.heap.size w w'→J w') (hU:ObjsAt W (g::gs0) (memS 0 n p M)) (hd:∀ b∈g::gs0,b∉gs)
  (hc:∀ w,ObjsAt w (g::gs0) (memS 0 n p M)→Calls Tryz.prog fid us.toArray w fun e w'=>e= .returned v∧ObjsAt w' (g::gs0) (memS 0 n p M)∧GrownBys w w' (g::gs0)) (hK:K v J):JmpJ Tryz.prog W ⟨[],gs⟩ J fid args K:=
 zrw v hu hok hJ (fun w hh hj=>by
  have h1:=ObjsAt.later (zuc n p M) hU hh.size fun b hb=>zp0 hh (hU.lt b hb) (hd b hb)
  exact (hc w h1).mono fun e w' ⟨he,h2,h3⟩=>⟨he,zvu (zuc n p M) h1 h2 h3⟩) hK
theorem zv8 {w w':World} {g:Nat} {gs0 gs:List Nat} {n p:Nat} {M:MemP} (hU:ObjsAt w (g::gs0) (memS 0 n p M)) (hh:Held w ⟨[],gs⟩ w') (hd:∀ b∈g::gs0,b∉gs):ObjsAt w' (g::gs0) (memS 0 n p M):=
 ObjsAt.later (zuc n p M) hU hh.size fun b hb=>zp0 hh (hU.lt b hb) (hd b hb)
theorem zdi {w w1 w2:World} {gs:List Nat} (hB:Below w.heap.size w w1) (hh:Held w1 ⟨[],gs⟩ w2) (hg:∀ b∈gs,w.heap.size≤b):Below w.heap.size w w2:=
 ⟨hh.os.trans hB.os,hh.tape.trans hB.tape,hh.output.trans hB.output,Nat.le_trans hB.size hh.size,fun k hk=>(zp0 hh (Nat.lt_of_lt_of_le hk hB.size) fun hm=>by have:=hg k hm;omega).trans (hB.block k hk)⟩
theorem zvx {w w':World} {gs:List Nat} {c:Nat} {us:List Value} {n p:Nat} {M:MemP} (h:NewObjs w w' (c::gs) (cpuU 0 us n p M)):∃ m ms,gs=m::ms∧w'.heap[c]?=some (.cells (us++[pV m]).toArray cpuT (0,0))∧ObjsAt w' (m::ms) (memS 0 n p M)∧c∉m::ms∧(∀ b∈c::m::ms,w.heap.size≤b):=by
 obtain ⟨m,ms,rfl,h1,h2,h3⟩:=zhp h.at_;exact ⟨m,ms,rfl,h1,h2,h3,h.fresh⟩
section
variable {w:World}
theorem zu1 {g0:Nat} {gs0:List Nat} {G:Nat} {gm:MemP} (hU:ObjsAt w (g0::gs0) (memS 0 (256*G) G gm)) (hg:gm.ok (256*G) G) (ws:List Int) (hwl:ws.length=64) (hww:∀ x∈ws,word x) (code:List Int) (hcb:∀ x∈code,0≤x∧x<256) (hcl:code.length≤1000000) (off:Nat) (hoff:off≤1000) (junk:Int) (P:Nat) (hP:P=G+2+(4*off+code.length+255)/256) (hP2:P≤4096):
  Calls Tryz.prog 28 #[pV g0,.agg (u32L ws).toArray,strV code,intV (off:Int),.int .u32 junk] w fun e w'=>∃ h c m ms,e= .returned (pV h)∧HoAt w' h c m ms (stL (zqr ((256*(G+1)+4*off:Nat):Int) junk 16) []) (256*P) P (zqd gm G P (256*(G+1)+4*off) ws code) ((256*(G+1)+4*off:Nat):Int) ((256*G:Nat):Int) ((256*G:Nat):Int)∧(∀ b∈h::c::m::ms,w.heap.size≤b)∧Below w.heap.size w w':=by
 obtain ⟨D,hD⟩:∃ D,D=(4*off+code.length+255)/256:=⟨_,rfl⟩
 have hPD:P=G+2+D:=(by omega);refine zfh [pV g0,.agg (u32L ws).toArray,strV code,intV (off:Int),.int .u32 junk] Tryz.func28 Tryz.ntmps28 rfl zS ?_;refine z3i ?_;(conv=>whnf);refine z3f fun r w1 hR=>?_;obtain ⟨px,us,e1,e2,e3⟩:=hR.own 0 _ rfl;obtain rfl:=ziw (us:=u32L ws) e3;have hB1:=hR.toBelow;have hpx:=zoi hR e1;refine ⟨z6d [(0,pV g0),(2,strV code),(3,intV (off:Int)),(4,.int .u32 junk),(6,pV px)],fun a' hf=>z6m ⟨z6k hf rfl,z6k hf rfl,z6k hf rfl,z6k hf rfl,z6i hf 6 rfl e1,trivial⟩,?_⟩;have hU1:=zvw (zuc (256*G) G gm) hU hB1;clear hR e3;refine z3i ?_;(conv=>whnf);refine ze3 rfl zK hU1 (fun w' hU=>zun gm (256*G) G w' g0 gs0 hU) ?_;(conv=>whnf);refine z3i ?_;(conv=>whnf);refine ⟨((G+2:Nat):Int),wr64 zO,?_⟩;(conv=>whnf);refine ⟨((4*off:Nat):Int),by rw [show (4:Int)*(off:Int)=((4*off:Nat):Int) by omega];exact wr64 zO,?_⟩;(conv=>whnf);refine z0b code rfl rfl rfl ?_;(conv=>whnf);refine ⟨((4*off+code.length:Nat):Int),by rw [show ((4*off:Nat):Int)+(code.length:Int)=((4*off+code.length:Nat):Int) by omega];exact wr64 zO,?_⟩;(conv=>whnf);refine ⟨((4*off+code.length+255:Nat):Int),by rw [show ((4*off+code.length:Nat):Int)+255=((4*off+code.length+255:Nat):Int) by omega];exact wr64 zO,?_⟩;(conv=>whnf);refine ⟨by decide,(D:Int),by rw [Int.tdiv_eq_ediv_of_nonneg zO,wr64 zO];omega,?_⟩;(conv=>whnf);refine ⟨(P:Int),by rw [show ((G+2:Nat):Int)+(D:Int)=(P:Int) by omega];exact wr64 zO,?_⟩;(conv=>whnf);refine z25 (z26 1 rfl rfl rfl ?_);(conv=>whnf);refine ⟨by kernel_rfl,fun r w2 us' hR hd=>?_⟩;obtain rfl:=zcs (xs:=[intV (P:Int)]) rfl hd;have hB2:=hR.toBelow
 refine (zhn P w2 zO).mono fun e w3 ⟨c,gs,he,hn⟩=>⟨_,he,?_⟩
 obtain ⟨m,ms,rfl,hcc,hmm,hcm,hfr⟩:=zvx hn;have hB3:=zdg (zdg hB1 hB2 hB1.size) hn.below (Nat.le_trans hB1.size hB2.size);have hz3:=Nat.le_trans hB1.size hB2.size;have hU3:=zvw (zuc (256*G) G gm) (zvw (zuc (256*G) G gm) hU1 hB2) hn.below;have e23:w3.heap[px]?=some (.cells (u32L ws).toArray 64 (0,0)):=((hn.below.block px (Nat.lt_of_lt_of_le (zpz e2) hB2.size)).trans (hB2.block px (zpz e2))).trans e2
 have hpn:px∉m::ms:=fun hm=>by
  have:=hfr px (List.mem_cons_of_mem _ hm);have:=zpz e2;have:=hB2.size;omega
 have hd0:∀ b∈g0::gs0,b∉m::ms:=fun b hb hm=>by
  have:=hfr b (List.mem_cons_of_mem _ hm);have:=hU.lt b hb;omega
 have hfw:∀ b∈c::m::ms,w.heap.size≤b:=fun b hb=>by have:=hfr b hb;omega
 clear hn hfr hU1 hU e2 hB1 hB2 hR hd;(conv=>whnf);refine ⟨((256*G:Nat):Int),by rw [show (256:Int)*(G:Int)=((256*G:Nat):Int) by omega];exact wr64 zO,?_⟩;(conv=>whnf);refine ⟨((256*G:Nat):Int),by rw [wr32];omega,?_⟩;(conv=>whnf);refine ⟨((G+1:Nat):Int),wr64 zO,?_⟩;(conv=>whnf);refine ⟨((256*(G+1):Nat):Int),by rw [show (256:Int)*((G+1:Nat):Int)=((256*(G+1):Nat):Int) by omega];exact wr64 zO,?_⟩;(conv=>whnf);refine ⟨((4*off:Nat):Int),by rw [show (4:Int)*(off:Int)=((4*off:Nat):Int) by omega];exact wr64 zO,?_⟩;(conv=>whnf);refine ⟨((256*(G+1)+4*off:Nat):Int),by rw [show ((256*(G+1):Nat):Int)+((4*off:Nat):Int)=((256*(G+1)+4*off:Nat):Int) by omega];exact wr64 zO,?_⟩;(conv=>whnf);refine ⟨((256*(G+1)+4*off:Nat):Int),by rw [wr32];omega,?_⟩;(conv=>whnf);refine ⟨((256*G:Nat):Int),by rw [show (256:Int)*(G:Int)=((256*G:Nat):Int) by omega];exact wr64 zO,?_⟩;(conv=>whnf);refine zcd ?_;refine z3f fun r w4 hR=>?_;obtain ⟨h,us,f1,f2,f3⟩:=hR.own 0 _ rfl;obtain rfl:=ziw (us:=[pV c,.int .u32 ((256*(G+1)+4*off:Nat):Int),.int .u32 ((256*G:Nat):Int),.int .i64 ((256*G:Nat):Int)]) f3;have hB4:=hR.toBelow;have hhf:=zoi hR f1;refine ⟨z6d [(0,pV g0),(2,strV code),(4,.int .u32 junk),(6,pV px),(11,intV (G:Int)),(12,intV (P:Int)),(13,pV h)],fun a' hf=>z6m ⟨z6k hf rfl,z6k hf rfl,z6k hf rfl,z6k hf rfl,z6k hf rfl,z6k hf rfl,z6i hf 13 rfl f1,trivial⟩,?_⟩;have hz0:(MemP.zero P).ok (256*P) P:=zuw hP2
 have ho:HoAt w4 h c m ms stZ (256*P) P (MemP.zero P) ((256*(G+1)+4*off:Nat):Int) ((256*G:Nat):Int) ((256*G:Nat):Int):=⟨f2,(hB4.block c (zpz hcc)).trans hcc,rfl,zvw (zuc _ _ _) hmm hB4,fun e=>by have:=zpz hcc;omega,fun hm=>by have:=hmm.lt h hm;omega,hcm⟩
 have hU4:=zvw (zuc (256*G) G gm) hU3 hB4;have e24:=(hB4.block px (zpz e23)).trans e23;have hB04:=zdg hB3 hB4 hB3.size;have hhw:w.heap.size≤h:=Nat.le_trans hB3.size hhf;clear hR f3 f1 f2 hcc hmm hU3 e23 hB3 hB4 hhf hz3 hcm;refine z25 ?_;refine z3i ?_;(conv=>whnf);refine z21 ?_;refine z3b (fun j:{j:Nat//j≤G}=>[(0,one (pV g0)),(2,one (strV code)),(4,one (.int .u32 junk)),(6,one (pV px)),(11,one (intV (G:Int))),(12,one (intV (P:Int))),(13,one (pV h)),(14,one (intV (j.1:Int)))]) (fun j w'=>HoAt w' h c m ms stZ (256*P) P (zp8 gm j.1 (MemP.zero P)) ((256*(G+1)+4*off:Nat):Int) ((256*G:Nat):Int) ((256*G:Nat):Int)∧Held w4 ⟨[],m::ms⟩ w') (fun j=>G-j.1) ⟨0,by omega⟩ Tn (fun r w' hR=>⟨ho.later hR.toBelow,zp4 hR.toBelow⟩) (fun j w' hJ=>?_);obtain ⟨j,hj⟩:=j;dsimp only at hJ⊢;obtain ⟨ho5,hh5⟩:=hJ;refine z25 ?_;refine z3i ?_;(conv=>whnf);refine z23 rfl (fun hc=>z3j (zcd ?_)) (fun hc=>?_)
 ·have hlt:j<G:=by have:=of_decide_eq_true hc;omega
  have hMj:=zqa hg hz0 j hj;have hs:=zqc gm j (MemP.zero P);have hpl:=zx5 hg hlt;have hpb:=zx3 hg j;have hri:=z11 hg j;generalize zp8 gm j (MemP.zero P)=Mj at ho5 hMj hs;have hMk:=zyy hMj ((256*j:Nat):Int) hpb (gm.page j).length (Nat.le_refl _);refine z3d (α:=Unit) (fun _=>[(0,one (pV g0)),(2,one (strV code)),(4,one (.int .u32 junk)),(6,one (pV px)),(11,one (intV (G:Int))),(12,one (intV (P:Int))),(13,one (pV h)),(14,one (intV (j:Int)))]) (fun _ w2=>HoAt w2 h c m ms stZ (256*P) P (zp8 gm (j+1) (MemP.zero P)) ((256*(G+1)+4*off:Nat):Int) ((256*G:Nat):Int) ((256*G:Nat):Int)∧Held w4 ⟨[],m::ms⟩ w2) ?_ fun _ w2 hl=>?_
  ·refine z21 ?_
   refine z25 ?_;refine z3k (m::ms) (.q 0 (.q 1 (.q 2 (.q 3 (.q 4 (.q 5 (.q 6 (.q 7 (.q 8 (.q 9 (.q 10 (.q 11 (.alt 12 (.alt 13 .done .no) .no))))))))))))) (fun w=>ObjsAt w (m::ms) (memS 0 (256*P) P Mj)) (fun w hB=>zvw (zuc _ _ Mj) ho5.mem hB) mixed zK zK ?_;(conv=>whnf);refine ⟨_,zp3 ho5.host ho5.hm (k:=0+0) rfl,?_⟩;(conv=>whnf);refine ⟨_,ho5.ptrH,?_⟩;(conv=>whnf);refine ⟨((256*j:Nat):Int),by rw [show (256:Int)*(j:Int)=((256*j:Nat):Int) by omega];exact wr64 zO,?_⟩;(conv=>whnf);refine ⟨((256*j:Nat):Int),by rw [wr32];omega,?_⟩;(conv=>whnf);refine ⟨?_,trivial⟩;refine zr1 (strV (gm.page j)) (us:=[pV g0,intV (j:Int)]) rfl zK zt5 (zv8 hU4 hh5 hd0) hd0 (fun w hU=>zum gm (256*G) G j w g0 gs0 hU hg hlt) ?_;(conv=>whnf);refine ⟨?_,trivial⟩;refine zr0 (.tuple #[]) (Mj.pokeAt ((256*j:Nat):Int) (gm.page j) (gm.page j).length) (us:=[.int .u32 ((256*j:Nat):Int),strV (gm.page j)]) rfl zK (fun w hU=>zup Mj (256*P) P _ (gm.page j) w m ms hU hMj (by unfold word;omega) hpb zO zO) ?_;(conv=>whnf);intro w6 hh6 hj6;refine zcd ?_;have ho6:=ho5.turn hh6 hj6;have hh56:=zp7 hh5 hh6 fun b hb=> .inl hb;clear hj6 hh6;refine z3k (m::ms) (.q 0 (.q 1 (.q 2 (.q 3 (.q 4 (.q 5 (.q 6 (.q 7 (.q 8 (.q 9 (.alt 10 (.q 11 (.alt 12 .done .no)) .no))))))))))) (fun w=>ObjsAt w (m::ms) (memS 0 (256*P) P _)) (fun w hB=>zvw (zuc _ _ _) ho6.mem hB) mixed zK zK ?_;(conv=>whnf);refine ⟨_,zp3 ho6.host ho6.hm (k:=0+0) rfl,?_⟩;(conv=>whnf);refine ⟨_,ho6.ptrH,?_⟩;(conv=>whnf);refine ⟨?_,trivial⟩;refine zr1 (intV (gm.rightsAt j)) (us:=[pV g0,intV (j:Int)]) rfl zK zt5 (zv8 hU4 hh56 hd0) hd0 (fun w hU=>zut gm (256*G) G j w g0 gs0 hU hg hlt) ?_;(conv=>whnf);refine ⟨gm.rightsAt j%4,zdv hri,?_⟩;(conv=>whnf);refine ⟨?_,trivial⟩;refine zr0 (.tuple #[]) ((Mj.pokeAt ((256*j:Nat):Int) (gm.page j) (gm.page j).length).protect j (gm.rightsAt j%4)) (us:=[intV (j:Int),intV (gm.rightsAt j%4)]) rfl zK (fun w hU=>zuq _ (256*P) P j _ w m ms hU hMk zO hP2 zO) ?_;(conv=>whnf);intro w7 hh7 hj7;refine zb4 (zca () Tn fun r w8 hR=>?_);rw [hs];exact ⟨(ho6.turn hh7 hj7).later hR.toBelow,zp7 (gs1:=[]) (zp7 hh56 hh7 fun b hb=> .inl hb) (zp4 hR.toBelow) nofun⟩
  ·refine z3m ?_
   (conv=>whnf);refine ⟨((j+1:Nat):Int),by rw [show (j:Int)+1=((j+1:Nat):Int) by omega];exact wr64 zO,?_⟩;(conv=>whnf);exact zcc ⟨j+1,by omega⟩ Tn (fun r w3 hR=>⟨hl.1.later hR.toBelow,zp7 (gs1:=[]) hl.2 (zp4 hR.toBelow) nofun⟩) (by show G-(j+1)<G-j;omega)
 ·have hje:j=G:=by have:=of_decide_eq_false hc;omega
  rw [hje] at ho5;have hMg:=zqa hg hz0 G (Nat.le_refl _);have hMe:zqd gm G P (256*(G+1)+4*off) ws code=zqe (G+1) 4 (P-(G+1)) (zqn (G+1) (P-(G+1)) ((((zp8 gm G (MemP.zero P)).pokeAt ((256*G:Nat):Int) (yax ws) (yax ws).length).protect G 3).pokeAt ((256*(G+1)+4*off:Nat):Int) code code.length)):=rfl;refine z3m ?_;(conv=>whnf);refine zb7 (zcf (zb6 (zcd ?_)));generalize zp8 gm G (MemP.zero P)=Mg at ho5 hMg hMe;have hwb:=yaz ws;have hwbl:=ya0 ws;refine z25 ?_;have e25:=(zp0 hh5 (zpz e24) hpn).trans e24;refine z3k (m::ms) (.q 0 (.q 1 (.q 2 (.q 3 (.q 4 (.q 5 (.q 6 (.q 7 (.q 8 (.q 9 (.q 10 (.q 11 (.alt 12 (.alt 13 .done .no) .no))))))))))))) (fun w=>ObjsAt w (m::ms) (memS 0 (256*P) P Mg)) (fun w hB=>zvw (zuc _ _ Mg) ho5.mem hB) mixed zK zK ?_;(conv=>whnf);refine ⟨_,zp3 ho5.host ho5.hm (k:=0+0) rfl,?_⟩;(conv=>whnf);refine ⟨_,ho5.ptrH,?_⟩;(conv=>whnf);refine ⟨_,zp3 ho5.host ho5.hm (k:=0+2) rfl,?_⟩;(conv=>whnf);refine ⟨u32L ws,zp1 e25 hpn,by rw [List.length_map];exact hwl,?_⟩;(conv=>whnf);refine ⟨?_,trivial⟩;refine zrw (strV (yax ws)) (us:=[.agg (u32L ws).toArray]) (zcp _) zK zt5 (fun w _ _=>ya3 ws hwl hww w) ?_;(conv=>whnf);refine ⟨?_,trivial⟩;refine zr0 (.tuple #[]) (Mg.pokeAt ((256*G:Nat):Int) (yax ws) (yax ws).length) (us:=[.int .u32 ((256*G:Nat):Int),strV (yax ws)]) rfl zK (fun w hU=>zup Mg (256*P) P _ (yax ws) w m ms hU hMg (by unfold word;omega) hwb zO zO) ?_;(conv=>whnf);intro w6 hh6 hj6;refine zcd ?_;have ho6:=ho5.turn hh6 hj6;have hh56:=zp7 hh5 hh6 fun b hb=> .inl hb;have hM6:=zyy hMg ((256*G:Nat):Int) hwb (yax ws).length (Nat.le_refl _);clear hj6 hh6 ho5 hh5 hMg e25;generalize Mg.pokeAt ((256*G:Nat):Int) (yax ws) (yax ws).length=M6 at ho6 hM6 hMe;refine z3f fun r w6b hR=>?_;refine ⟨z6d [(2,strV code),(4,.int .u32 junk),(11,intV (G:Int)),(12,intV (P:Int)),(13,pV h)],fun a' hf=>z6m ⟨z6k hf rfl,z6k hf rfl,z6k hf rfl,z6k hf rfl,z6k hf rfl,trivial⟩,?_⟩
  replace ho6:=ho6.later hR.toBelow
  replace hh56:=zp7 (gs1:=[]) hh56 (zp4 hR.toBelow) nofun
  clear hR;refine z25 ?_;refine z3h (m::ms) (fun w=>ObjsAt w (m::ms) (memS 0 (256*P) P M6)) (fun w hB=>zvw (zuc _ _ _) ho6.mem hB) ?_;(conv=>whnf);refine ⟨_,zp3 ho6.host ho6.hm (k:=0+0) rfl,?_⟩;(conv=>whnf);refine ⟨_,ho6.ptrH,?_⟩;(conv=>whnf);refine zr0 (.tuple #[]) (M6.protect G 3) (us:=[intV (G:Int),intV 3]) rfl zK (fun w hU=>zuq _ (256*P) P G _ w m ms hU hM6 zO hP2 zO) ?_;(conv=>whnf);intro w7 hh7 hj7;refine zcd ?_;have ho7:=ho6.turn hh7 hj7;have hh57:=zp7 hh56 hh7 fun b hb=> .inl hb;have hM7:=zy4 hM6 G (x:=3) (by decide);clear hj7 hh7 ho6 hh56 hM6;generalize M6.protect G 3=M7 at ho7 hM7 hMe;refine z25 (z26 2 rfl rfl rfl ?_);(conv=>whnf);refine ⟨by kernel_rfl,fun r w8 us' hR hd=>?_⟩;obtain rfl:=zcs (xs:=[pV h,intV 0,strV code]) rfl hd;have hB8:=hR.toBelow
  refine (zx8 (ho7.later hB8) hM7 zO G zO zO 0 (by unfold word;omega) yap code hcb hcl).mono fun e w9 ⟨he,ho9,hh9⟩=>⟨_,he,?_⟩
  rw [Int.add_zero] at ho9;have hh59:=zp7 (zp7 (gs1:=[]) hh57 (zp4 hB8) nofun) hh9 fun b hb=> .inl hb;have hM9:=zqp (G+1) (zyy hM7 ((256*(G+1)+4*off:Nat):Int) hcb code.length (Nat.le_refl _)) (P-(G+1));clear hR hd hB8 ho7 hh57 hM7 hh9;generalize zqn (G+1) (P-(G+1)) (M7.pokeAt ((256*(G+1)+4*off:Nat):Int) code code.length)=M9 at ho9 hM9 hMe;(conv=>whnf);refine zcd ?_;refine z25 ?_;refine z3i ?_;(conv=>whnf);refine ⟨((G+1:Nat):Int),wr64 zO,?_⟩;(conv=>whnf);refine z21 ?_;refine z3b (fun j:{j:Nat//j≤P-(G+1)}=>[(4,one (.int .u32 junk)),(12,one (intV (P:Int))),(13,one (pV h)),(15,one (.int .i64 ((G+1+j.1:Nat):Int)))]) (fun j w'=>HoAt w' h c m ms stZ (256*P) P (zqe (G+1) 4 j.1 M9) ((256*(G+1)+4*off:Nat):Int) ((256*G:Nat):Int) ((256*G:Nat):Int)∧Held w4 ⟨[],m::ms⟩ w') (fun j=>P-(G+1)-j.1) ⟨0,by omega⟩ Tn (fun r w' hR=>⟨ho9.later hR.toBelow,zp7 (gs1:=[]) hh59 (zp4 hR.toBelow) nofun⟩) (fun j2 w' hJ=>?_);obtain ⟨j2,hj2⟩:=j2;dsimp only at hJ⊢;obtain ⟨hoj,hhj⟩:=hJ;refine z25 ?_;refine z3i ?_;(conv=>whnf);refine z23 rfl (fun hc=>z3j (zcd ?_)) (fun hc=>?_)
  ·have hlt:G+1+j2<P:=by have:=of_decide_eq_true hc;omega
   have hMj:=zqg (G+1) (x:=4) (by decide) hM9 j2;have hs:=zqi (G+1) 4 j2 M9;generalize zqe (G+1) 4 j2 M9=Mj at hoj hMj hs;refine z3d (α:=Unit) (fun _=>[(4,one (.int .u32 junk)),(12,one (intV (P:Int))),(13,one (pV h)),(15,one (.int .i64 ((G+1+j2:Nat):Int)))]) (fun _ w2=>HoAt w2 h c m ms stZ (256*P) P (zqe (G+1) 4 (j2+1) M9) ((256*(G+1)+4*off:Nat):Int) ((256*G:Nat):Int) ((256*G:Nat):Int)∧Held w4 ⟨[],m::ms⟩ w2) ?_ fun _ w2 hl=>?_
   ·refine z21 ?_
    refine z3h (m::ms) (fun w=>ObjsAt w (m::ms) (memS 0 (256*P) P Mj)) (fun w hB=>zvw (zuc _ _ _) hoj.mem hB) ?_;(conv=>whnf);refine ⟨_,zp3 hoj.host hoj.hm (k:=0+0) rfl,?_⟩;(conv=>whnf);refine ⟨_,hoj.ptrH,?_⟩;(conv=>whnf);refine zr0 (.tuple #[]) (Mj.protect (G+1+j2) 4) (us:=[intV ((G+1+j2:Nat):Int),intV 4]) rfl zK (fun w hU=>zuq _ (256*P) P (G+1+j2) _ w m ms hU hMj hlt hP2 zO) ?_;(conv=>whnf);intro w3 hh3 hj3;refine zb4 (zca () Tn fun r w4 hR=>?_);rw [hs];exact ⟨(hoj.turn hh3 hj3).later hR.toBelow,zp7 (gs1:=[]) (zp7 hhj hh3 fun b hb=> .inl hb) (zp4 hR.toBelow) nofun⟩
   ·refine z3m ?_
    (conv=>whnf);refine ⟨((G+1+(j2+1):Nat):Int),by rw [show ((G+1+j2:Nat):Int)+1=((G+1+(j2+1):Nat):Int) by omega];exact wr64 zO,?_⟩;(conv=>whnf);exact zcc ⟨j2+1,by omega⟩ Tn (fun r w3 hR=>⟨hl.1.later hR.toBelow,zp7 (gs1:=[]) hl.2 (zp4 hR.toBelow) nofun⟩) (by show P-(G+1)-(j2+1)<P-(G+1)-j2;omega)
  ·have hje:j2=P-(G+1):=by have:=of_decide_eq_false hc;omega
   rw [hje, ← hMe] at hoj;refine z3m ?_;(conv=>whnf);refine zb7 (zcf (zb6 (zcd ?_)));generalize zqd gm G P (256*(G+1)+4*off) ws code=MH at hoj;refine z3i ?_;(conv=>whnf);refine ⟨_,zd1 (off:=0+1) hoj.host rfl,?_⟩;(conv=>whnf)
   obtain ⟨B,hBe⟩:∃ B:Int,B=((256*(G+1)+4*off:Nat):Int):=⟨_,rfl⟩
   rw [← hBe] at hoj⊢;refine z25 ?_;refine z3i ?_;(conv=>whnf);refine z21 ?_;refine z29 (α:={k:Nat//1≤k∧k≤16}) (fun k=>[(4,one (.int .u32 junk)),(13,one (pV h)),(16,.p (.c (.ref 0 0))),(17,one (.int .i64 (k.1:Int)))]) (fun k=>[.cells stT (stC (zqr B junk k.1) [])]) (fun k=>16-k.1) ⟨1,by omega⟩ (zkb (show (1:Nat)=1 from rfl) Tn (aI ((aI rfl (Or.inl (zqu B junk)))) trivial)) (fun k=>?_);obtain ⟨k,hk1,hk2⟩:=k;dsimp only;refine z25 ?_;refine z3i ?_;(conv=>whnf);refine z23 rfl (fun hc=>z3j (zcd ?_)) (fun hc=>?_)
   ·have hlt:k<16:=by have:=of_decide_eq_true hc;omega
    obtain ⟨X,hX⟩:∃ X,X=stC (zqr B junk k) []:=⟨_,rfl⟩
    have hXl:X.length=24:=(by rw [hX];rfl);rw [← hX];refine z3c (α:=Unit) (fun _=>[(4,one (.int .u32 junk)),(13,one (pV h)),(16,.p (.c (.ref 0 0))),(17,one (.int .i64 (k:Int)))]) (fun _=>[.cells stT (stC (zqr B junk (k+1)) [])]) ?_ fun _=>?_
    ·refine z21 ?_
     refine z3m ?_;(conv=>whnf);refine ⟨(k:Int),by rw [wr32];omega,?_⟩;(conv=>whnf);refine ⟨junk*(k:Int)%4294967296,wr32 _,?_⟩;(conv=>whnf);refine ⟨⟨by omega,by omega⟩,?_⟩;(conv=>whnf);erw [show Nat.ble (0+1+(k:Int).toNat*tsz Tryz.prog 41+[CV.v (Value.int IntKind.u32 (junk*(k:Int)%4294967296))].length) X.length=true from Nat.ble_eq_true_of_le (by rw [hXl];show 0+1+k*1+1≤24;omega)];(conv=>whnf);rw [show Nat.ble X.length 8=false from by rw [hXl];rfl];(conv=>whnf)
     have hset:z3z X (0+1+(k:Int).toNat*tsz Tryz.prog 41) [CV.v (Value.int IntKind.u32 (junk*(k:Int)%4294967296))]=stC (zqr B junk (k+1)) []:=by
      rw [hX];refine (z61 (zqr B junk k) [] (junk*(k:Int)%4294967296) (j:=(k:Int)) zO zO).trans ?_;show stC {zqr B junk k with R:=regU (zqj junk k) (k:Int) (junk*(k:Int)%4294967296)} []=_;rw [zqk junk k hk1];rfl
     exact zb4 (zb8 () (zkb rfl Tn (aI ((aI rfl (Or.inl hset))) trivial)))
    ·refine z3m ?_
     (conv=>whnf);refine ⟨((k+1:Nat):Int),by rw [show (k:Int)+1=((k+1:Nat):Int) by omega];exact wr64 zO,?_⟩;(conv=>whnf);exact zcb ⟨k+1,by omega⟩ (zkb rfl Tn (aI sM trivial)) (by show 16-(k+1)<16-k;omega)
   ·have hk:k=16:=by have:=of_decide_eq_false hc;omega
    subst hk;refine z3m ?_;(conv=>whnf);refine zb7 (zce (zb6 (zcd ?_)));refine z3f fun r w7 hR=>?_;obtain ⟨ps,us,e1,e2,e3⟩:=hR.own 0 _ rfl;obtain rfl:=ziw (us:=stL (zqr B junk 16) []) e3;have hB7:=hR.toBelow;have hps:=zoi hR e1;refine ⟨z6d [(13,pV h),(16,pV ps)],fun a' hf=>z6m ⟨z6k hf rfl,z6i hf 16 rfl e1,trivial⟩,?_⟩;clear hR e3;have hoc:=hoj.later hB7;have hJ0:=zhl hoc.cpu hoc.mem hoc.cm;have hhn:h∉c::m::ms:=fun hm=>(List.mem_cons.1 hm).elim (fun e=>hoc.hc e) hoc.hm
    have hpsn:ps∉c::m::ms:=fun hm=>by
     rcases List.mem_cons.1 hm with rfl|hm
     ·have:=zpz hoj.cpu;omega
     ·have:=hoj.mem.lt ps hm;omega
    have hst:stL {zqr B junk 16 with R:=regU (zqr B junk 16).R 0 0,f:=0} []=stL (zqr B junk 16) []:=by
     have:regU (zqj junk 16) 0 0=zqj junk 16:=by
      funext j
      unfold regU zqj;by_cases h:j=0
      ·rw [if_pos h,if_neg zO]
      ·rw [if_neg h]
     show stL {zqr B junk 16 with R:=regU (zqj junk 16) 0 0,f:=0} []=_;rw [this];rfl
    generalize hSG:stL (zqr B junk 16) []=SL at e2 hst;have hSl:SL.length=24:=(by rw [← hSG];rfl);refine z25 ?_;refine z3k (c::m::ms) (.q 0 (.q 1 (.q 2 (.q 3 (.q 4 (.alt 5 .done .no)))))) (fun w=>ObjsAt w (c::m::ms) (cpuU 0 stZ (256*P) P MH)) (fun w hB=>ObjsAt.later (zhi _ _ _ _) hJ0 hB.size fun b hb=>hB.block b (hJ0.lt b hb)) mixed zK zK ?_;(conv=>whnf);refine ⟨_,zp3 hoc.host hhn (k:=0+0) rfl,?_⟩;(conv=>whnf);refine ⟨SL,zp1 e2 hpsn,hSl,?_⟩;(conv=>whnf);refine ⟨?_,trivial⟩;refine zr2 (U':=cpuU 0 SL (256*P) P MH) (.tuple #[]) (us:=[.agg SL.toArray]) (zcp _) zK (fun w hU=>by have h1:=z4f (zqr B junk 16) (Int.le_refl 0) rfl stZ rfl MH (256*P) P w c (m::ms) hU;rw [hst] at h1;rw [← hSG] at h1⊢;exact h1) ?_;(conv=>whnf);intro w8 hh8 hj8;refine zcd ?_;obtain ⟨m2,ms2,em,hc8,hm8,hn8⟩:=zhp hj8;injection em with em1 em2;subst em1;subst em2
    have ho8:HoAt w8 h c m ms SL (256*P) P MH B ((256*G:Nat):Int) ((256*G:Nat):Int):=⟨(zp0 hh8 (zpz hoc.host) hhn).trans hoc.host,hc8,hSl,hm8,hoc.hc,hoc.hm,hn8⟩
    refine z3i ?_;(conv=>whnf);refine z3m ?_;(conv=>whnf);refine zcg ?_;(conv=>whnf)
    refine zmp rfl fun w9 hB9=>⟨h,c,m,ms,rfl,ho8.later hB9,fun b hb=>?_,?_⟩
    ·rcases List.mem_cons.1 hb with rfl|hb
     ·exact hhw
     ·exact hfw b hb
    ·have b1:=zdi hB04 hhj (fun b hb=>hfw b (List.mem_cons_of_mem _ hb))
     have b2:=zdg b1 hB7 b1.size;have b3:=zdi b2 hh8 hfw;exact zdg b3 hB9 b3.size
end
end Go.Proofs.YtocafomnnkmjfaaGreat
