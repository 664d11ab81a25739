import Derived.Test.YtocafomnnkmjfaaGreatK23
import Derived.Test.YtocafomnnkmjfaaGreatK33
set_option maxRecDepth 100000
set_option maxHeartbeats 1000000
namespace Go.Proofs.YtocafomnnkmjfaaGreat
open Go.RowKit
theorem wr64q {x:Int} (h:0≤x∧x<18446744073709551616):IntKind.u64.wrap x=x:=by
 show x%18446744073709551616=x;omega
theorem z67 (s:St) (X:List Value) {j:Int} (h0:0≤j) (h1:j<16):(stL s []++X)[0+1+j.toNat*1]?=some (u32V (s.R j)):=by
 rcases (by omega:j=0∨j=1∨j=2∨j=3∨j=4∨j=5∨j=6∨j=7∨j=8∨j=9∨j=10∨j=11∨j=12∨j=13∨j=14∨j=15) with rfl|rfl|rfl|rfl|rfl|rfl|rfl|rfl|rfl|rfl|rfl|rfl|rfl|rfl|rfl|rfl<;>rfl
theorem za3 {w:World} {pa:Nat} {a:List Int} {t:TypeId} (h:w.heap[pa]?=some (.cells (alL a).toArray t (0,0))) (ha:a.length=28) {v:Int} (hv:0≤v∧v<28):zac w Gs.nil pa (0+v.toNat*1) [.int .i64 (getV a v)]:=by
 refine zd1 h ?_;rw [Nat.zero_add,Nat.mul_one,List.getElem?_map];unfold getV;rw [List.getElem?_eq_getElem zO];rfl
section
variable {w:World} {h c m:Nat} {ms:List Nat} {us:List Value} {n p:Nat} {M:MemP} {base ctx size:Int}
def valH (a:List Int) (L:Nat) (s:St) (M:MemP) (ctx:Int) (v:Nat):Int:=if L.testBit v=true∧0≤getV a (v:Int)∧getV a (v:Int)<9 then s.R (getV a (v:Int)+1) else M.load (ctx+4*(v:Int)) 0 4
theorem z97 (s:St) (ho:HoAt w h c m ms (stL s []) n p M base ctx size) (hM:M.ok n p) (hctx:0≤ctx∧ctx≤4000000) (a:List Int) (ha:a.length=28) (si:SiteP) (L:Nat) (hL:((L:Nat):Int)=si.live) (hL2:word si.live) (v:Nat) (hv:v<19):
  Calls Tryz.prog 63 #[pV h,.agg (alL a).toArray,z5u si,intV (v:Int)] w fun e w'=>e= .returned (.int .u32 (valH a L s M ctx v))∧Below w.heap.size w w':=by
 refine zfg [pV h,.agg (alL a).toArray,z5u si,intV (v:Int)] Tryz.func63 Tryz.ntmps63 rfl zS ?_;refine z3q ?_;(conv=>whnf);refine z3n fun r w1 hR=>?_;obtain ⟨pa,us1,e1,e2,e3⟩:=hR.own 0 _ rfl;obtain rfl:=zis (us:=alL a) e3;obtain ⟨ps,us2,f1,f2,f3⟩:=hR.own 1 _ rfl;obtain rfl:=zis (us:=z5s si) f3;have hB1:=hR.toBelow;refine ⟨z6l [(0,pV h),(3,intV (v:Int)),(5,pV pa),(6,pV ps)],fun a' hf=>z6u ⟨z6s hf rfl,z6s hf rfl,z6q hf 5 rfl e1,z6q hf 6 rfl f1,trivial⟩,?_⟩;clear hR e3 f3;have ho1:=ho.later hB1;have hav:=za3 (v:=(v:Int)) e2 ha zO;have hbit:=z3x (v:=v) hL
 have hwv:word (si.live/2^v):=by
  unfold word at hL2⊢;exact ⟨Int.ediv_nonneg hL2.1 (Int.le_of_lt (Int.pow_pos (by decide))),Int.lt_of_le_of_lt (Int.ediv_le_self _ hL2.1) hL2.2⟩
 refine z3e ?_;refine z3q ?_;(conv=>whnf);refine ⟨_,zd1 (off:=0+4) f2 rfl,?_⟩;(conv=>whnf);refine ⟨(v:Int),wr64q zO,?_⟩;(conv=>whnf);refine ⟨by omega,si.live/2^v,by rw [Int.fdiv_eq_ediv_of_nonneg _ (Int.le_of_lt (Int.pow_pos (by decide))),Int.toNat_natCast,Nat.min_eq_left (by show v≤32;omega)],?_⟩;(conv=>whnf);refine ⟨_,z9b hwv (by unfold word;omega),?_⟩;(conv=>whnf);rw [hbit];by_cases hb:L.testBit v=true
 ·rw [if_pos hb]
  refine kB ?_;refine z0i (size:=1) pa 0 28 (v:Int) rfl rfl rfl rfl rfl rfl zO zO ?_;refine kB ?_;refine ⟨_,hav,?_⟩;refine kB ?_;refine ⟨fun h0=>?_,fun h0=>?_⟩
  ·have h0:0≤getV a (v:Int):=of_decide_eq_true h0
   refine kB ?_;refine z0i (size:=1) pa 0 28 (v:Int) rfl rfl rfl rfl rfl rfl zO zO ?_;refine kB ?_;refine ⟨_,hav,?_⟩;refine kB ?_;by_cases h9:getV a (v:Int)<9
   ·rw [show decide (getV a (v:Int)<9)=true from decide_eq_true h9]
    refine z3c (t:=true) rfl (fun _=>?_) (fun hc=>Bool.noConfusion (show true=false from hc));refine z3q ?_;refine z25 mixed zK ?_;(conv=>whnf);refine ⟨_,zd1 (off:=0+0) ho1.host rfl,?_⟩;(conv=>whnf);refine z0i (size:=1) pa 0 28 (v:Int) rfl rfl rfl rfl rfl rfl zO zO ?_;(conv=>whnf);refine ⟨_,hav,?_⟩;(conv=>whnf);refine ⟨getV a (v:Int)+1,wr64 zO,?_⟩;(conv=>whnf);refine z0i (size:=1) c (0+1) 16 (getV a (v:Int)+1) rfl rfl rfl rfl rfl rfl zO zO ?_;(conv=>whnf);refine ⟨_,zd1 ho1.cpu (z67 s [pV m] zO zO),?_⟩;(conv=>whnf);refine z3u ?_;(conv=>whnf);refine zcl (zcg ?_);(conv=>whnf)
    exact zmj rfl fun w2 hB=>⟨by unfold valH;rw [if_pos ⟨hb,h0,h9⟩],zdj hB1 hB⟩
   ·rw [show decide (getV a (v:Int)<9)=false from decide_eq_false h9]
    refine z3c (t:=false) rfl (fun hc=>Bool.noConfusion (show false=true from hc)) (fun _=>z3r (zcd ?_));refine z3q ?_;(conv=>whnf);refine ze2 rfl zK (fun r w' hR=>ya3 (ho1.later hR.toBelow) hM (v:Int) zO hctx) ?_;(conv=>whnf);refine z3u ?_;(conv=>whnf);refine zcg ?_;(conv=>whnf)
    exact zmj rfl fun w2 hB=>⟨by unfold valH;rw [if_neg (fun hh=>h9 hh.2.2)],zdj hB1 hB⟩
  ·have h0:¬0≤getV a (v:Int):=of_decide_eq_false h0
   refine kB ?_;refine z3c (t:=false) rfl (fun hc=>Bool.noConfusion (show false=true from hc)) (fun _=>z3r (zcd ?_));refine z3q ?_;(conv=>whnf);refine ze2 rfl zK (fun r w' hR=>ya3 (ho1.later hR.toBelow) hM (v:Int) zO hctx) ?_;(conv=>whnf);refine z3u ?_;(conv=>whnf);refine zcg ?_;(conv=>whnf)
   exact zmj rfl fun w2 hB=>⟨by unfold valH;rw [if_neg (fun hh=>h0 hh.2.1)],zdj hB1 hB⟩
 ·rw [if_neg hb]
  refine kB ?_;refine z3c (t:=false) rfl (fun hc=>Bool.noConfusion (show false=true from hc)) (fun _=>z3r (zcd ?_));refine z3q ?_;(conv=>whnf);refine ze2 rfl zK (fun r w' hR=>ya3 (ho1.later hR.toBelow) hM (v:Int) zO hctx) ?_;(conv=>whnf);refine z3u ?_;(conv=>whnf);refine zcg ?_;(conv=>whnf)
  exact zmj rfl fun w2 hB=>⟨by unfold valH;rw [if_neg (fun hh=>hb hh.1)],zdj hB1 hB⟩
end
section
variable {w:World} {h c m:Nat} {ms:List Nat} {us:List Value} {n p:Nat} {M:MemP} {base ctx size:Int}
theorem zo9 (ho:HoAt w h c m ms us n p M base ctx size) (hM:M.ok n p) {g:Nat} {gs:List Nat} {n2 p2:Nat} {N:MemP} (hU:ObjsAt w (g::gs) (memS 0 n2 p2 N)) (hN:N.ok n2 p2) (hs:0≤size∧size≤4000000) (he:∀ y,0≤y→y<size→M.get y=N.get y):
  Calls Tryz.prog 43 #[pV h,pV g] w fun e w'=>e= .returned (.bool true)∧Below w.heap.size w w':=by
 refine zfg [pV h,pV g] Tryz.func43 Tryz.ntmps43 rfl zS ?_;refine z3q ?_;(conv=>whnf);refine z3e ?_;refine z3q ?_;(conv=>whnf);refine z3b ?_;refine z3j (fun j:{j:Nat//(j:Int)≤size}=>[(0,one (pV h)),(1,one (pV g)),(5,one (.int .i64 (j.1:Int)))]) (fun _ w'=>Below w.heap.size w w') (fun j=>size.toNat-j.1) ⟨0,by omega⟩ Tn (fun r w' hR=>hR.toBelow) (fun j w' hJ=>?_);obtain ⟨j,hj⟩:=j;dsimp only at hJ⊢;have ho1:=ho.later hJ;have hU1:=zv0 (zt6 n2 p2 N) hU hJ;refine z3e ?_;refine z3q ?_;(conv=>whnf);refine ⟨_,zd1 (off:=0+3) ho1.host rfl,?_⟩;(conv=>whnf);refine z3c rfl (fun hc=>z3r (zcd ?_)) (fun hc=>?_)
 ·have hlt:(j:Int)<size:=of_decide_eq_true hc
  refine z3l (α:=Unit) (fun _=>[(0,one (pV h)),(1,one (pV g)),(5,one (.int .i64 (j:Int)))]) (fun _ w2=>Below w.heap.size w w2) ?_ fun _ w2 hB=>?_
  ·refine z3b ?_
   refine z3q ?_;(conv=>whnf);refine ⟨_,zd1 (off:=0+0) ho1.host rfl,?_⟩;(conv=>whnf);refine ⟨_,ho1.ptr,?_⟩;(conv=>whnf);refine ⟨(j:Int),by rw [wr32];omega,?_⟩;(conv=>whnf);refine ze3 rfl zK ho1.mem (fun w' hU=>zui M n p (j:Int) w' m ms hU hM (by unfold word;omega)) ?_;(conv=>whnf);refine ⟨(j:Int),by rw [wr32];omega,?_⟩;(conv=>whnf);refine ze3 rfl zK hU1 (fun w' hU=>zui N n2 p2 (j:Int) w' g gs hU hN (by unfold word;omega)) ?_;(conv=>whnf);refine z3c rfl (fun hc=>absurd hc (by rw [he (j:Int) zO hlt];simp)) (fun _=>z3r (zb4 (zca () Tn fun r w3 hR=>zdg hJ hR.toBelow hJ.size)))
  ·refine z3u ?_
   (conv=>whnf);refine ⟨((j+1:Nat):Int),by rw [show (j:Int)+1=((j+1:Nat):Int) by omega];exact wr64 zO,?_⟩;(conv=>whnf);exact zcc ⟨j+1,by omega⟩ Tn (fun r w3 hR=>zdg hB hR.toBelow hB.size) (by show size.toNat-(j+1)<size.toNat-j;omega)
 ·refine z3u ?_
  (conv=>whnf);refine zb7 (zcf (zb6 (zcd ?_)));refine z3q ?_;(conv=>whnf);refine z3u ?_;(conv=>whnf);refine zcg ?_;(conv=>whnf)
  exact zmj rfl fun w2 hB=>⟨rfl,zdg hJ hB hJ.size⟩
end
theorem zm6:∀ (l:List SiteP) (k:Nat) (s:SiteP),l[k]?=some s→∀ j,j<6→(l.flatMap z5s)[k*6+j]?=(z5s s)[j]?
 |[],k,s,h,_,_=>by simp at h
 |q::l,0,s,h,j,hj=>by
  simp at h;subst h;rw [List.flatMap_cons,List.getElem?_append_left (by show _<6;omega),Nat.zero_mul,Nat.zero_add]
 |q::l,k+1,s,h,j,hj=>by
  rw [List.flatMap_cons,List.getElem?_append_right (by show 6≤_;omega),show (k+1)*6+j-(z5s q).length=k*6+j by show _-6=_;omega];exact zm6 l k s (by simpa using h) j hj
theorem z5j:∀ l:List SiteP,(l.flatMap z5s).length=l.length*6
 |[]=>rfl
 |s::l=>by rw [List.flatMap_cons,List.length_append,z5j l,List.length_cons];simp only [List.length_cons,List.length_nil];omega
theorem zfv {w:World} {A:Option Addr} {k:Nat} {l:List SiteP} {s:SiteP} (h:SlAt w w.heap.size A (l.flatMap z5s)) (hk:l[k]?=some s):∃ bb off,A=some ⟨bb,off,none⟩∧zac w Gs.nil bb (off+(k:Int).toNat*6) (z5s s):=by
 have hlt:k<l.length:=by
  rcases Nat.lt_or_ge k l.length with h1|h1
  ·exact h1
  ·rw [List.getElem?_eq_none h1] at hk;cases hk
 obtain ⟨bb,off,rfl,hb,hc⟩:=SlAt.open_ h (by rw [z5j];omega);refine ⟨bb,off,rfl,hb,(fun hm=>by rcases hm with hm|hm<;>cases hm),fun j u hj=>?_⟩
 have hj6:j<6:=by
  rcases Nat.lt_or_ge j 6 with h1|h1
  ·exact h1
  ·rw [List.getElem?_eq_none (by exact h1)] at hj;cases hj
 have:=hc (k*6+j) u ((zm6 l k s hk j hj6).trans hj)
 simpa [Nat.add_assoc] using this
theorem zmk (l:List SiteP) (tx:Value) (A:Option Addr) (cp:Nat) (hln:l.length≤1000000) (off:Int) (k:Nat) (hk:∃ s,l[k]?=some s∧s.off=off) (hn:∀ i s,i<k→l[i]?=some s→s.off≠off) (w:World) (hs:SlAt w w.heap.size A (l.flatMap z5s)):
  Calls Tryz.prog 41 #[.agg #[tx,.slice A l.length cp],.int .i64 off] w fun e w'=>e= .returned (.int .i64 (k:Int))∧Below w.heap.size w w':=by
 obtain ⟨sk,hsk,hof⟩:=hk
 have hkl:k<l.length:=by
  rcases Nat.lt_or_ge k l.length with h1|h1
  ·exact h1
  ·rw [List.getElem?_eq_none h1] at hsk;cases hsk
 refine zfg [.agg #[tx,.slice A l.length cp],.int .i64 off] Tryz.func41 Tryz.ntmps41 rfl zS ?_;refine z3q ?_;(conv=>whnf);refine z3n fun r w1 hR=>?_;obtain ⟨pc,us,e1,e2,e3⟩:=hR.own 0 _ rfl;obtain rfl:=zis (us:=[tx,.slice A l.length cp]) e3;have hB1:=hR.toBelow;refine ⟨z6l [(1,.int .i64 off),(2,pV pc)],fun a' hf=>z6u ⟨z6s hf rfl,z6q hf 2 rfl e1,trivial⟩,?_⟩;clear hR e3;refine z3e ?_;refine z3q ?_;(conv=>whnf);refine z3b ?_;refine z3j (fun j:{j:Nat//j≤k}=>[(1,one (.int .i64 off)),(2,one (pV pc)),(5,one (.int .i64 (j.1:Int)))]) (fun _ w'=>Below w1.heap.size w1 w') (fun j=>k-j.1) ⟨0,by omega⟩ Tn (fun r w' hR=>hR.toBelow) (fun j w' hJ=>?_);obtain ⟨j,hj⟩:=j;dsimp only at hJ⊢;have e2':=(hJ.block pc (zpt e2)).trans e2
 have hs1:SlAt w' w'.heap.size A (l.flatMap z5s):=by
  have:=(hs.below hB1 (Nat.le_refl _)).more hB1.size;exact (this.below hJ (Nat.le_refl _)).more hJ.size
 obtain ⟨sj,hsj⟩:∃ s,l[j]?=some s:=⟨_,List.getElem?_eq_getElem zO⟩
 obtain ⟨bb,of2,hA,hcl⟩:=zfv hs1 hsj;refine z3e ?_;refine z3q ?_;(conv=>whnf);refine ⟨_,zd1 (off:=0+1) e2' rfl,?_⟩;(conv=>whnf);refine z3c rfl (fun _=>z3r (zcd ?_)) (fun hc=>absurd (of_decide_eq_false hc) zO);have hcl0:zac w' Gs.nil bb (of2+(j:Int).toNat*6+0) [.int .i64 sj.off]:=zfm hcl rfl;refine z3l (α:=Unit) (fun _=>[(1,one (.int .i64 off)),(2,one (pV pc)),(5,one (.int .i64 (j:Int)))]) (fun _ w2=>Below w1.heap.size w1 w2∧j<k) ?_ fun _ w2 hl=>?_
 ·refine z3b ?_
  refine z3q ?_;(conv=>whnf);refine ⟨_,zd1 (off:=0+1) e2' rfl,?_⟩;rw [hA];(conv=>whnf)
  (refine ⟨⟨by omega,by omega⟩,?_⟩;(conv=>whnf))
  refine ⟨_,hcl0,?_⟩;(conv=>whnf);refine z3c rfl (fun hc=>?_) (fun hc=>?_)
  ·have hc:sj.off=off:=of_decide_eq_true hc
   have hjk:j=k:=by
    rcases Nat.lt_or_ge j k with h1|h1
    ·exact absurd hc (hn j sj h1 hsj)
    ·omega
   subst hjk;refine z3q ?_;(conv=>whnf);refine z3u ?_;(conv=>whnf);refine zco (zcg ?_) fun a w hq=>hq;(conv=>whnf)
   exact zmj rfl fun w2 hB=>⟨rfl,zdj (zdj hB1 hJ) hB⟩
  ·have hc:¬sj.off=off:=of_decide_eq_false hc
   have hjk:j<k:=by
    rcases Nat.lt_or_ge j k with h1|h1
    ·exact h1
    ·have:j=k:=by omega
     subst this;rw [hsk] at hsj;injection hsj with hsj;subst hsj;exact absurd hof hc
   exact z3r (zb4 (zca () Tn fun r w3 hR=>⟨zdg hJ hR.toBelow hJ.size,hjk⟩))
 ·refine z3u ?_
  (conv=>whnf);refine ⟨((j+1:Nat):Int),by rw [show (j:Int)+1=((j+1:Nat):Int) by omega];exact wr64 zO,?_⟩;(conv=>whnf);exact zcc ⟨j+1,by omega⟩ Tn (fun r w3 hR=>zdg hl.1 hR.toBelow hl.1.size) (by show k-(j+1)<k-j;omega)
theorem ybb (ws:List Int) (hl:ws.length=64) (hw:∀ x∈ws,word x) (w:World):Calls Tryz.prog 81 #[.agg (ws.map (Value.int .u32)).toArray] w fun e w'=>e= .returned (strV (ya5 ws))∧Below w.heap.size w w':=by
 refine zfg [.agg (ws.map (Value.int .u32)).toArray] Tryz.func81 Tryz.ntmps81 rfl zS ?_;refine z3q ?_;(conv=>whnf);refine z3n fun r w1 hR=>?_;obtain ⟨pc,us,e1,e2,e3⟩:=hR.own 0 _ rfl;obtain rfl:=zis (us:=ws.map (Value.int .u32)) e3;have hB1:=hR.toBelow;refine ⟨z6l [(1,pV pc)],fun a' hf=>z6u ⟨z6q hf 1 rfl e1,trivial⟩,?_⟩;clear hR e3;refine z3q ?_;(conv=>whnf);refine z3e ?_;refine z3q ?_;(conv=>whnf);refine z3b ?_;refine z3j (fun j:{j:Nat//j≤64}=>[(1,one (pV pc)),(3,one (strV (ya5 (ws.take j.1)))),(4,one (.int .i64 (j.1:Int)))]) (fun _ w'=>Below w1.heap.size w1 w') (fun j=>64-j.1) ⟨0,by omega⟩ Tn (fun r w' hR=>hR.toBelow) (fun j w' hJ=>?_);obtain ⟨j,hj⟩:=j;dsimp only at hJ⊢;have e2':=(hJ.block pc (zpt e2)).trans e2;refine z3q ?_;(conv=>whnf);refine ⟨fun hc=>?_,fun hc=>?_⟩
 ·have hlt:j<64:=by simp at hc;omega
  obtain ⟨x,hx⟩:∃ x,ws[j]?=some x:=⟨_,List.getElem?_eq_getElem zO⟩
  have hsn:ya5 (ws.take (j+1))=ya5 (ws.take j)++putL x:=by
   rw [List.take_add_one,hx];exact ya9 _ _
  have hcl:zac w' Gs.nil pc (0+(j:Int).toNat*1) [.int .u32 x]:=zd1 e2' (by rw [Nat.zero_add,Nat.mul_one,Int.toNat_natCast,List.getElem?_map,hx];rfl);(conv=>whnf);refine z3l (α:=Unit) (fun _=>[(1,one (pV pc)),(3,one (strV (ya5 (ws.take (j+1))))),(4,one (.int .i64 (j:Int)))]) (fun _ w2=>Below w1.heap.size w1 w2) ?_ fun _ w2 hB=>?_
  ·refine z3b ?_
   refine z3u ?_;(conv=>whnf);refine z0i (size:=1) pc 0 64 (j:Int) rfl rfl rfl rfl rfl rfl zO zO ?_;(conv=>whnf);refine ⟨_,hcl,?_⟩;(conv=>whnf);refine ze2 rfl zK (fun r w' hR=>zzr x w' (hw x (List.mem_of_getElem? hx))) ?_;(conv=>whnf);refine z0a (ya5 (ws.take j)) (putL x) rfl rfl rfl (by rw [ya8,List.length_take,show (putL x).length=4 from zzk _ _];omega) ?_;(conv=>whnf);exact zb4 (zca () (aI rfl (aI ((by rw [hsn];rfl)) (aI rfl trivial))) fun r w3 hR=>zdg hJ hR.toBelow hJ.size)
  ·refine z3u ?_
   (conv=>whnf);refine ⟨((j+1:Nat):Int),by rw [show (j:Int)+1=((j+1:Nat):Int) by omega];exact wr64 zO,?_⟩;(conv=>whnf);exact zcc ⟨j+1,by omega⟩ Tn (fun r w3 hR=>zdg hB hR.toBelow hB.size) (by show 64-(j+1)<64-j;omega)
 ·have hj:j=64:=by simp at hc;omega
  subst hj;have ht:ws.take 64=ws:=List.take_of_length_le zO;rw [ht];(conv=>whnf);refine zcf (zb6 (zcd ?_));refine z3q ?_;(conv=>whnf);refine z3u ?_;(conv=>whnf);refine zcg ?_;(conv=>whnf)
  exact zmj rfl fun w2 hB=>⟨rfl,zdj (zdj hB1 hJ) hB⟩
theorem zsz (b:Blk) (hb:b.ok) (hv:z9o b=true) (A1 A2 A3:Option Addr) (c1 c2 c3:Nat) (w:World) (h3:OpsAt w w.heap.size A3 b.ops):Calls Tryz.prog 23 #[.agg #[.slice A1 b.at_.length c1,.slice A2 b.pages.length c2,.slice A3 b.ops.length c3]] w fun e w'=>e= .returned (.int .u32 (lenE b))∧Below w.heap.size w w':=by
 obtain ⟨⟨hl1,hl2⟩,hl3,hl4⟩:=z9y hv;have hlr:=zsv hb hv
 obtain ⟨o,ho⟩:∃ o,b.ops[b.ops.length-1]?=some o:=⟨_,List.getElem?_eq_getElem zO⟩
 have hlast:b.ops.getLast?=some o:=by rw [List.getLast?_eq_getElem?];exact ho
 have hlen:lenE b=(b.at_.length:Int)-(if o.code=22 then 1 else 0):=by
  unfold lenE;rw [hlast];simp
 refine zfg [.agg #[.slice A1 b.at_.length c1,.slice A2 b.pages.length c2,.slice A3 b.ops.length c3]] Tryz.func23 Tryz.ntmps23 rfl zS ?_
 obtain ⟨bb,off,rfl,hcell⟩:∃ bb off,A3=some ⟨bb,off,none⟩∧zac w Gs.nil bb (off+((b.ops.length-1:Nat):Int).toNat*5) (opC o):=by
  obtain ⟨bb,off,rfl,_⟩:=OpsAt.open_ h3 hl3;exact ⟨bb,off,rfl,zft h3 (fun hm=>by rcases hm with hm|hm<;>cases hm) ho⟩
 have hcell:=zfm (k:=0) hcell rfl;refine z3q ?_;(conv=>whnf);refine z3q ?_;(conv=>whnf);refine z3l (α:=Unit) (fun _=>[(3,one (.int .i64 (lenE b)))]) (fun _ w2=>Below w.heap.size w w2) ?_ fun _ w2 hB=>?_
 ·refine z3q ?_
  (conv=>whnf);rw [show decide ((b.ops.length:Int)>0)=true from decide_eq_true zO];refine kA ?_;refine ⟨((b.ops.length-1:Nat):Int),by rw [show (b.ops.length:Int)-1=((b.ops.length-1:Nat):Int) by omega];exact wr64 zO,?_⟩;refine kB ?_
  (refine ⟨⟨by omega,by omega⟩,?_⟩;(conv=>whnf))
  refine kA ?_;refine ⟨_,hcell,?_⟩;refine kB ?_;refine z3c (t:=decide (o.code=22)) rfl (fun hc=>?_) (fun hc=>?_)
  ·have hc:o.code=22:=of_decide_eq_true hc
   refine z3u ?_;(conv=>whnf);refine ⟨(b.at_.length:Int)-1,wr64 zO,?_⟩;(conv=>whnf);rw [hlen,if_pos hc];exact zca () (aI rfl trivial) fun r w3 hR=>hR.toBelow
  ·have hc:¬o.code=22:=of_decide_eq_false hc
   rw [hlen,if_neg hc,Int.sub_zero];exact z3r (zca () (aI rfl trivial) fun r w3 hR=>hR.toBelow)
 ·refine z3q ?_
  (conv=>whnf);refine ⟨lenE b,by rw [wr32];omega,?_⟩;(conv=>whnf);refine z3u ?_;(conv=>whnf);refine zcg ?_;(conv=>whnf)
  exact zmj rfl fun w2 hB2=>⟨rfl,zdj hB hB2⟩
theorem zv4 {w:World} {c:Nat} {gs:List Nat} {o:Ow} {U V:List Ow} (h:ObjsAt w (c::gs) (o::V)) (hsh:ShAll 1 U V) (hob:zaj gs.length U):ObjsAt w gs U:=by
 have hl:=h.len;have hl2:=hsh.length;simp only [List.length_cons] at hl;refine ⟨by omega,fun i j b hi hj=>?_,fun b hb=>h.lt b (List.mem_cons_of_mem _ hb),fun i x hx=>?_⟩
 ·have:=h.nodup (i+1) (j+1) b hi hj
  omega
 ·obtain ⟨o',h1,h2⟩:=hsh.get i hx
  have h3:=h.own (i+1) o' h1;have h4:=hob _ (List.mem_of_getElem? hx)
  cases x with
  |cells t l=>
   cases o' with
   |cells t' l'=>
    obtain ⟨rfl,rfl⟩:=h2;obtain ⟨b,us,e1,e2,e3⟩:=h3;exact ⟨b,us,e1,e2,zip (k:=1) (n:=gs.length) (r:=zkb (c::gs)) (fun i b _ hb=>by rw [Nat.add_comm] at hb;exact hb) h4 e3⟩
   |row=>exact h2.elim
   |ext=>exact h2.elim
   |view=>exact h2.elim
   |gone=>exact h2.elim
  |row=>exact h4.elim
  |ext=>exact h4.elim
  |view=>exact h4.elim
  |gone=>exact h4.elim
theorem zvz {w:World} {c:Nat} {gs:List Nat} {U V:List Ow} {t:TypeId} {l:List CV} {us:List Value} (hc:w.heap[c]?=some (.cells us.toArray t (0,0))) (hn:c∉gs) (h:ObjsAt w gs U) (hsh:ShAll 1 U V) (hob:zaj gs.length U) (hd:denL (zkb (c::gs)) l us):ObjsAt w (c::gs) (.cells t l::V):=by
 have hl:=h.len;have hl2:=hsh.length;refine ⟨by simp only [List.length_cons];omega,fun i j b hi hj=>?_,fun b hb=>?_,fun i x hx=>?_⟩
 ·match i,j with
  |0,0=>rfl
  |0,j+1=>
   have hi:c=b:=(by simpa using hi);subst hi;exact absurd (List.mem_of_getElem? (show gs[j]?=some c from hj)) hn
  |i+1,0=>
   have hj:c=b:=(by simpa using hj);subst hj;exact absurd (List.mem_of_getElem? (show gs[i]?=some c from hi)) hn
  |i+1,j+1=>rw [h.nodup i j b hi hj]
 ·rcases List.mem_cons.1 hb with rfl|hb
  ·exact zpt hc
  ·exact h.lt b hb
 ·match i with
  |0=>
   have hx:some _=some x:=hx;injection hx with hx;subst hx;exact ⟨c,us,rfl,hc,hd⟩
  |i+1=>
   obtain ⟨o',h1,h2⟩:=hsh.get' i (show V[i]?=some x from hx);have h3:=h.own i o' h1;have h4:=hob _ (List.mem_of_getElem? h1)
   cases o' with
   |cells t' l'=>
    cases x with
    |cells t2 l2=>
     obtain ⟨rfl,rfl⟩:=h2;obtain ⟨b,us2,e1,e2,e3⟩:=h3;exact ⟨b,us2,e1,e2,z41 (k:=1) (n:=gs.length) (r':=zkb gs) (fun i b _ hb=>by rw [Nat.add_comm];exact hb) h4 e3⟩
    |row=>exact h2.elim
    |ext=>exact h2.elim
    |view=>exact h2.elim
    |gone=>exact h2.elim
   |row=>exact h4.elim
   |ext=>exact h4.elim
   |view=>exact h4.elim
   |gone=>exact h4.elim
theorem zt8 (n p:Nat) (M:MemP):ShAll 1 (memS 0 n p M) (memS 1 n p M):=zt7 1 n p M
theorem zhl {w:World} {c:Nat} {gs:List Nat} {us:List Value} {n p:Nat} {M:MemP} (h:ObjsAt w (c::gs) (cpuU 0 us n p M)):∃ m ms,gs=m::ms∧w.heap[c]?=some (.cells (us++[pV m]).toArray cpuT (0,0))∧ObjsAt w (m::ms) (memS 0 n p M)∧c∉m::ms:=by
 have hl:gs.length=6:=(by have:=h.len;simp only [List.length_cons,List.length_nil] at this;omega);have hm:=zv4 (U:=memS 0 n p M) h (zt8 n p M) (by rw [hl];exact zt6 n p M);obtain ⟨b,us2,e1,e2,e3⟩:=h.own 0 _ rfl;injection e1 with e1;subst e1;obtain ⟨ws,rfl,d⟩:=ziu e3;obtain ⟨u,l,rfl,d1,d2⟩:=d;obtain rfl:l=[]:=d2
 have hc:c∉gs:=fun hm=>by
  obtain ⟨i,hi⟩:=List.getElem?_of_mem hm;exact absurd (h.nodup 0 (i+1) c rfl hi) zO
 match gs,hl with
 |m::ms,hl=>
  obtain ⟨b,hb,hu⟩:=zi0 (show AV.den _ (.p (.c (.ref 1 0))) u from d1);have hb:some m=some b:=hb;injection hb with hb;subst hb;subst hu;exact ⟨m,ms,rfl,e2,hm,hc⟩
theorem zhh {w:World} {c m:Nat} {ms:List Nat} {us:List Value} {n p:Nat} {M:MemP} (hc:w.heap[c]?=some (.cells (us++[pV m]).toArray cpuT (0,0))) (hm:ObjsAt w (m::ms) (memS 0 n p M)) (hn:c∉m::ms):ObjsAt w (c::m::ms) (cpuU 0 us n p M):=by
 have hl:(m::ms).length=6:=by have:=hm.len;simp only [List.length_cons,List.length_nil] at this⊢;omega
 exact zvz hc hn hm (zt8 n p M) (by rw [hl];exact zt6 n p M) (zit ⟨_,_,rfl,zix rfl,rfl⟩)
theorem zpz {w w':World} {gs:List Nat} (h:GrownBys w w' gs):Held w ⟨[],gs⟩ w':=⟨h.os,h.tape,h.output,h.size,fun k hk hn=>h.block k hk fun hm=>hn (.inr hm)⟩
section
variable {W:World} {m:Nat} {ms:List Nat} {n p:Nat} {M M':MemP}
theorem zru {fid:FuncId} {args:List AV} {us:List Value} (v:Value) (M':MemP) {K:Value→(World→Prop)→Prop} (hu:avals args=some us) (hok:fnOk Tryz.prog fid=true)
  (hc:∀ w,ObjsAt w (m::ms) (memS 0 n p M)→Calls Tryz.prog fid (pV m::us).toArray w fun e w'=>e= .returned v∧ObjsAt w' (m::ms) (memS 0 n p M')∧GrownBys w w' (m::ms)) (hK:K v fun w=>ObjsAt w (m::ms) (memS 0 n p M')):JmpJ Tryz.prog W ⟨[],m::ms⟩ (fun w=>ObjsAt w (m::ms) (memS 0 n p M)) fid (one (pV m)::args) K:=by
 refine .one hok v _ (fun w us' hh hj hd=>?_) hK;obtain ⟨u1,l1,rfl,d1,d2⟩:=hd;obtain rfl:=zi2 d1;obtain rfl:=zcs hu d2
 exact (hc w hj).mono fun e w' ⟨he,h1,h2⟩=>⟨he,zp1 hh (zpz h2) fun b hb=> .inl hb,h1⟩
theorem zrq {gs:List Nat} {J:World→Prop} {fid:FuncId} {args:List AV} {us:List Value} (v:Value) {K:Value→(World→Prop)→Prop} (hu:avals args=some us) (hok:fnOk Tryz.prog fid=true)
  (hJ:∀ w w',J w→Below w.heap.size w w'→J w') (hc:∀ w,Held W ⟨[],gs⟩ w→J w→Calls Tryz.prog fid us.toArray w fun e w'=>e= .returned v∧Below w.heap.size w w') (hK:K v J):JmpJ Tryz.prog W ⟨[],gs⟩ J fid args K:=by
 refine .one hok v _ (fun w us' hh hj hd=>?_) hK;obtain rfl:=zcs hu hd
 exact (hc w hh hj).mono fun e w' ⟨he,hB⟩=>⟨he,zp1 (gs1:=[]) hh (zpy hB) nofun,hJ w w' hj hB⟩
theorem ztz (w w':World) (h:ObjsAt w (m::ms) (memS 0 n p M)) (hB:Below w.heap.size w w'):ObjsAt w' (m::ms) (memS 0 n p M):=zv0 (zt6 n p M) h hB
end
section
variable {w w':World} {h c m:Nat} {ms:List Nat} {us:List Value} {n p:Nat} {M M':MemP} {base ctx size:Int}
theorem HoAt.turn (ho:HoAt w h c m ms us n p M base ctx size) (hh:Held w ⟨[],m::ms⟩ w') (hm:ObjsAt w' (m::ms) (memS 0 n p M')):HoAt w' h c m ms us n p M' base ctx size:=
 ⟨(zpu hh (zpt ho.host) ho.hm).trans ho.host,(zpu hh (zpt ho.cpu) ho.cm).trans ho.cpu,ho.ul,hm,ho.hc,ho.hm,ho.cm⟩
theorem HoAt.ptrH (ho:HoAt w h c m ms us n p M base ctx size):zac w (Gs.flat ⟨[],m::ms⟩) c (0+24) [pV m]:=
 zpx ho.cpu ho.cm (by rw [List.getElem?_append_right (by rw [ho.ul];exact Nat.le_refl _),ho.ul];rfl)
theorem zqk (f j:Nat) (M:MemP):zqh f (j+1) M=(zqh f j M).syncM ((256*(f+j):Nat):Int):=rfl
theorem zyf (ho:HoAt w h c m ms us n p M base ctx size) (hM:M.ok n p) (hn8:8<n) (G:Nat) (hG:size=256*(G:Int)) (hGp:G<p) (off:Int) (ha:word (base+off)) (hof:word off) (l:List Int) (hbl:∀ x∈l,0≤x∧x<256) (hlen:l.length≤1000000):
  Calls Tryz.prog 37 #[pV h,intV off,strV l] w fun e w'=>e= .returned (.tuple #[])∧HoAt w' h c m ms us n p (zqh (G+1) (p-(G+1)) (M.pokeAt (base+off) l l.length)) base ctx size∧Held w ⟨[],m::ms⟩ w':=by
 have hpm:=hM.pmax;have hM1:(M.pokeAt (base+off) l l.length).ok n p:=zy5 hM _ hbl _ (Nat.le_refl _);refine zfg [pV h,intV off,strV l] Tryz.func37 Tryz.ntmps37 rfl zS ?_;refine z3e ?_;refine z3s (m::ms) (.q 0 (.q 1 (.q 2 (.q 3 (.q 4 (.q 5 (.q 6 (.q 7 (.q 8 (.q 9 (.q 10 (.q 11 (.q 12 (.q 13 (.q 14 (.alt 15 .done .no)))))))))))))))) (fun w=>ObjsAt w (m::ms) (memS 0 n p M)) (fun w hB=>zv0 (zt6 n p M) ho.mem hB) mixed zK zK ?_;(conv=>whnf);refine ⟨_,zpx ho.host ho.hm (k:=0+0) rfl,?_⟩;(conv=>whnf);refine ⟨_,ho.ptrH,?_⟩;(conv=>whnf);refine ⟨_,zpx ho.host ho.hm (k:=0+1) rfl,?_⟩;(conv=>whnf);refine ⟨off,by rw [wr32];unfold word at hof;omega,?_⟩;(conv=>whnf);refine ⟨base+off,by rw [wr32];unfold word at ha;omega,?_⟩;(conv=>whnf);refine ⟨?_,trivial⟩;refine zru (.tuple #[]) (M.pokeAt (base+off) l l.length) (us:=[.int .u32 (base+off),strV l]) rfl zK (fun w hU=>zuj M n p (base+off) l w m ms hU hM ha hbl hlen hn8) ?_;(conv=>whnf);intro w1 hh1 hj1;refine zcd ?_;have ho1:=ho.turn hh1 hj1;clear hj1;refine z3q ?_;(conv=>whnf);refine ⟨_,zd1 (off:=0+3) ho1.host rfl,?_⟩;(conv=>whnf);refine ⟨by decide,(G:Int),by rw [hG,Int.tdiv_eq_ediv_of_nonneg zO,wr64 zO];omega,?_⟩;(conv=>whnf);refine ⟨((G+1:Nat):Int),by rw [show (G:Int)+1=((G+1:Nat):Int) by omega];exact wr64 zO,?_⟩;(conv=>whnf);refine z3b ?_;refine z3j (fun j:{j:Nat//j≤p-(G+1)}=>[(0,one (pV h)),(6,one (.int .i64 ((G+1+j.1:Nat):Int)))]) (fun j w'=>HoAt w' h c m ms us n p (zqh (G+1) j.1 (M.pokeAt (base+off) l l.length)) base ctx size∧Held w ⟨[],m::ms⟩ w') (fun j=>p-(G+1)-j.1) ⟨0,by omega⟩ Tn (fun r w' hR=>⟨ho1.later hR.toBelow,zp1 (gs1:=[]) hh1 (zpy hR.toBelow) nofun⟩) (fun j w' hJ=>?_);obtain ⟨j,hj⟩:=j;dsimp only at hJ⊢;obtain ⟨ho2,hh2⟩:=hJ;have hMj:=zqj (G+1) hM1 j;have hs:=zqk (G+1) j (M.pokeAt (base+off) l l.length);generalize hMe:zqh (G+1) j (M.pokeAt (base+off) l l.length)=Mj at ho2 hMj hs;refine z3e ?_;refine z3q ?_;(conv=>whnf);refine ⟨_,zd1 (off:=0+0) ho2.host rfl,?_⟩;(conv=>whnf);refine ⟨_,ho2.ptr,?_⟩;(conv=>whnf);refine ze3 rfl zK ho2.mem (fun w' hU=>zuh Mj n p w' m ms hU) ?_;(conv=>whnf);refine z3c rfl (fun hc=>z3r (zcd ?_)) (fun hc=>?_)
 ·have hlt:G+1+j<p:=by have:=of_decide_eq_true hc;omega
  refine z3l (α:=Unit) (fun _=>[(0,one (pV h)),(6,one (.int .i64 ((G+1+j:Nat):Int)))]) (fun _ w2=>HoAt w2 h c m ms us n p (zqh (G+1) (j+1) (M.pokeAt (base+off) l l.length)) base ctx size∧Held w ⟨[],m::ms⟩ w2) ?_ fun _ w2 hl=>?_
  ·refine z3b ?_
   refine z3p (m::ms) (fun w=>ObjsAt w (m::ms) (memS 0 n p Mj)) (fun w hB=>zv0 (zt6 n p Mj) ho2.mem hB) ?_;(conv=>whnf);refine ⟨_,zpx ho2.host ho2.hm (k:=0+0) rfl,?_⟩;(conv=>whnf);refine ⟨_,ho2.ptrH,?_⟩;(conv=>whnf);refine ⟨((256*(G+1+j):Nat):Int),by rw [show (256:Int)*((G+1+j:Nat):Int)=((256*(G+1+j):Nat):Int) by omega];exact wr64 zO,?_⟩;(conv=>whnf);refine ⟨((256*(G+1+j):Nat):Int),by rw [wr32];omega,?_⟩;(conv=>whnf);refine zru (.bool (decide (((256*(G+1+j):Nat):Int)<(n:Int)))) (Mj.syncM ((256*(G+1+j):Nat):Int)) (us:=[.int .u32 ((256*(G+1+j):Nat):Int)]) rfl zK (fun w hU=>zup Mj n p _ w m ms hU hMj (by unfold word;omega)) ?_;(conv=>whnf);intro w3 hh3 hj3;refine zb4 (zca () Tn fun r w4 hR=>?_);rw [hs];exact ⟨(ho2.turn hh3 hj3).later hR.toBelow,zp1 (gs1:=[]) (zp1 hh2 hh3 fun b hb=> .inl hb) (zpy hR.toBelow) nofun⟩
  ·refine z3u ?_
   (conv=>whnf);refine ⟨((G+1+(j+1):Nat):Int),by rw [show ((G+1+j:Nat):Int)+1=((G+1+(j+1):Nat):Int) by omega];exact wr64 zO,?_⟩;(conv=>whnf);exact zcc ⟨j+1,by omega⟩ Tn (fun r w3 hR=>⟨hl.1.later hR.toBelow,zp1 (gs1:=[]) hl.2 (zpy hR.toBelow) nofun⟩) (by show p-(G+1)-(j+1)<p-(G+1)-j;omega)
 ·have hje:j=p-(G+1):=by have:=of_decide_eq_false hc;omega
  subst hje;refine z3u ?_;(conv=>whnf);refine zb7 (zcf (zb6 (zb5 ?_)));(conv=>whnf)
  exact zmj rfl fun w2 hB=>⟨rfl,by rw [hMe];exact ho2.later hB,zp1 (gs1:=[]) hh2 (zpy hB) nofun⟩
end
end Go.Proofs.YtocafomnnkmjfaaGreat
