import Derived.ProofKit
import Derived.OpenShut
import Derived.ShutString
import Derived.ChangeOld
import Derived.Below
import Derived.Lib.SmallJoins
import Derived.Deep.Strs
import Derived.Test.YtocafomnnkmjfaaGreatK38
set_option maxRecDepth 100000
set_option maxHeartbeats 4000000
namespace Go.Proofs.YtocafomnnkmjfaaGreat
open Go.ChangeShapes Go.WideShapes Go.ChangeAt Go.RowKit
theorem ownK:ownKnob Tryz.prog.godebug=none:=by kernel_rfl
theorem yc0:laidOutB Tryz.prog=true:=by kernel_rfl
theorem ydg {n:Int} (h:(Lit.int .u32 n).wf=true):word n:=by
 simp [Lit.wf,IntKind.min,IntKind.max,IntKind.signed,IntKind.bits] at h;unfold word;omega
theorem ycv {n:Int} (h:(Lit.int .i64 n).wf=true): -9223372036854775808≤n∧n<9223372036854775808:=by
 simp [Lit.wf,IntKind.min,IntKind.max,IntKind.signed,IntKind.bits] at h;omega
theorem yc5 {H:Type} {enc:TypeId×Value→H} {W:World} {fuel n:Nat} {t e:TypeId} {k:IntKind} {cs:List Value} {x:DataW H×List MemPlace} (ht:Tryz.prog.underlying t=some (.array n e)) (he:Tryz.prog.underlying e=some (.int k)) (hc:Tryz.prog.cellsOf e=1) (hct:Tryz.prog.cellsOf t=n)
  (h:DataW.trod enc Tryz.prog W 0 (fun _=>true) true fuel t cs=some x):∃ zs:List Int,cs=zs.map (Value.int k)∧zs.length=n∧∀ z∈zs,(Lit.int k z).wf=true:=by
 obtain ⟨xs,m,_,_,hl,hlen,hel⟩:=DataW.trod_array ht h;rw [hct] at hl
 have get:∀ i (hi:i<n),∃ z,cs[i]?=some (.int k z)∧(Lit.int k z).wf=true:=fun i hi=>by
  have:=hel i hi;rw [hc,List.getElem?_eq_getElem zO] at this;obtain ⟨z,e1,_,e3⟩:=DataW.trod_int he this;refine ⟨z,?_,e3⟩;have h0:((cs.drop (i*1)).take 1)[0]?=some (.int k z):=(by rw [e1];rfl);rw [List.getElem?_take,if_pos zO,List.getElem?_drop] at h0
  simpa using h0
 refine ⟨(List.range n).map fun i=>intOf (cs.getD i undef),?_,by simp,fun z hz=>?_⟩
 ·refine List.ext_getElem? fun i=>?_
  rw [List.getElem?_map,List.getElem?_map];rcases Nat.lt_or_ge i n with hi|hi
  ·obtain ⟨z,e1,_⟩:=get i hi
   rw [List.getElem?_range hi,e1];simp [List.getD_eq_getElem?_getD,e1,intOf]
  ·rw [List.getElem?_eq_none zO,List.getElem?_eq_none (by simpa using hi)];rfl
 ·obtain ⟨i,hi,rfl⟩:=List.mem_map.1 hz
  have hi:i<n:=by simpa using hi
  obtain ⟨z,e1,e2⟩:=get i hi
  simpa [List.getD_eq_getElem?_getD,e1,intOf] using e2
open Go.RowKit
theorem yc4 (n m:Int) (hm:0<m):(n.tmod m+m).tmod m=n%m∧ -m<n.tmod m∧n.tmod m<m:=by
 have h1:=Int.tmod_lt_of_pos n hm;have h2: -m<n.tmod m:=(by have:=Int.lt_tmod_of_pos n hm;omega);refine ⟨?_,h2,h1⟩;rw [Int.tmod_eq_emod_of_nonneg zO,Int.add_emod_right];have:n=m*n.tdiv m+n.tmod m:=(Int.mul_tdiv_add_tmod n m).symm
 conv=>rhs;rw [this]
 rw [Int.mul_add_emod_self_left]
theorem yc3 (n m:Int) (w:World) (hm:0<m∧m<4611686018427387904):Calls Tryz.prog 20 #[intV n,intV m] w fun e w'=>e= .returned (intV (n%m))∧Below w.heap.size w w':=by
 obtain ⟨h1,h2,h3⟩:=yc4 n m hm.1
 refine zfj [intV n,intV m] Tryz.func20 Tryz.ntmps20 rfl zS ?_
 conv=>whnf
 refine ⟨by omega,_,rfl,?_⟩
 conv=>whnf
 refine ⟨n.tmod m+m,wr64 zO,?_⟩
 conv=>whnf
 refine ⟨by omega,_,h1,?_⟩
 conv=>whnf
 exact zmj rfl fun w' hB=>⟨rfl,hB⟩
section
variable {P:Program} {w0:World} {G:Gs} {N:Nd} {c d:Code} {f:Fr} {S:List Ow} {Q:Exit→Act→World→Prop} {α:Type}
theorem yck {T:α→Fr} {J:α→World→Prop} {id:Nat} (h:AtQ w0 G N (.exit id) f S Q):AtQ w0 G N (.exit id) f S (MidW N T J Q):=⟨fun a w hg=>h.out a w hg⟩
end
theorem ycp {P:Program} {w0:World} {G:Gs} {fid:FuncId} {args:List AV} {xs:List Value} {S:List Ow} {K:AV→List Ow→Prop} (post:Value→Prop) (hx:avals args=some xs) (hok:fnOk P fid=true)
  (h:∀ r w,Rel w0 G S r w→Calls P fid xs.toArray w fun e w'=>∃ v,e= .returned v∧post v∧Below w.heap.size w w') (hK:∀ v,post v→K (AV.of v) S):CallS P w0 G fid args S K:=by
 refine ⟨hok,fun r w us hR hd=>?_⟩;obtain rfl:=zcs hx hd
 exact (h r w hR).mono fun e w' ⟨v,he,hp,hB⟩=>⟨_,v,S,r,he,AV.of_den r v,hR.below hB,Env.le.refl r,hK v hp⟩
theorem yc6 {H:Type} {enc:TypeId×Value→H} {W:World} {r:Reach} {b0:Nat} {v:Value} {d:DataW H} {p:List MemPlace} (hv:Value.okWide Tryz.prog W r b0 23 v) (h:DataW.Trod enc Tryz.prog W 0 (fun _=>true) true 23 v d p):
  ∃ a b c e:Int,v= .agg #[intV a,intV b,intV c,intV e]∧(-9223372036854775808≤a∧a<9223372036854775808)∧(-9223372036854775808≤b∧b<9223372036854775808)∧(-9223372036854775808≤c∧c<9223372036854775808)∧(-9223372036854775808≤e∧e<9223372036854775808):=by
 simp only [Value.okWide,Tryz.underlying23] at hv;obtain ⟨cs,rfl,hsz,_⟩:=hv;obtain ⟨fuel,hf⟩:=h;obtain ⟨zs,e,l,w⟩:=yc5 (k:= .i64) Tryz.underlying23 Tryz.underlying3 zK zK hf;have e:cs.toList=zs.map (Value.int .i64):=e
 match zs,l with
 |[z0,z1,z2,z3],_=>
  refine ⟨z0,z1,z2,z3,?_,ycv (w _ zS),ycv (w _ zS),ycv (w _ zS),ycv (w _ zS)⟩;show Value.agg cs=Value.agg ([z0,z1,z2,z3].map (Value.int .i64)).toArray;rw [← e]
theorem yc7 {H:Type} {enc:TypeId×Value→H} {W:World} {x:Int} {d:DataW H} {p:List MemPlace} (h:DataW.Trod enc Tryz.prog W 0 (fun _=>true) true 41 (.int .u32 x) d p):word x:=by
 obtain ⟨fuel,hf⟩:=h;obtain ⟨z,e1,_,e3⟩:=DataW.trod_int Tryz.underlying41 hf;simp [Value.cells] at e1;obtain rfl:=e1;exact ydg e3
section
variable {w:World}
theorem ycs {b:Blk} {A1 A2 A3:Option Addr} {c1 c2 c3:Nat} (hb:b.ok) (hv:z9o b=true) (hBA:BlkAt w b A1 A2 A3) {a:List Int} (ha:a.length=28) (hva:za2 a=true) (hal:∀ v,0≤v→v<28→ -1000≤getV a v∧getV a v≤1000) {G:Nat} {gm:MemP} {g0:Nat} {gs0:List Nat} (hG:1≤G∧G≤16) (hU:ObjsAt w (g0::gs0) (memS 0 (256*G) G gm)):
  Calls Tryz.prog 17 #[blkV b A1 A2 A3 c1 c2 c3,.agg (alL a).toArray,pV g0] w fun e w'=>∃ A cp,e= .returned (.tuple #[codV (yao b a (256*(G:Int)) (256*(G:Int)) 0) A cp,.bool true])∧SlAt w' w'.heap.size A ((z5y 0 (yao b a (256*(G:Int)) (256*(G:Int)) 0)).flatMap z5s)∧Below w.heap.size w w':=by
 obtain ⟨l,hle⟩:∃ l,l=yao b a (256*(G:Int)) (256*(G:Int)) 0:=⟨_,rfl⟩
 have hw:=yap (b:=b) (a:=a) (ctx:=256*(G:Int)) (size:=256*(G:Int)) (pred:=0) hv;have h8:=yau b a (256*(G:Int)) (256*(G:Int)) 0;have hbo:=yas (ctx:=256*(G:Int)) (size:=256*(G:Int)) (a:=a) hb hv yax;obtain ⟨hll,hlo⟩:=z9y hv;have htl:=z8w l;have hsc:=z50 l 0;have hbo':BuiltOk (z5y 0 (yao b a (256*(G:Int)) (256*(G:Int)) 0)) ((4*(yao b a (256*(G:Int)) (256*(G:Int)) 0).length:Nat):Int):=(by rw [show ((4*(yao b a (256*(G:Int)) (256*(G:Int)) 0).length:Nat):Int)=4*((yao b a (256*(G:Int)) (256*(G:Int)) 0).length:Int) by omega];exact hbo);refine zfg [blkV b A1 A2 A3 c1 c2 c3,.agg (alL a).toArray,pV g0] Tryz.func17 Tryz.ntmps17 rfl zS ?_;refine z3q ?_;(conv=>whnf);refine z3n fun r w1 hR=>?_;obtain ⟨p3,us,e1,e2,e3⟩:=hR.own 0 _ rfl;obtain rfl:=zis (us:=[.slice A1 b.at_.length c1,.slice A2 b.pages.length c2,.slice A3 b.ops.length c3]) e3;obtain ⟨p4,us,f1,f2,f3⟩:=hR.own 1 _ rfl;obtain rfl:=zis (us:=alL a) f3;obtain ⟨p6,us,g1,g2,g3⟩:=hR.own 2 _ rfl;obtain rfl:=zis (us:=[strV [],.slice none 0 0]) g3;have hfp6:=zoc hR g1;have hB1:=hR.toBelow;refine ⟨z6l [(2,pV g0),(3,pV p3),(4,pV p4),(6,pV p6)],fun a' hf=>z6u ⟨z6s hf rfl,z6q hf 3 rfl e1,z6q hf 4 rfl f1,z6q hf 6 rfl g1,trivial⟩,?_⟩;clear hR e3 f3 g3 e1 f1 g1;have hU1:=zv0 (zt6 (256*G) G gm) hU hB1;have hBA1:=hBA.later hB1;refine z3q ?_;(conv=>whnf);refine ze3 rfl zK hU1 (fun w' hU=>zuh gm (256*G) G w' g0 gs0 hU) ?_;(conv=>whnf);refine ⟨256*(G:Int),wr64 zO,?_⟩;(conv=>whnf);refine z3e (z3g 5 rfl rfl rfl ?_);(conv=>whnf);refine ⟨_,zd0 e2,rfl,?_⟩;(conv=>whnf);refine ⟨alL a,zd0 f2,by rw [List.length_map,ha];rfl,?_⟩;(conv=>whnf);refine ⟨256*(G:Int),by rw [wr32];omega,?_⟩;(conv=>whnf);refine ⟨by kernel_rfl,fun r w2 us' hR hd=>?_⟩;obtain rfl:=zcs (xs:=[blkV b A1 A2 A3 c1 c2 c3,.agg (alL a).toArray,.int .u32 (256*(G:Int)),.int .i64 (256*(G:Int))]) (zct _ _ _ a) hd;have hB2:=hR.toBelow;have hBA2:=hBA1.later hB2;refine (zjj b A1 A2 A3 c1 c2 c3 a (256*(G:Int)) (256*(G:Int)) hb hv hBA2.pages hBA2.ops ha hva (by unfold word;omega) zO hal).mono fun e w3 ⟨⟨A,cp,he,hsl⟩,hB3⟩=>?_;rw [← hle] at he hsl;have hB13:=zdg hB2 hB3 hB2.size;refine ⟨_,AV.of (.tuple #[codV l A cp,.int .i64 0]),w3,Gs.nil,[(3,one (pV p3)),(6,one (pV p6))],[],Env.none,he,z1w w3,fun a hf=>znv ⟨z6r hf 3 rfl,z6r hf 6 rfl,trivial⟩,AV.of_den _ _,?_⟩;clear hR hd hBA2 hB2 hB3 he;(conv=>whnf);refine zcd ?_;refine z3n fun r w4 hR=>?_;obtain ⟨p9,us,y1,y2,y3⟩:=hR.own 0 _ rfl;obtain rfl:=zis (us:=[strV (z8v l),.slice A (z5y 0 l).length cp]) y3;have hfp9:=zoc hR y1;have hB4:=hR.toBelow;refine ⟨z6l [(3,pV p3),(6,pV p6),(9,pV p9),(10,.int .i64 0)],fun a' hf=>z6u ⟨z6s hf rfl,z6s hf rfl,z6q hf 9 rfl y1,z6s hf rfl,trivial⟩,?_⟩;clear hR y1 y3;have hB14:=zdg hB13 hB4 hB13.size;have e24:=(hB14.block p3 (zpt e2)).trans e2;have g24:=(hB14.block p6 (zpt g2)).trans g2;have hsl4:SlAt w4 w4.heap.size A ((z5y 0 l).flatMap z5s):=(hsl.below hB4 (Nat.le_refl _)).more hB4.size;have hp6:w.heap.size≤p6:=hfp6
 have h96:p9≠p6:=fun e=>by have:=hfp9;have:=zpt g2;have:=hB13.size;omega
 have hnA:∀ b' off',A=some ⟨b',off',none⟩→b'∉[p6]:=fun b' off' e hm=>by
  rw [List.mem_singleton] at hm;subst hm;obtain ⟨idx,hix,_⟩:=z5v l 0 6 (zqv ⟨1,0,0,0,0⟩) ⟨1,0,0,0,0⟩ (by rw [hle];rfl) rfl;obtain ⟨b2,o2,e2',h2,hc⟩:=hsl4 (idx*6+0) _ (zm6 _ idx _ hix 0 zO);rw [e] at e2';injection e2' with e2';injection e2' with e3 e4;subst e3;have hc:w4.cell? ⟨b',o2+(idx*6+0),none⟩=some (.int .i64 (4*((0+6:Nat):Int))):=hc;unfold World.cell? at hc;rw [g24] at hc
  match o2+(idx*6+0),hc with
  |0,hc=>exact absurd hc (by simp [strV])
  |1,hc=>exact absurd hc zS
  |n+2,hc=>exact absurd hc zS
 refine z3v 6 0 p6 rfl ⟨[p6],[]⟩ [.cells coT [.v (strV []),.v (.slice none 0 0)]] fun r w5 hR5=>?_;have hB5:=hR5.toBelow;have g25:=(hB5.block p6 (zpt g24)).trans g24;have e25:=(hB5.block p3 (zpt e24)).trans e24;have y25:=(hB5.block p9 (zpt y2)).trans y2;have hsl5:SlAt w5 w5.heap.size A ((z5y 0 l).flatMap z5s):=(hsl4.below hB5 (Nat.le_refl _)).more hB5.size;have hB15:=zdg hB14 hB5 hB14.size
 have n9:p9∉Gs.flat ⟨[p6],[]⟩:=fun hm=>by
  rcases zm5.1 hm with hm|hm
  ·exact h96 (List.mem_singleton.1 hm)
  ·cases hm
 have n3:p3∉Gs.flat ⟨[p6],[]⟩:=fun hm=>by
  rcases zm5.1 hm with hm|hm
  ·have:=List.mem_singleton.1 hm
   subst this;rw [e24] at g24;simp at g24
  ·cases hm
 refine ⟨_,z1x (zv2 g25),rfl,?_⟩;refine z3q ?_;refine z23 (.q 0 (.q 1 (.q 2 (.q 3 (.alt 4 (.alt 5 (.q 6 .done) .no) .no))))) mixed zK zK ?_;(conv=>whnf);refine ⟨_,zfo (zd0 y25) n9,rfl,?_⟩;(conv=>whnf);refine ⟨_,zfo (zd0 e25) n3,rfl,?_⟩;(conv=>whnf);refine ⟨_,zfo (zd0 y25) n9,rfl,?_⟩;(conv=>whnf);refine ⟨?_,trivial⟩;refine ze2 (x:= .bool true) (xs:=[blkV b A1 A2 A3 c1 c2 c3,codV l A cp,.int .i64 0]) rfl zK (fun r w' hR=>zeh (z8v l) (z5y 0 l) (z6i hR hsl5 hnA) (by rw [htl,hle];omega) hlo.2 (by rw [hle] at hsc⊢;omega) (by rw [htl,hle];exact hbo')) ?_;(conv=>whnf);refine ⟨?_,trivial⟩;(conv=>whnf);refine z3u ?_;(conv=>whnf);refine zcg ?_;(conv=>whnf);refine ⟨fun r2 w9 u hR hd=>?_⟩;rw [AV.val_den (x:= .tuple #[codV l A cp,.bool true]) rfl hd];have hgr:=hR.growns;have hz1:=hB1.size;have hz5:=hB15.size;refine ⟨A,cp,by rw [hle],by rw [← hle];exact z6i hR hsl5 hnA,hgr.os.trans (hB15.os.trans hB1.os),hgr.tape.trans (hB15.tape.trans hB1.tape),hgr.output.trans (hB15.output.trans hB1.output),Nat.le_trans hz1 (Nat.le_trans hz5 hgr.size),fun k hk=>(hgr.block k zO fun hm=>by rw [List.mem_singleton] at hm;omega).trans ((hB15.block k zO).trans (hB1.block k hk))⟩
end
abbrev yct (n0 n1 n2 n3:Int):Value:= .agg #[intV n0,intV n1,intV n2,intV n3]
theorem ydh (x:Int):0≤IntKind.u8.wrap x∧IntKind.u8.wrap x<256:=by
 show 0≤x%256∧x%256<256;omega
section
variable {w:World}
theorem yc2 (n0 n1 n2 n3:Int):Calls Tryz.prog 16 #[yct n0 n1 n2 n3] w fun e w'=>∃ (G g:Nat) (gs:List Nat) (M:MemP),e= .returned (pV g)∧(1≤G∧G≤4)∧M.ok (256*G) G∧ObjsAt w' (g::gs) (memS 0 (256*G) G M)∧(∀ b∈g::gs,w.heap.size≤b)∧Below w.heap.size w w':=by
 obtain ⟨G,hG⟩:∃ G:Nat,(G:Int)=1+n0%4:=⟨(1+n0%4).toNat,by omega⟩
 have hG4:1≤G∧G≤4:=(by omega);refine zfg [yct n0 n1 n2 n3] Tryz.func16 Tryz.ntmps16 rfl zS ?_;refine z3q ?_;(conv=>whnf);refine z3n fun r w1 hR=>?_;obtain ⟨p1,us,e1,e2,e3⟩:=hR.own 0 _ rfl;obtain rfl:=zis (us:=[intV n0,intV n1,intV n2,intV n3]) e3;have hB1:=hR.toBelow;have hp1:=zoc hR e1;refine ⟨z6l [(1,pV p1)],fun a' hf=>z6u ⟨z6q hf 1 rfl e1,trivial⟩,?_⟩;clear hR e3 e1;refine z3q ?_;(conv=>whnf);refine z0i (size:=1) p1 0 4 0 rfl rfl rfl rfl rfl rfl zO zO ?_;(conv=>whnf);refine ⟨_,zd1 e2 rfl,?_⟩;(conv=>whnf);refine ze2 (x:=intV (n0%4)) rfl zK (fun r w' hR=>yc3 n0 4 w' zO) ?_;(conv=>whnf);refine ⟨(G:Int),by rw [hG];exact wr64 zO,?_⟩;(conv=>whnf);refine z3e (z3f 1 rfl rfl rfl ?_);(conv=>whnf);refine ⟨by kernel_rfl,fun r w2 us' hR hd=>?_⟩;obtain rfl:=zcs (xs:=[intV (G:Int),.bool false]) rfl hd;have hB2:=hR.toBelow
 refine (zuu G w2 zO).mono fun e w3 ⟨g,gs,he,hn⟩=>⟨_,he,?_⟩
 have hB3:=zdg (zdg hB1 hB2 hB1.size) hn.below (Nat.le_trans hB1.size hB2.size);have hz3:=Nat.le_trans hB1.size hB2.size;have hfr:=hn.fresh;have hU3:=hn.at_;have hM0:(MemP.zero G).ok (256*G) G:=zuq zO;have e23:w3.heap[p1]?=some (.cells ([intV n0,intV n1,intV n2,intV n3]:List Value).toArray 23 (0,0)):=((hn.below.block p1 (Nat.lt_of_lt_of_le (zpt e2) hB2.size)).trans (hB2.block p1 (zpt e2))).trans e2
 have hpn:p1∉g::gs:=fun hm=>by
  have:=hfr p1 hm;have:=zpt e2;have:=hB2.size;omega
 have hfw:∀ b∈g::gs,w.heap.size≤b:=fun b hb=>by have:=hfr b hb;omega
 clear hn hfr hB1 hB2 hR hd e2;(conv=>whnf);refine zcd ?_;refine z3e ?_;refine z3q ?_;(conv=>whnf);refine z3b ?_;refine z3j (fun j:{j:Nat//j≤G}=>[(1,one (pV p1)),(3,one (intV (G:Int))),(4,one (pV g)),(5,one (intV (j.1:Int)))]) (fun j w'=>∃ M:MemP,M.ok (256*G) G∧ObjsAt w' (g::gs) (memS 0 (256*G) G M)∧Held w3 ⟨[],g::gs⟩ w') (fun j=>G-j.1) ⟨0,by omega⟩ Tn (fun r w' hR=>⟨_,hM0,zv0 (zt6 _ _ _) hU3 hR.toBelow,zpy hR.toBelow⟩) (fun j w' hJ=>?_);obtain ⟨j,hj⟩:=j;dsimp only at hJ⊢;obtain ⟨M,hM,hU4,hh4⟩:=hJ;have e24:=(zpu hh4 (zpt e23) hpn).trans e23;refine z3e ?_;refine z3q ?_;(conv=>whnf);refine z3c rfl (fun hc=>z3r (zcd ?_)) (fun hc=>?_)
 ·have hlt:j<G:=by have:=of_decide_eq_true hc;omega
  refine z3l (α:=Unit) (fun _=>[(1,one (pV p1)),(3,one (intV (G:Int))),(4,one (pV g)),(5,one (intV (j:Int)))]) (fun _ w2=>∃ M:MemP,M.ok (256*G) G∧ObjsAt w2 (g::gs) (memS 0 (256*G) G M)∧Held w3 ⟨[],g::gs⟩ w2) ?_ fun _ w2 hl=>?_
  ·refine z3b ?_
   refine z3q ?_;(conv=>whnf);refine z3l (α:={x:Int//0≤x∧x<4}) (fun x=>[(1,one (pV p1)),(3,one (intV (G:Int))),(4,one (pV g)),(5,one (intV (j:Int))),(6,one (intV x.1))]) (fun _ w2=>Below w'.heap.size w' w2) ?_ fun x w5 hB5=>?_
   ·refine z3q ?_
    (conv=>whnf);refine z0i (size:=1) p1 0 4 1 rfl rfl rfl rfl rfl rfl zO zO ?_;(conv=>whnf);refine ⟨_,zd1 e24 rfl,?_⟩;(conv=>whnf);refine ⟨((j+1:Nat):Int),by rw [show (j:Int)+1=((j+1:Nat):Int) by omega];exact wr64 zO,?_⟩;(conv=>whnf);refine ⟨by omega,_,rfl,?_⟩;(conv=>whnf);refine ze2 (x:=intV (_%4)) rfl zK (fun r w' hR=>yc3 _ 4 w' zO) ?_;(conv=>whnf);refine z3c rfl (fun hc=>?_) (fun hc=>?_)
    ·refine z3u ?_
     (conv=>whnf);refine z0i (size:=1) p1 0 4 1 rfl rfl rfl rfl rfl rfl zO zO ?_;(conv=>whnf);refine ⟨_,zd1 e24 rfl,?_⟩;(conv=>whnf);refine ze2 (x:=intV (n1%4)) rfl zK (fun r w' hR=>yc3 n1 4 w' zO) ?_;(conv=>whnf);exact zca ⟨n1%4,by omega⟩ Tn fun r w3 hR=>hR.toBelow
    ·exact z3r (zca ⟨3,by omega⟩ Tn fun r w3 hR=>hR.toBelow)
   ·obtain ⟨x,hx⟩:=x
    dsimp only;have hU5:=zv0 (zt6 _ _ _) hU4 hB5;have hh5:=zp1 (gs1:=[]) hh4 (zpy hB5) nofun;refine z3e (z3f 3 rfl rfl rfl ?_);(conv=>whnf);refine ⟨by kernel_rfl,fun r w6 us' hR hd=>?_⟩;obtain rfl:=zcs (xs:=[pV g,intV (j:Int),intV x]) rfl hd;have hU6:=zv0 (zt6 _ _ _) hU5 hR.toBelow;have hh6:=zp1 (gs1:=[]) hh5 (zpy hR.toBelow) nofun
    refine (zuk M (256*G) G j x w6 g gs hU6 hM hlt zO zO).mono fun e w7 ⟨he,hU7,hg7⟩=>⟨_,he,?_⟩
    have hh7:=zp1 hh6 (zpz hg7) fun b hb=> .inl hb;have hM7:=zzd hM j (x:=x) zO;generalize M.protect j x=M7 at hM7 hU7;clear hR hd hU6 hh6 hg7 hU5 hh5;(conv=>whnf);refine zcd ?_;refine z3q ?_;(conv=>whnf);refine z3b ?_;refine z3j (fun q:{q:Nat//q≤37}=>[(1,one (pV p1)),(3,one (intV (G:Int))),(4,one (pV g)),(5,one (intV (j:Int))),(7,one (intV (7*(q.1:Int))))]) (fun _ w2=>∃ M:MemP,M.ok (256*G) G∧ObjsAt w2 (g::gs) (memS 0 (256*G) G M)∧Held w3 ⟨[],g::gs⟩ w2) (fun q=>37-q.1) ⟨0,by omega⟩ Tn (fun r w'' hR=>⟨M7,hM7,zv0 (zt6 _ _ _) hU7 hR.toBelow,zp1 (gs1:=[]) hh7 (zpy hR.toBelow) nofun⟩) (fun q w8 hJ2=>?_);obtain ⟨q,hq⟩:=q;dsimp only at hJ2⊢;obtain ⟨M8,hM8,hU8,hh8⟩:=hJ2;have e28:=(zpu hh8 (zpt e23) hpn).trans e23;refine z3e ?_;refine z3q ?_;(conv=>whnf);refine z3c rfl (fun hc=>z3r (zcd ?_)) (fun hc=>?_)
    ·have hlt:q<37:=by have:=of_decide_eq_true hc;omega
     refine z3l (α:=Unit) (fun _=>[(1,one (pV p1)),(3,one (intV (G:Int))),(4,one (pV g)),(5,one (intV (j:Int))),(7,one (intV (7*(q:Int))))]) (fun _ w2=>∃ M:MemP,M.ok (256*G) G∧ObjsAt w2 (g::gs) (memS 0 (256*G) G M)∧Held w3 ⟨[],g::gs⟩ w2) ?_ fun _ w2 hl=>?_
     ·refine z3b ?_
      refine z3f 16 rfl rfl rfl ?_;(conv=>whnf);refine ⟨256*(j:Int),wr64 zO,?_⟩;(conv=>whnf);refine ⟨256*(j:Int)+7*(q:Int),wr64 zO,?_⟩;(conv=>whnf);refine ⟨256*(j:Int)+7*(q:Int),by rw [wr32];omega,?_⟩;(conv=>whnf);refine z0i (size:=1) p1 0 4 2 rfl rfl rfl rfl rfl rfl zO zO ?_;(conv=>whnf);refine ⟨_,zd1 e28 rfl,?_⟩;(conv=>whnf);refine ⟨7*(q:Int)+(j:Int),wr64 zO,?_⟩;(conv=>whnf);refine ⟨7*(q:Int)+(j:Int)+1,wr64 zO,?_⟩;(conv=>whnf);refine ⟨_,rfl,?_⟩;(conv=>whnf);generalize hy:IntKind.u8.wrap (IntKind.i64.wrap (n2*(7*(q:Int)+(j:Int)+1)))=y;have hyr:0≤y∧y<256:=(by rw [← hy];exact ydh _);clear hy;refine ⟨y,rfl,?_⟩;(conv=>whnf);refine z0e 0 1 1 [y] rfl rfl rfl rfl rfl rfl rfl ?_;(conv=>whnf);refine ⟨by kernel_rfl,fun r w9 us' hR hd=>?_⟩;obtain rfl:=zcs (xs:=[pV g,.int .u32 (256*(j:Int)+7*(q:Int)),strV [y]]) rfl hd;have hU9:=zv0 (zt6 _ _ _) hU8 hR.toBelow;have hh9:=zp1 (gs1:=[]) hh8 (zpy hR.toBelow) nofun
      have hbl:∀ x∈[y],0≤x∧x<256:=fun x hx=>by rw [List.mem_singleton.1 hx];exact hyr
      refine (zuj M8 (256*G) G (256*(j:Int)+7*(q:Int)) [y] w9 g gs hU9 hM8 (by unfold word;omega) hbl (show 1≤1000000 by decide) zO).mono fun e w10 ⟨he,hU10,hg10⟩=>⟨_,he,?_⟩
      have hh10:=zp1 hh9 (zpz hg10) fun b hb=> .inl hb;have hM10:=zy5 hM8 (256*(j:Int)+7*(q:Int)) hbl [y].length (Nat.le_refl _);generalize M8.pokeAt (256*(j:Int)+7*(q:Int)) [y] [y].length=M10 at hM10 hU10;clear hR hd hU9 hh9 hg10;(conv=>whnf);exact zb4 (zca () Tn fun r w3 hR=>⟨M10,hM10,zv0 (zt6 _ _ _) hU10 hR.toBelow,zp1 (gs1:=[]) hh10 (zpy hR.toBelow) nofun⟩)
     ·obtain ⟨M9,hM9,hU9,hh9⟩:=hl
      refine z3u ?_;(conv=>whnf);refine ⟨7*((q+1:Nat):Int),by rw [show 7*(q:Int)+7=7*((q+1:Nat):Int) by omega];exact wr64 zO,?_⟩;(conv=>whnf);exact zcc ⟨q+1,by omega⟩ Tn (fun r w3 hR=>⟨M9,hM9,zv0 (zt6 _ _ _) hU9 hR.toBelow,zp1 (gs1:=[]) hh9 (zpy hR.toBelow) nofun⟩) (by show 37-(q+1)<37-q;omega)
    ·refine z3u ?_
     (conv=>whnf);exact zb7 (zcf (zb6 (zb4 (zca () Tn fun r w3 hR=>⟨M8,hM8,zv0 (zt6 _ _ _) hU8 hR.toBelow,zp1 (gs1:=[]) hh8 (zpy hR.toBelow) nofun⟩))))
  ·obtain ⟨M8,hM8,hU8,hh8⟩:=hl
   refine z3u ?_;(conv=>whnf);refine ⟨((j+1:Nat):Int),by rw [show (j:Int)+1=((j+1:Nat):Int) by omega];exact wr64 zO,?_⟩;(conv=>whnf);exact zcc ⟨j+1,by omega⟩ Tn (fun r w3 hR=>⟨M8,hM8,zv0 (zt6 _ _ _) hU8 hR.toBelow,zp1 (gs1:=[]) hh8 (zpy hR.toBelow) nofun⟩) (by show G-(j+1)<G-j;omega)
 ·refine z3u ?_
  (conv=>whnf);refine zb7 (zcf (zb6 (zcd ?_)));refine z3q ?_;(conv=>whnf);refine z3u ?_;(conv=>whnf);refine zcg ?_;(conv=>whnf)
  refine zmj rfl fun w9 hB9=>⟨G,g,gs,M,rfl,hG4,hM,zv0 (zt6 _ _ _) hU4 hB9,hfw,?_⟩
  exact zdj (zdi hB3 hh4 hfw) hB9
end
theorem ych {a:List Int} (hl:a.length=28) {v x:Int} (hv:0≤v∧v<28) (u:Int) (hu:0≤u):getV (a.set v.toNat x) u=if u=v then x else getV a u:=by
 unfold getV;rw [List.getElem?_set];by_cases h:u=v
 ·subst h
  rw [if_pos rfl,if_pos zO,if_pos rfl];rfl
 ·rw [if_neg zO,if_neg h]
theorem AlR.give {a:List Int} {r:Nat} (h:AlR a r) {v:Int} (hv:0≤v∧v<28) (h19:v≠19):AlR (a.set v.toNat (r:Int)) (r+1):=by
 have hg:=fun u hu=>ych (x:=(r:Int)) h.len hv u hu;refine ⟨by rw [List.length_set];exact h.len,fun u h0 h1=>?_,?_,fun u t u0 u1 t0 t1 hu he=>?_⟩
 ·rw [hg u h0]
  have:=h.lo u h0 h1
  split<;>omega
 ·rw [hg 19 zO,if_neg zO];exact h.pc
 ·rw [hg u u0] at hu he
  rw [hg t t0] at he;have h1:=h.lo u u0 u1;have h2:=h.lo t t0 t1;by_cases c1:u=v
  ·by_cases c2:t=v
   ·omega
   ·rw [if_pos c1,if_neg c2] at he;omega
  ·rw [if_neg c1] at hu he
   by_cases c2:t=v
   ·rw [if_pos c2] at he;omega
   ·rw [if_neg c2] at he
    exact h.inj u t u0 u1 t0 t1 hu he
abbrev usT:TypeId:=30
structure UsOk (u:List Int):Prop where
 len:u.length=28
 pc:getV u 19=0
theorem ydd:UsOk (List.replicate 28 0):=⟨rfl,rfl⟩
theorem UsOk.set {u:List Int} (h:UsOk u) {v x:Int} (hv:0≤v∧v<28) (h19:v≠19):UsOk (u.set v.toNat x):=⟨by rw [List.length_set];exact h.len,by rw [ych h.len hv 19 zO,if_neg zO];exact h.pc⟩
section
variable {w:World}
theorem ycr (u:List Int) (hu:UsOk u) (has:Bool) (v:Int):Calls Tryz.prog 108 #[.agg (alL u).toArray,.bool has,.int .i64 v] w fun e w'=>∃ u',UsOk u'∧e= .returned (.agg (alL u').toArray)∧Below w.heap.size w w':=by
 refine zfg [.agg (alL u).toArray,.bool has,.int .i64 v] Tryz.func108 Tryz.ntmps108 rfl zS ?_;refine z3q ?_;(conv=>whnf);refine z3k (α:={u:List Int//UsOk u}) (fun _=>[(3,.p (.c (.ref 0 0))),(6,.p (.c (.ref 1 0)))]) (fun x=>[.cells usT ((alL x.1).map .v),.cells usT ((alL (List.replicate 28 0)).map .v)]) ?_ fun x=>?_
 ·refine z3q ?_
  conv=>whnf
  have hul:=zq4 hu.len
  cases has
  ·conv=>whnf
   refine kA ?_;refine z3c (t:=false) rfl (fun hc=>Bool.noConfusion (show false=true from hc)) (fun _=>?_);exact z3r (zb8 ⟨u,hu⟩ (zj7 rfl Tn Tn))
  refine kB ?_;by_cases h1:v≥0;rotate_left
  ·rw [show decide (v≥0)=false from decide_eq_false h1]
   refine kB ?_;refine z3c (t:=false) rfl (fun hc=>Bool.noConfusion (show false=true from hc)) (fun _=>?_);exact z3r (zb8 ⟨u,hu⟩ (zj7 rfl Tn Tn))
  rw [show decide (v≥0)=true from decide_eq_true h1];refine kB ?_;by_cases h2:v<28;rotate_left
  ·rw [show decide (v<28)=false from decide_eq_false h2]
   refine kB ?_;refine z3c (t:=false) rfl (fun hc=>Bool.noConfusion (show false=true from hc)) (fun _=>?_);exact z3r (zb8 ⟨u,hu⟩ (zj7 rfl Tn Tn))
  rw [show decide (v<28)=true from decide_eq_true h2];refine kB ?_;by_cases h3:v=19
  ·rw [show (v !=19)=false from bne_eq_false_iff_eq.2 h3]
   refine kB ?_;refine z3c (t:=false) rfl (fun hc=>Bool.noConfusion (show false=true from hc)) (fun _=>?_);exact z3r (zb8 ⟨u,hu⟩ (zj7 rfl Tn Tn))
  rw [show (v !=19)=true from bne_iff_ne.2 h3];refine kB ?_;refine z3c (t:=true) rfl (fun _=>?_) (fun hc=>Bool.noConfusion (show true=false from hc));refine z3u ?_;(conv=>whnf)
  (refine ⟨⟨by omega,by omega⟩,?_⟩;(conv=>whnf))
  rw [zq3 hu.len ⟨h1,h2⟩];(conv=>whnf);refine ⟨_,rfl,?_⟩;(conv=>whnf)
  (refine ⟨⟨by omega,by omega⟩,?_⟩;(conv=>whnf))
  rw [show ∀ y:Value,Nat.ble (0+v.toNat*tsz Tryz.prog 3+[CV.v y].length) (List.map CV.v (alL u)).length=true from fun y=>Nat.ble_eq_true_of_le (by rw [hul];show 0+v.toNat*1+1≤28;omega)];(conv=>whnf);rw [show Nat.ble (List.map CV.v (alL u)).length 8=false from zdy (by rw [hul];decide)];(conv=>whnf);exact zb8 ⟨u.set v.toNat _,hu.set ⟨h1,h2⟩ h3⟩ (zj7 rfl Tn (aI ((aI rfl (Or.inl zq5))) (aI sM trivial)))
 ·obtain ⟨u',hu'⟩:=x
  dsimp only;have hlen:=zq4 hu'.len;have hz:(List.map CV.v (alL (List.replicate 28 0))).length=28:=rfl;refine z3q ?_;(conv=>whnf);rw [show cut (List.map CV.v (alL u')) 0 (Tryz.prog.types[30].size)=some (List.map CV.v (alL u')) from zhx hlen];(conv=>whnf);rw [show Nat.beq (List.map CV.v (alL u')).length (Tryz.prog.types[30].size)=true from by rw [hlen];rfl,zwm];(conv=>whnf);rw [show Nat.ble (0+(List.map CV.v (alL u')).length) (List.map CV.v (alL (List.replicate 28 0))).length=true from Nat.ble_eq_true_of_le (by rw [hlen,hz];omega)];(conv=>whnf);rw [z4b (show (List.map CV.v (alL (List.replicate 28 0))).length=(List.map CV.v (alL u')).length by rw [hlen,hz])];refine z3u ?_;(conv=>whnf);refine zcg ?_;(conv=>whnf);rw [show cut (List.map CV.v (alL u')) 0 (Tryz.prog.types[30].size)=some (List.map CV.v (alL u')) from zhx hlen];(conv=>whnf)
  exact zmj (z9m _) fun w2 hB=>⟨u',hu',rfl,hB⟩
theorem yde (x y z:Value) (u:List Int):zot Gs.nil [Ow.cells 28 [.v x,.v y,.v z],Ow.cells usT ((alL (List.replicate 28 0)).map .v),Ow.cells usT ((alL u).map .v)]=true:=by
 show sbnd 3 _=true;simp only [sbnd,Ow.bnd,zd6]
 rfl
theorem ycm (u:List Int) (x y:Value):avals [.p (.agg (List.map CV.v (alL u))),.p (.c (.v x)),.p (.c (.v y))]=some [.agg (alL u).toArray,x,y]:=by
 simp only [avals,AV.val,Pc.val,z9l,CV.val]
theorem ydf (b:Blk) (A1 A2 A3:Option Addr) (c1 c2 c3:Nat) (hops:b.ops.length≤2000) (h3:OpsAt w w.heap.size A3 b.ops):Calls Tryz.prog 64 #[blkV b A1 A2 A3 c1 c2 c3] w fun e w'=>∃ u,UsOk u∧e= .returned (.agg (alL u).toArray)∧Below w.heap.size w w':=by
 refine zfg [blkV b A1 A2 A3 c1 c2 c3] Tryz.func64 Tryz.ntmps64 rfl zS ?_;refine z3q ?_;(conv=>whnf);refine z3q ?_;(conv=>whnf);refine z3k (α:={u:List Int//UsOk u}) (fun _=>[(1,.p (.c (.ref 0 0))),(2,.p (.c (.ref 1 0))),(3,.p (.c (.ref 2 0)))]) (fun x=>[.cells 28 [.v (.slice A1 b.at_.length c1),.v (.slice A2 b.pages.length c2),.v (.slice A3 b.ops.length c3)],.cells usT ((alL (List.replicate 28 0)).map .v),.cells usT ((alL x.1).map .v)]) ?_ fun x=>?_
 ·refine z3q ?_
  (conv=>whnf);refine z3b ?_;refine z3h (α:={x:Nat×List Int//x.1≤b.ops.length∧UsOk x.2}) (fun x=>[(1,.p (.c (.ref 0 0))),(2,.p (.c (.ref 1 0))),(3,.p (.c (.ref 2 0))),(4,one (intV (x.1.1:Int)))]) (fun x=>[.cells 28 [.v (.slice A1 b.at_.length c1),.v (.slice A2 b.pages.length c2),.v (.slice A3 b.ops.length c3)],.cells usT ((alL (List.replicate 28 0)).map .v),.cells usT ((alL x.1.2).map .v)]) (fun x=>b.ops.length-x.1.1) ⟨(0,List.replicate 28 0),by omega,ydd⟩ (zj7 rfl Tn Tn) (fun x=>?_);obtain ⟨⟨j,u⟩,hj,hu⟩:=x;dsimp only at hj hu⊢;refine z3e ?_;refine z3q ?_;(conv=>whnf);refine z3c rfl (fun hc=>z3r (zcd ?_)) (fun hc=>?_)
  ·have hlt:j<b.ops.length:=by have:=of_decide_eq_true hc;omega
   obtain ⟨o,ho⟩:∃ o,b.ops[j]?=some o:=⟨_,List.getElem?_eq_getElem hlt⟩
   obtain ⟨bb,off,rfl,hcell⟩:∃ bb off,A3=some ⟨bb,off,none⟩∧zac w Gs.nil bb (off+(j:Int).toNat*5) (opC o):=by
    obtain ⟨bb,off,rfl,_⟩:=OpsAt.open_ h3 zO;exact ⟨bb,off,rfl,zft h3 (fun hm=>by rcases hm with hm|hm<;>cases hm) ho⟩
   refine z3e ?_;refine z3b ?_;refine z3q ?_;(conv=>whnf)
   (refine ⟨⟨by omega,by omega⟩,?_⟩;(conv=>whnf))
   refine ⟨opC o,hcell,rfl,?_⟩;(conv=>whnf);refine z3q ?_;(conv=>whnf);refine ze2 rfl zK (fun r w' hR=>z44 o.code w') ?_;(conv=>whnf);refine z3q ?_;(conv=>whnf);erw [show cut (List.map CV.v (alL u)) 0 (Tryz.prog.types[30].size)=some (List.map CV.v (alL u)) from zhx (zq4 hu.len)];(conv=>whnf);refine ycp (fun v=>∃ u',UsOk u'∧v= .agg (alL u').toArray) (xs:=[.agg (alL u).toArray,.bool (hasD o.code),.int .i64 o.d]) (ycm u _ _) zK (fun r w' hR=>(ycr u hu (hasD o.code) o.d).mono fun e w'' ⟨u',h1,h2,h3⟩=>⟨_,h2,⟨u',h1,rfl⟩,h3⟩) ?_;rintro v ⟨u1,hu1,rfl⟩;(conv=>whnf);erw [zdl (l:=List.map CV.v (alL u1)) (n:=28) (zq4 hu1.len)];(conv=>whnf);erw [zwm];(conv=>whnf);erw [zdz (l:=List.map CV.v (alL u1)) (m:=List.map CV.v (alL u)) (by rw [zq4 hu1.len,zq4 hu.len])];(conv=>whnf);erw [z4b (l:=List.map CV.v (alL u)) (m:=List.map CV.v (alL u1)) (by rw [zq4 hu1.len,zq4 hu.len])];erw [show Nat.ble (List.map CV.v (alL u)).length 8=false from zdy (by rw [zq4 hu.len];decide)];(conv=>whnf);refine z3q ?_;(conv=>whnf);erw [show cut (List.map CV.v (alL u1)) 0 (Tryz.prog.types[30].size)=some (List.map CV.v (alL u1)) from zhx (zq4 hu1.len)];(conv=>whnf);refine ycp (fun v=>∃ u',UsOk u'∧v= .agg (alL u').toArray) (xs:=[.agg (alL u1).toArray,.bool (hasA o.code),.int .i64 o.a]) (ycm u1 _ _) zK (fun r w' hR=>(ycr u1 hu1 (hasA o.code) o.a).mono fun e w'' ⟨u',h1,h2,h3⟩=>⟨_,h2,⟨u',h1,rfl⟩,h3⟩) ?_;rintro v ⟨u2,hu2,rfl⟩;(conv=>whnf);erw [zdl (l:=List.map CV.v (alL u2)) (n:=28) (zq4 hu2.len)];(conv=>whnf);erw [zwm];(conv=>whnf);erw [zdz (l:=List.map CV.v (alL u2)) (m:=List.map CV.v (alL u1)) (by rw [zq4 hu2.len,zq4 hu1.len])];(conv=>whnf);erw [z4b (l:=List.map CV.v (alL u1)) (m:=List.map CV.v (alL u2)) (by rw [zq4 hu2.len,zq4 hu1.len])];erw [show Nat.ble (List.map CV.v (alL u1)).length 8=false from zdy (by rw [zq4 hu1.len];decide)];(conv=>whnf);refine z3u ?_;(conv=>whnf);erw [show cut (List.map CV.v (alL u2)) 0 (Tryz.prog.types[30].size)=some (List.map CV.v (alL u2)) from zhx (zq4 hu2.len)];(conv=>whnf);refine ycp (fun v=>∃ u',UsOk u'∧v= .agg (alL u').toArray) (xs:=[.agg (alL u2).toArray,.bool (hasB o.code),.int .i64 o.b]) (ycm u2 _ _) zK (fun r w' hR=>(ycr u2 hu2 (hasB o.code) o.b).mono fun e w'' ⟨u',h1,h2,h3⟩=>⟨_,h2,⟨u',h1,rfl⟩,h3⟩) ?_;rintro v ⟨u3,hu3,rfl⟩;(conv=>whnf);erw [zdl (l:=List.map CV.v (alL u3)) (n:=28) (zq4 hu3.len)];(conv=>whnf);erw [zwm];(conv=>whnf);erw [zdz (l:=List.map CV.v (alL u3)) (m:=List.map CV.v (alL u2)) (by rw [zq4 hu3.len,zq4 hu2.len])];(conv=>whnf);erw [z4b (l:=List.map CV.v (alL u2)) (m:=List.map CV.v (alL u3)) (by rw [zq4 hu3.len,zq4 hu2.len])];erw [show Nat.ble (List.map CV.v (alL u2)).length 8=false from zdy (by rw [zq4 hu2.len];decide)];(conv=>whnf);refine zb4 (zcd ?_);refine z3u ?_;(conv=>whnf);refine ⟨((j+1:Nat):Int),by rw [show (j:Int)+1=((j+1:Nat):Int) by omega];exact wr64 zO,?_⟩;(conv=>whnf);exact zcb ⟨(j+1,u3),by omega,hu3⟩ (zjy Tn Tn rfl (yde _ _ _ _)) (by show b.ops.length-(j+1)<b.ops.length-j;omega)
  ·have hje:j=b.ops.length:=by have:=of_decide_eq_false hc;omega
   refine z3u ?_;(conv=>whnf);exact zb7 (zce (zb6 (zb8 ⟨u,hu⟩ (zj7 rfl Tn Tn))))
 ·obtain ⟨u',hu'⟩:=x
  dsimp only;have hlen:=zq4 hu'.len;have hz:(List.map CV.v (alL (List.replicate 28 0))).length=28:=rfl;refine z3q ?_;(conv=>whnf);rw [show cut (List.map CV.v (alL u')) 0 (Tryz.prog.types[30].size)=some (List.map CV.v (alL u')) from zhx hlen];(conv=>whnf);rw [show Nat.beq (List.map CV.v (alL u')).length (Tryz.prog.types[30].size)=true from by rw [hlen];rfl,zwm];(conv=>whnf);rw [show Nat.ble (0+(List.map CV.v (alL u')).length) (List.map CV.v (alL (List.replicate 28 0))).length=true from Nat.ble_eq_true_of_le (by rw [hlen,hz];omega)];(conv=>whnf);rw [z4b (show (List.map CV.v (alL (List.replicate 28 0))).length=(List.map CV.v (alL u')).length by rw [hlen,hz])];refine z3u ?_;(conv=>whnf);refine zcg ?_;(conv=>whnf);rw [show cut (List.map CV.v (alL u')) 0 (Tryz.prog.types[30].size)=some (List.map CV.v (alL u')) from zhx hlen];(conv=>whnf)
  exact zmj (z9m _) fun w2 hB=>⟨u',hu',rfl,hB⟩
end
section
variable {w:World}
theorem ycn (xs:List Value) (x2:Value) (a:List Int):avals [.p (.agg (List.map CV.v xs)),.p (.agg (List.map CV.v (alL a))),.p (.c (.v x2))]=some [.agg xs.toArray,.agg (alL a).toArray,x2]:=by
 simp only [avals,AV.val,Pc.val,z9l,CV.val]
end
def Stable (J:World→Prop):Prop:=∀ w w',J w→Below w.heap.size w w'→J w'
theorem ydc (W:World):Stable (fun w=>Below W.heap.size W w):=fun _ _ h hB=>zdg h hB h.size
theorem Stable.and {J K:World→Prop} (h:Stable J) (k:Stable K):Stable (fun w=>J w∧K w):=fun w w' hj hB=>⟨h w w' hj.1 hB,k w w' hj.2 hB⟩
theorem yco {W w:World} (h:Held W ⟨[],[]⟩ w):Below W.heap.size W w:=⟨h.os,h.tape,h.output,h.size,fun _ hk=>zpu h hk nofun⟩
section
variable {W:World} {G:Gs} {J:World→Prop} {p:Nat} {x:Obj}
theorem yci:Stable (AllocJ W G J p x):=fun _ w' h hB=>by
 obtain ⟨w0,h1,h2,h3,h4,h5⟩:=h.out;exact ⟨w0,h1,h2,h3,zdg h4 hB h4.size,(hB.block p (zpt h5)).trans h5⟩
theorem AllocJ.get {w:World} (h:AllocJ W G J p x w):w.heap[p]?=some x:=by
 obtain ⟨w0,h1,h2,h3,h4,h5⟩:=h.out;exact h5
theorem AllocJ.keep {w:World} (hst:Stable J) (h:AllocJ W G J p x w):J w:=by
 obtain ⟨w0,h1,h2,h3,h4,h5⟩:=h.out;exact hst _ _ h1 h4
end
section
variable {P:Program} {W:World} {gs:List Nat} {J:World→Prop}
theorem ycz {fid:FuncId} {args:List AV} {us:List Value} {K:Value→(World→Prop)→Prop} {α:Type} (val:α→Value) (Y:α→World→Prop) (hu:avals args=some us) (hok:fnOk P fid=true) (hst:Stable J)
  (hc:∀ w,Held W ⟨[],gs⟩ w→J w→Calls P fid us.toArray w fun e w'=>∃ y,e= .returned (val y)∧Y y w'∧Below w.heap.size w w') (hK:∀ y,K (val y) fun w=>J w∧Y y w):JmpJ P W ⟨[],gs⟩ J fid args K:=
 ⟨hok,α,val,fun y w=>J w∧Y y w,fun w us' hh hj hd=>by
  obtain rfl:=zcs hu hd
  exact (hc w hh hj).mono fun e w' ⟨y,he,hy,hB⟩=>⟨y,he,zp1 (gs1:=[]) hh (zpy hB) nofun,hst _ _ hj hB,hy⟩,hK⟩
end
structure MemT where
 g:Nat
 gs:List Nat
 G:Nat
 gm:MemP
structure MemY (y:MemT) (w:World):Prop where
 G:1≤y.G∧y.G≤4
 ok:y.gm.ok (256*y.G) y.G
 at_:ObjsAt w (y.g::y.gs) (memS 0 (256*y.G) y.G y.gm)
theorem yc1 (y:MemT):Stable (MemY y):=fun _ _ h hB=>⟨h.G,h.ok,zv0 (zt6 _ _ _) h.at_ hB⟩
def yb4 (l:List It) (A:Option Addr) (w:World):Prop:=SlAt w w.heap.size A ((z5y 0 l).flatMap z5s)
theorem ydb (l:List It) (A:Option Addr):Stable (yb4 l A):=fun _ _ h hB=>(h.below hB (Nat.le_refl _)).more hB.size
section
variable {W:World} {gs:List Nat} {J:World→Prop}
end
end Go.Proofs.YtocafomnnkmjfaaGreat
