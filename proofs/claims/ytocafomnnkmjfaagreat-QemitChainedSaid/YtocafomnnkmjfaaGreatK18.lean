import Derived.Test.YtocafomnnkmjfaaGreatK17
set_option maxRecDepth 100000
set_option maxHeartbeats 4000000
namespace Go.Proofs.YtocafomnnkmjfaaGreat
open Go.RowKit
def ybp:List Value:=(List.replicate 64 [Value.bool false,.bool false,.bool false,.bool false,intV 0,intV 0,.int .u32 0]).flatten
def tab1 (k:Nat):List Value:=z4c ybp ((List.range k).map fun j:Nat=>((j:Nat):Int)+1) (sh7 true true true 0 0 0)
def tab2 (k:Nat):List Value:=z4c (tab1 12) ((List.range k).map fun j:Nat=>((j:Nat):Int)+16) (sh7 true true false 1 18 0)
theorem ybq:ybp.length=448:=by kernel_rfl
theorem z76:tab1 0=ybp:=by simp [tab1,z4c]
theorem z79:tab2 0=tab1 12:=by simp [tab2,z4c]
theorem z73 (k:Nat):(tab1 k).length=448:=by unfold tab1;rw [z4d,ybq]
theorem z77 (k:Nat):(tab2 k).length=448:=by unfold tab2;rw [z4d,z73]
theorem z74 (k:Nat):tab1 (k+1)=z4c (tab1 k) [(k:Int)+1] (sh7 true true true 0 0 0):=by
 unfold tab1;rw [List.range_succ,List.map_append,List.map_cons,List.map_nil,z4e]
 rfl
theorem z78 (k:Nat):tab2 (k+1)=z4c (tab2 k) [(k:Int)+16] (sh7 true true false 1 18 0):=by
 unfold tab2;rw [List.range_succ,List.map_append,List.map_cons,List.map_nil,z4e]
 rfl
def z40:List Value:=(List.range 64).flatMap fun k:Nat=>shL (zzw ((k:Nat):Int))
theorem zfw {w:World} {G:Gs} {q:Nat} {ops:List Int} (h:zac w G q 0 (ops.map intV)) {j:Nat} {o:Int} (hj:ops[j]?=some o):zac w G q (0+(j:Int).toNat*1) [intV o]:=by
 refine zfu h.1 h.2.1 ?_;have:=h.2.2 j (intV o) (by rw [List.getElem?_map,hj];rfl);rw [Nat.mul_one,Int.toNat_natCast];exact this
theorem zfc {w0:World} {S:List Ow} {K:AV→List Ow→Prop} {us:List Value} (d a b:Bool) (k bits m:Int) (ops:List Int) (j n:Nat) (hi:S[1]?=some (.cells 256 (us.map .v))) (hj:S[j]?=some (.cells 3 ((ops.map intV).map .v))) (hne:j≠1) (hus:us.length=448) (hn:ops.length=n) (hr:∀ o∈ops,0≤o∧o<64) (hn1:n≤64)
  (hK:∀ us':List Value,us'=z4c us ops (sh7 d a b k bits m)→us'.length=448→K (.tup []) (S.set 1 (.cells 256 (us'.map .v)))):
  CallS Tryz.prog w0 Gs.nil 209 [.p (.agg [.v (.bool false),.v (.bool d),.v (.bool a),.v (.bool b),.v (intV k),.v (intV bits),.v (.int .u32 m)]),.p (.c (.sl j 0 n n)),.p (.c (.ref 1 0))] S K:=
 ze1 (pre:=[.p (.agg [.v (.bool false),.v (.bool d),.v (.bool a),.v (.bool b),.v (intV k),.v (intV bits),.v (.int .u32 m)])]) (xs:=ops.map intV) (us:=us) (us':=z4c us ops (sh7 d a b k bits m)) 1 j n hi hj hne (ps:=[sh6 d a b k bits m]) rfl zK
  (fun w g q hg hq=>z4i d a b k bits m ops us q n w g hg hus hn (fun i o ho=>zfw hq ho) hr hn1) (hK _ rfl (by rw [z4d,hus]))
theorem zo4 (t1 t2:TypeId) (us vs:List Value):zoz Gs.nil [.cells t1 (us.map .v),.cells t2 (vs.map .v)]=true:=by
 show sbnd 2 [.cells t1 (us.map .v),.cells t2 (vs.map .v)]=true;simp only [sbnd,Ow.bnd,zd6]
def zm7:Value→Bool
 | .int _ _=>true
 | .bool _=>true
 |_=>false
theorem zwh (S:List Ow):∀ us:List Value,us.all zm7=true→zwf S (us.map CV.v)=true
 |[],_=>rfl
 |u::us,h=>by
  simp only [List.all_cons,Bool.and_eq_true] at h
  have h1:oneS S (.v u)=true:=by
   cases u<;>first|rfl|(exact absurd h.1 (by simp [zm7]))
  show (match oneS S (.v u) with|true=>zwf S (us.map CV.v)|false=>false)=true;rw [h1];exact zwh S us h.2
theorem z42:z40.all zm7=true:=by kernel_rfl
theorem z43:z4c (z4c (z4c (z4c (z4c (z4c (z4c (z4c (z4c (tab2 12) [17,18,19] (sh7 true true false 2 18 0)) [32,33,34,35,36,37] (sh7 true true false 1 18 0)) [40] (sh7 true false false 1 22 0)) [41] (sh7 true false false 2 22 0)) [48] (sh7 false false false 2 18 0)) [49,50,51] (sh7 false false false 0 0 0)) [52] (sh7 false true false 0 0 0)) [53] (sh7 true false false 2 18 3)) [54] (sh7 false true false 2 18 4)=z40:=by kernel_rfl
theorem z45 (w:World):Calls Tryz.prog 190 #[] w fun e w'=>e= .returned (.agg z40.toArray)∧Below w.heap.size w w':=by
 refine zfh [] Tryz.func190 Tryz.ntmps190 rfl zS ?_;refine z3g ?_;(conv=>whnf);refine z3g ?_;(conv=>whnf);refine z3g ?_;(conv=>whnf);refine z24 (α:={u:List Value//u=tab1 12}) (fun _=>[(0,.p (.c (.ref 0 0))),(1,.p (.c (.ref 1 0))),(2,.p (.c (.clo (.func 209) [.ref 1 0])))]) (fun x=>[.cells 256 (ybp.map .v),.cells 256 (x.1.map .v)]) ?_ fun y=>?_
 ·conv=>whnf
  refine ⟨{k:Nat//k≤12},fun x=>[(0,.p (.c (.ref 0 0))),(1,.p (.c (.ref 1 0))),(2,.p (.c (.clo (.func 209) [.ref 1 0]))),(3,one (intV ((x.1:Int)+1)))],fun x=>[.cells 256 (ybp.map .v),.cells 256 ((tab1 x.1).map .v)],fun x=>12-x.1,
   ⟨⟨0,by omega⟩,zkb rfl Tn (aI ((aI rfl (Or.inl zK))) (aI ((aI rfl (Or.inl (by rw [z76];kernel_rfl)))) trivial))⟩,fun x=>?_⟩
  obtain ⟨k,hk⟩:=x;dsimp only;(conv=>whnf);refine ⟨fun hc=>?_,fun hc=>?_⟩
  ·have hlt:k<12:=by simp at hc;omega
   have hs:=z74 k;have hl:=z73 k;generalize tab1 k=us at hs hl⊢;(conv=>whnf);refine zfc true true true 0 0 0 [(k:Int)+1] 2 1 rfl rfl zO hl rfl zV zO fun us' hu hl'=>?_;(conv=>whnf);refine ⟨_,wr64 zO,?_⟩;(conv=>whnf);exact ⟨⟨k+1,by omega⟩,zj2 Tn (aI sM (aI ((aI rfl (Or.inl (by rw [hu, ← hs])))) trivial)) rfl (zo4 _ _ _ _),by show 12-(k+1)<12-k;omega⟩
  ·have hke:k=12:=by simp at hc;omega
   subst hke;(conv=>whnf);refine ⟨_,_,zj7,?_⟩;(conv=>whnf);exact ⟨⟨tab1 12,rfl⟩,zkb rfl Tn Tn⟩
 obtain ⟨v0,hv0⟩:=y;refine z24 (α:={u:List Value//u=tab2 12}) (fun _=>[(0,.p (.c (.ref 0 0))),(1,.p (.c (.ref 1 0))),(2,.p (.c (.clo (.func 209) [.ref 1 0])))]) (fun x=>[.cells 256 (ybp.map .v),.cells 256 (x.1.map .v)]) ?_ fun y=>?_
 ·conv=>whnf
  refine ⟨{k:Nat//k≤12},fun x=>[(0,.p (.c (.ref 0 0))),(1,.p (.c (.ref 1 0))),(2,.p (.c (.clo (.func 209) [.ref 1 0]))),(4,one (intV ((x.1:Int)+16)))],fun x=>[.cells 256 (ybp.map .v),.cells 256 ((tab2 x.1).map .v)],fun x=>12-x.1,
   ⟨⟨0,by omega⟩,zkb rfl Tn (aI sM (aI ((aI rfl (Or.inl (by rw [z79];exact congrArg (List.map CV.v) hv0)))) trivial))⟩,fun x=>?_⟩
  obtain ⟨k,hk⟩:=x;dsimp only;(conv=>whnf);refine ⟨fun hc=>?_,fun hc=>?_⟩
  ·have hlt:k<12:=by simp at hc;omega
   have hs:=z78 k;have hl:=z77 k;generalize tab2 k=us at hs hl⊢;(conv=>whnf);refine zfc true true false 1 18 0 [(k:Int)+16] 2 1 rfl rfl zO hl rfl zV zO fun us' hu hl'=>?_;(conv=>whnf);refine ⟨_,wr64 zO,?_⟩;(conv=>whnf);exact ⟨⟨k+1,by omega⟩,zj2 Tn (aI sM (aI ((aI rfl (Or.inl (by rw [hu, ← hs])))) trivial)) rfl (zo4 _ _ _ _),by show 12-(k+1)<12-k;omega⟩
  ·have hke:k=12:=by simp at hc;omega
   subst hke;(conv=>whnf);refine ⟨_,_,zj7,?_⟩;(conv=>whnf);exact ⟨⟨tab2 12,rfl⟩,zkb rfl Tn Tn⟩
 obtain ⟨u0,hu0⟩:=y
 clear hv0 v0
 have hl0:u0.length=448:=by rw [hu0,z77]
 dsimp only
 refine z3g ?_
 conv=>whnf
 refine zfc true true false 2 18 0 [17,18,19] 2 3 rfl rfl zO hl0 rfl zS zO fun u1 hu1 hl1=>?_
 conv=>whnf
 refine z3g ?_
 conv=>whnf
 refine zfc true true false 1 18 0 [32,33,34,35,36,37] 3 6 rfl rfl zO hl1 rfl zS zO fun u2 hu2 hl2=>?_
 conv=>whnf
 refine z3g ?_
 conv=>whnf
 refine zfc true false false 1 22 0 [40] 4 1 rfl rfl zO hl2 rfl zS zO fun u3 hu3 hl3=>?_
 conv=>whnf
 refine z3g ?_
 conv=>whnf
 refine zfc true false false 2 22 0 [41] 5 1 rfl rfl zO hl3 rfl zS zO fun u4 hu4 hl4=>?_
 conv=>whnf
 refine z3g ?_
 conv=>whnf
 refine zfc false false false 2 18 0 [48] 6 1 rfl rfl zO hl4 rfl zS zO fun u5 hu5 hl5=>?_
 conv=>whnf
 refine z3g ?_
 conv=>whnf
 refine zfc false false false 0 0 0 [49,50,51] 7 3 rfl rfl zO hl5 rfl zS zO fun u6 hu6 hl6=>?_
 conv=>whnf
 refine z3g ?_
 conv=>whnf
 refine zfc false true false 0 0 0 [52] 8 1 rfl rfl zO hl6 rfl zS zO fun u7 hu7 hl7=>?_
 conv=>whnf
 refine z3g ?_
 conv=>whnf
 refine zfc true false false 2 18 3 [53] 9 1 rfl rfl zO hl7 rfl zS zO fun u8 hu8 hl8=>?_
 conv=>whnf
 refine z3g ?_
 conv=>whnf
 refine zfc false true false 2 18 4 [54] 10 1 rfl rfl zO hl8 rfl zS zO fun u9 hu9 hl9=>?_
 conv=>whnf
 have e:u9=z40:=by rw [hu9,hu8,hu7,hu6,hu5,hu4,hu3,hu2,hu1,hu0];exact z43
 have hfl:u9.all zm7=true:=e▸z42
 have hm:(List.map CV.v u9).length=448:=by rw [List.length_map,hl9]
 have hz:(List.map CV.v ybp).length=448:=by rw [List.length_map,ybq]
 refine z3l ?_
 conv=>whnf
 rw [show cut (List.map CV.v u9) 0 (Tryz.prog.types[256].size)=some (List.map CV.v u9) from zh1 hm]
 conv=>whnf
 rw [show Nat.beq (List.map CV.v u9).length (Tryz.prog.types[256].size)=true from by rw [hm];rfl,zwh _ u9 hfl]
 conv=>whnf
 rw [show Nat.ble (0+(List.map CV.v u9).length) (List.map CV.v ybp).length=true from Nat.ble_eq_true_of_le (by rw [hm,hz];omega)]
 conv=>whnf
 refine zcg ?_
 conv=>whnf
 rw [z32 (show (List.map CV.v ybp).length=(List.map CV.v u9).length by rw [hm,hz])]
 conv=>whnf
 rw [show cut (List.map CV.v u9) 0 (Tryz.prog.types[256].size)=some (List.map CV.v u9) from zh1 hm]
 conv=>whnf
 exact zmp (z9e _) fun w' hB=>⟨by rw [e],hB⟩
abbrev pV (b:Nat):Value:= .pointer (some ⟨b,0,none⟩)
theorem zx0 {w w':World} {e:TypeId} {size n:Nat} {v:Value} {xs:List Value} (h:w.ownsRow 0 e size v n xs) (hB:Below w.heap.size w w'):w'.ownsRow 0 e size v n xs:=by
 obtain ⟨h1,h2⟩:=h;refine ⟨h1,?_⟩;rcases h2 with h2|⟨g,cap,cur,hv,hg,hh,hr⟩
 ·exact .inl h2
 ·exact .inr ⟨g,cap,cur,hv,hg,(hB.block g (by
   rcases Nat.lt_or_ge g w.heap.size with h3|h3
   ·exact h3
   ·rw [Array.getElem?_eq_none h3] at hh;cases hh)).trans hh,hr⟩
section
variable {w:World} {g:Nat} {vA vP vO:Value} {l:List BOp}
theorem LiftAt.lt (h:LiftAt w g vA vP vO l):g<w.heap.size:=by
 rcases Nat.lt_or_ge g w.heap.size with h1|h1
 ·exact h1
 ·have:=h.blk;rw [Array.getElem?_eq_none h1] at this;cases this
theorem LiftAt.later {w':World} (h:LiftAt w g vA vP vO l) (hB:Below w.heap.size w w'):LiftAt w' g vA vP vO l:=
 ⟨(hB.block g h.lt).trans h.blk,zx0 h.row hB,h.far⟩
theorem LiftTo.refl {w':World} (h:LiftAt w g vA vP vO l) (hB:Below w.heap.size w w'):LiftTo w w' g vA vP vO l:=
 ⟨⟨vO,h.later hB,fun _b hb=> .inl hb⟩,hB.os,hB.tape,hB.output,hB.size,fun b hb _ _=>hB.block b hb⟩
theorem LiftTo.later {w1 w2:World} {l1:List BOp} (h:LiftTo w w1 g vA vP vO l1) (hB:Below w1.heap.size w1 w2):LiftTo w w2 g vA vP vO l1:=by
 obtain ⟨vO1,k1,k2⟩:=h.out;exact ⟨⟨vO1,k1.later hB,k2⟩,hB.os.trans h.os,hB.tape.trans h.tape,hB.output.trans h.output,Nat.le_trans h.size hB.size,fun b hb h1 h2=>(hB.block b (Nat.lt_of_lt_of_le hb h.size)).trans (h.block b hb h1 h2)⟩
theorem LiftTo.early {w1 w2:World} {l1:List BOp} (hB:Below w.heap.size w w1) (h:LiftTo w1 w2 g vA vP vO l1):LiftTo w w2 g vA vP vO l1:=by
 obtain ⟨vO1,k1,k2⟩:=h.out;exact ⟨⟨vO1,k1,fun b hb=>(k2 b hb).imp id fun h2=>Nat.le_trans hB.size h2⟩,h.os.trans hB.os,h.tape.trans hB.tape,h.output.trans hB.output,Nat.le_trans hB.size h.size,fun b hb h1 h2=>(h.block b (Nat.lt_of_lt_of_le hb hB.size) h1 h2).trans (hB.block b hb)⟩
theorem LiftTo.then {w1 w2:World} {l1 l2:List BOp} {vO1:Value} (h:LiftTo w w1 g vA vP vO l1) (hb:∀ b,vO1.ownBlock=some b→vO.ownBlock=some b∨w.heap.size≤b) (k:LiftTo w1 w2 g vA vP vO1 l2):LiftTo w w2 g vA vP vO l2:=by
 obtain ⟨vO2,k1,k2⟩:=k.out;refine ⟨⟨vO2,k1,fun b hb2=>?_⟩,k.os.trans h.os,k.tape.trans h.tape,k.output.trans h.output,Nat.le_trans h.size k.size,fun b hlt h1 h2=>?_⟩
 ·rcases k2 b hb2 with h3|h3
  ·exact hb b h3
  ·exact .inr (Nat.le_trans h.size h3)
 ·refine (k.block b (Nat.lt_of_lt_of_le hlt h.size) h1 fun e=>?_).trans (h.block b hlt h1 h2)
  rcases hb b e with h3|h3
  ·exact h2 h3
  ·omega
end
def MemP.pokeAt (M:MemP) (a:Int) (l:List Int) (j:Nat):MemP:=(l.take j).zipIdx.foldl (fun Q bi=>if (a+bi.2)%4294967296<Q.data.length then Q.put ((a+bi.2)%4294967296) bi.1 else Q) M
theorem zy0 (M:MemP) (a:Int) (l:List Int):M.pokeAt a l 0=M:=rfl
theorem zyz (M:MemP) (a:Int) (l:List Int) {j:Nat} {b:Int} (h:l[j]?=some b):M.pokeAt a l (j+1)=if (a+j)%4294967296<(M.pokeAt a l j).data.length then (M.pokeAt a l j).put ((a+j)%4294967296) b else M.pokeAt a l j:=by
 have hj:j<l.length:=by
  rcases Nat.lt_or_ge j l.length with h1|h1
  ·exact h1
  ·rw [List.getElem?_eq_none h1] at h;cases h
 have hl:(l.take j).length=j:=(by rw [List.length_take];omega);unfold MemP.pokeAt;rw [z8i h,List.zipIdx_append,List.foldl_append,hl];simp only [List.zipIdx_cons,List.zipIdx_nil,List.foldl_cons,List.foldl_nil,Nat.zero_add]
theorem zyy {M:MemP} {n p:Nat} (hM:M.ok n p) (a:Int) {l:List Int} (hb:∀ x∈l,0≤x∧x<256):∀ j,j≤l.length→(M.pokeAt a l j).ok n p
 |0,_=>hM
 |j+1,h=>by
  have e:l[j]?=some l[j]:=List.getElem?_eq_getElem h;rw [zyz M a l e];have ih:=zyy hM a hb j zO
  split
  ·exact zzg ih _ (hb _ (List.getElem_mem h))
  ·exact ih
theorem zup (M:MemP) (n p:Nat) (a:Int) (l:List Int) (w:World) (g:Nat) (gs:List Nat) (hU:ObjsAt w (g::gs) (memS 0 n p M)) (hM:M.ok n p) (_ha:word a) (hbl:∀ x∈l,0≤x∧x<256) (hlen:l.length≤1000000) (hn8:8<n):
  Calls Tryz.prog 62 #[.pointer (some ⟨g,0,none⟩),.int .u32 a,strV l] w fun e w'=>e= .returned (.tuple #[])∧ObjsAt w' (g::gs) (memS 0 n p (M.pokeAt a l l.length))∧GrownBys w w' (g::gs):=by
 obtain ⟨g0,g1,g2,g3,g4,g5,hg⟩:=z5w hU;injection hg with hg0 hgs;subst hgs;subst hg0;have hnp:=hM.np;have hpm:=hM.pmax;refine zfe [.p (.c (.ref 0 0)),one (.int .u32 a),one (strV l)] [.pointer (some ⟨g,0,none⟩),.int .u32 a,strV l] Tryz.func62 Tryz.ntmps62 rfl zS hU ⟨_,_,rfl,zi1 rfl,zc6 [.int .u32 a,strV l]⟩ ?_;(conv=>whnf)
 refine ⟨{j:Nat//j≤l.length},fun x=>[(0,.p (.c (.ref 0 0))),(1,one (.int .u32 a)),(2,one (strV l)),(6,one (.int .i64 (x.1:Int)))],fun x=>memS 0 n p (M.pokeAt a l x.1),fun x=>l.length-x.1,
  ⟨⟨0,by omega⟩,zkb rfl Tn Tn⟩,fun x=>?_⟩
 obtain ⟨j,hj⟩:=x;dsimp only;(conv=>whnf);refine z0b l rfl rfl rfl ?_;(conv=>whnf);refine ⟨fun hc=>?_,fun hc=>?_⟩
 ·have hlt:j<l.length:=by simpa using hc
  have hQ:=zyy hM a hbl j hj
  obtain ⟨b,hb⟩:∃ b,l[j]?=some b:=⟨_,List.getElem?_eq_getElem zO⟩
  have hbb:=hbl b (List.mem_of_getElem? hb);have hnext:=zyz M a l hb;generalize M.pokeAt a l j=Q at hQ hnext⊢;rw [hQ.ld] at hnext;have hlenQ:n≤(List.map CV.v Q.dV).length:=z8b hQ.ld;have hadr:IntKind.u32.wrap (a+(j:Int))=(a+j)%4294967296:=wr32 _;have hax:0≤(a+j)%4294967296∧(a+j)%4294967296<4294967296:=(by omega);(conv=>whnf);refine ⟨(j:Int),by rw [wr32];omega,?_⟩;(conv=>whnf);refine ⟨_,hadr,?_⟩;generalize (a+(j:Int))%4294967296=z at hax hnext hadr⊢;(conv=>whnf);refine ze4 (pre:=[]) (suf:=[one (.int .u32 z)]) 0 n p Q (.bool (decide (z<(n:Int)))) (fun i hi=>by rw [Nat.zero_add]) rfl rfl zK (fun w' g gs hk hU=>zuk Q n p z w' g gs hU hQ hax) ?_;(conv=>whnf);refine ⟨fun hc=>?_,fun hc=>?_⟩
  ·have hz:z<(n:Int):=by simpa using hc
   rw [if_pos hz] at hnext;(conv=>whnf);refine z2x 12 mixed zK ?_;(conv=>whnf);refine ⟨(j:Int),by rw [wr32];omega,?_⟩;(conv=>whnf);refine ⟨_,hadr,?_⟩;(conv=>whnf);refine z0a l .i64 j b rfl rfl rfl rfl hb hbb ?_;(conv=>whnf);refine ⟨⟨by omega,by omega⟩,?_⟩;(conv=>whnf);rw [show Nat.ble (0+z.toNat*tsz Tryz.prog 5+[CV.v (Value.int IntKind.u8 b)].length) (List.map CV.v Q.dV).length=true from Nat.ble_eq_true_of_le (by refine Nat.le_trans ?_ hlenQ;show 0+_*1+1≤n;omega)];(conv=>whnf);rw [show Nat.ble (List.map CV.v Q.dV).length 8=false from zdy zO];(conv=>whnf);refine ⟨_,wr64 zO,?_⟩;(conv=>whnf)
   have hset:z3z (List.map CV.v Q.dV) (0+z.toNat*tsz Tryz.prog 5) [CV.v (Value.int IntKind.u8 b)]=List.map CV.v (M.pokeAt a l (j+1)).dV:=by
    rw [z4h,hnext];show List.map CV.v (Q.dV.set (0+z.toNat*1) _)=List.map CV.v ((Q.put z b).dV);rw [Nat.zero_add,Nat.mul_one, ← zzd Q b (by rw [hQ.ld];omega)]
   have hrest:Q.iV=(M.pokeAt a l (j+1)).iV∧Q.odV=(M.pokeAt a l (j+1)).odV∧Q.oiV=(M.pokeAt a l (j+1)).oiV∧Q.rV=(M.pokeAt a l (j+1)).rV:=(by rw [hnext];exact ⟨rfl,rfl,rfl,rfl⟩);exact ⟨⟨j+1,by omega⟩,zkb rfl Tn (aI ((aI rfl (Or.inl (by rw [hnext];rfl)))) (aI ((aI rfl (Or.inl hset))) (aI ((aI rfl (Or.inl (by rw [hrest.1])))) (aI ((aI rfl (Or.inl (by rw [hrest.2.1])))) (aI ((aI rfl (Or.inl (by rw [hrest.2.2.1])))) (aI ((aI rfl (Or.inl (by rw [hrest.2.2.2])))) trivial)))))),by show l.length-(j+1)<l.length-j;omega⟩
  ·have hz:¬z<(n:Int):=by simpa using hc
   rw [if_neg hz] at hnext;(conv=>whnf);refine ⟨_,wr64 zO,?_⟩;(conv=>whnf);exact ⟨⟨j+1,by omega⟩,zkb rfl Tn (aI ((aI rfl (Or.inl (by rw [hnext])))) (aI ((aI rfl (Or.inl (by rw [hnext])))) (aI ((aI rfl (Or.inl (by rw [hnext])))) (aI ((aI rfl (Or.inl (by rw [hnext])))) (aI ((aI rfl (Or.inl (by rw [hnext])))) (aI ((aI rfl (Or.inl (by rw [hnext])))) trivial)))))),by show l.length-(j+1)<l.length-j;omega⟩
 ·have hje:j=l.length:=by simp at hc;omega
  rw [hje];(conv=>whnf);refine ⟨_,_,zj7,?_⟩;(conv=>whnf)
  exact zmn rfl rfl (fun i o h=>h) (zuc n p (M.pokeAt a l l.length)) fun w' h1 h2=>⟨rfl,h1,h2⟩
theorem zd0 {w:World} {b:Nat} {us:List Value} {t:TypeId} (h:w.heap[b]?=some (.cells us.toArray t (0,0))):zac w Gs.nil b 0 us:=
 zfs (zpz h) zS fun j u hj=>by simp [World.cell?,h,hj]
section
variable {w:World} {g:Nat} {vA vP vO:Value} {l:List BOp} {pi:Nat}
end
abbrev keepS (l l':List Slt):Prop:=l'.length=l.length∧∀ k:Nat,(l'[k]?).map (fun s=>(s.r,s.oc))=(l[k]?).map fun s=>(s.r,s.oc)
theorem keepS.refl (l:List Slt):keepS l l:=⟨rfl,fun _=>rfl⟩
theorem keepS.trans {l l' l2:List Slt} (h:keepS l l') (k:keepS l' l2):keepS l l2:=⟨k.1.trans h.1,fun i=>(k.2 i).trans (h.2 i)⟩
def FrameT (w w':World):Prop:=∀ (b:Nat) (us:Array Value) (t:TypeId),w.heap[b]?=some (.cells us t (0,0))→t≠179→t≠177→w'.heap[b]?=w.heap[b]?
theorem FrameT.of {w w':World} (h:Below w.heap.size w w'):FrameT w w':=fun b _us _t hb _ _=>h.block b (zpz hb)
theorem FrameT.trans {a b c:World} (h:FrameT a b) (k:FrameT b c):FrameT a c:=fun i us t hi h1 h2=>by
 have e:=h i us t hi h1 h2;exact (k i us t (e.trans hi) h1 h2).trans e
theorem FrameT.grown {w w':World} {g:Nat} {us:Array Value} {t:TypeId} (hg:w.grownBy w' (some g)) (h:w.heap[g]?=some (.cells us t (0,0))) (ht:t=179∨t=177):FrameT w w':=fun b vs t' hb h1 h2=>hg.block b (zpz hb) (by
 intro e;injection e with e;subst e;rw [h] at hb;injection hb with hb;injection hb with _ hb;subst hb;rcases ht with ht|ht
 ·exact h1 ht
 ·exact h2 ht)
section
variable {w w':World} {B m sb:Nat} {l:List Slt} {img:Nat→List Int}
end
section
variable {P:Program} {w0:World} {G:Gs} {N:Nd} {S:List Ow} {f:Fr} {c:Code} {Q:Exit→Act→World→Prop}
theorem z3n (d i g:Nat) (hd:f.get d=one (.pointer (some ⟨g,0,none⟩))) (G':Gs) (S':List Ow) (h:∀ r w1,Rel w0 G S r w1→∃ r',Rel w1 G' S' r' w1∧r'.blk i=some g∧SatQ P w1 G' N c ((d,.p (.c (.ref i 0)))::plF f) S' Q):SatQ P w0 G N c f S Q:=
 ⟨fun a w ⟨r,hR,hf,hN,hds⟩=>by
  obtain ⟨r',k1,k2,k3⟩:=h r w hR;refine k3.out a w ⟨r',k1,fun k=>?_,hN,hds⟩;simp only [Fr.get]
  split
  ·rename_i hk
   obtain rfl:=Nat.eq_of_beq_eq_true hk;have h1:=hf d;rw [hd] at h1;rw [zi6 h1];exact zi1 k2
  ·exact zyo hf k⟩
theorem zcn {e:Exit} (d i g:Nat) (hd:f.get d= .p (.c (.ref i 0))) (hg:∀ r w1,Rel w0 G S r w1→r.blk i=some g) (h:∀ r w1,Rel w0 G S r w1→AtQ w1 Gs.nil N e ((d,one (.pointer (some ⟨g,0,none⟩)))::plF f) [] Q):AtQ w0 G N e f S Q:=
 ⟨fun a w ⟨r,hR,hf,hN,hds⟩=>by
  refine (h r w hR).out a w ⟨Env.none,z1o w,fun k=>?_,hN,hds⟩;simp only [Fr.get]
  split
  ·rename_i hk
   obtain rfl:=Nat.eq_of_beq_eq_true hk;have h1:=hf d;rw [hd] at h1;obtain ⟨b,hb,hu⟩:=zi4 h1;rw [hg r w hR] at hb;injection hb with hb;subst hb;rw [hu];exact zi3 _ _
  ·exact zyo hf k⟩
end
end Go.Proofs.YtocafomnnkmjfaaGreat
