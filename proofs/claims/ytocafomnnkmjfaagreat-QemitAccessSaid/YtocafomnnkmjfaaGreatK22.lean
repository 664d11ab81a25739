import Derived.Test.YtocafomnnkmjfaaGreatK20
import Derived.Test.YtocafomnnkmjfaaGreatK21
set_option maxRecDepth 100000
set_option maxHeartbeats 4000000
namespace Go.Proofs.YtocafomnnkmjfaaGreat
open Go.RowKit
abbrev outL (x:Outc):List Value:= .bool x.leaves::intV x.index::intV x.done:: .int .u32 x.pc::u32L x.vars
abbrev outV (x:Outc):Value:= .agg (outL x).toArray
def zag (b:Blk) (vs:List Int) (n p:Nat) (M:MemP) (g:Nat) (gs:List Nat) (w:World):Ending→World→Prop:=fun e w'=>e= .returned (outV (zkq b vs M).out)∧ObjsAt w' (g::gs) (memS 0 n p (zkq b vs M).mem)∧GrownBys w w' (g::gs)
theorem z6c {w0:World} {G:Gs} {S:List Ow} {r:Env} {w:World} (hR:Rel w0 G S r w) {A:Option Addr} {xs:List Value} (h:zao w0 G A xs):SlAt w w.heap.size A xs:=fun j u hj=>by
 obtain ⟨b,off,e1,e2,e3,e4⟩:=h j u hj;exact ⟨b,off,e1,Nat.lt_of_lt_of_le e2 hR.size,(hR.oldCell e2 e3 _).trans e4⟩
theorem z6f {w0:World} {G:Gs} {A:Option Addr} {l:List BOp} (h:zao w0 G A (l.flatMap opC)) {j:Nat} {o:BOp} (hj:l[j]?=some o):∃ b off,A=some ⟨b,off,none⟩∧zac w0 G b (off+(j:Int).toNat*5) (opC o):=by
 have at_:∀ k,k<5→(l.flatMap opC)[j*5+k]?=(opC o)[k]?:=fun k hk=>by
  have:=zxf hj;rw [← this,List.getElem?_take,if_pos hk,List.getElem?_drop]
 obtain ⟨b,off,e1,e2,e3,e4⟩:=h (j*5+0) (.int .i64 o.code) (by rw [at_ 0 zO];rfl);refine ⟨b,off,e1,e2,e3,fun k u hk=>?_⟩
 have hk5:k<5:=by
  rcases Nat.lt_or_ge k 5 with h1|h1
  ·exact h1
  ·rw [List.getElem?_eq_none (by simpa [opC] using h1)] at hk;cases hk
 obtain ⟨b',off',f1,_,_,f4⟩:=h (j*5+k) u (by rw [at_ k hk5];exact hk);rw [e1] at f1;injection f1 with f1;injection f1 with f1 f2;subst f1;subst f2;rw [Int.toNat_natCast,Nat.add_assoc];exact f4
theorem z6g {w0:World} {G:Gs} {A:Option Addr} {xs:List Value} (h:zao w0 G A xs) {i:Int} (_hi:0≤i) {x:Value} (hx:xs[i.toNat]?=some x):∃ b off,A=some ⟨b,off,none⟩∧zac w0 G b (off+i.toNat*1) [x]:=by
 obtain ⟨b,off,e1,e2,e3,e4⟩:=h i.toNat x hx;exact ⟨b,off,e1,zfs e2 e3 (by rw [Nat.mul_one];exact e4)⟩
theorem zov (g g1 g2 g3 g4 g5 n p:Nat) (M:MemP) (t1 t2 t3 t4:TypeId) (us1 us2 us3 us4:List Value):zot ⟨[g,g1,g2,g3,g4,g5],[]⟩ (memL 0 n p M [.cells t1 (us1.map .v),.cells t2 (us2.map .v),.cells t3 (us3.map .v),.cells t4 (us4.map .v)])=true:=
 zox g g1 g2 g3 g4 g5 n p M _ (by simp only [sbnd,Ow.bnd,zd6])
theorem zcz (vs:List Int):avals [.p (.agg (yad vs))]=some [yaf vs]:=by
 simp only [avals,AV.val,Pc.val,z9l]
theorem zcw (o:BOp) (vs:List Int):avals [.p (.agg ((opC o).map .v)),.p (.agg (yad vs))]=some [opV o,yaf vs]:=by
 simp only [avals,AV.val,Pc.val,z9l];rfl
theorem zx0 {vs:List Int} (h:VarsOk vs) (c0 c1 c2 c3:CV) (Z:List CV) (hZ:Z.length=28):z38 (c0::c1::c2::c3::Z) 4 (yad vs)=c0::c1::c2::c3::yad vs:=by
 have:=z39 (p:=[c0,c1,c2,c3]) (l:=Z) (m:=yad vs) (by rw [hZ,yae h]);exact this
theorem zmb {P:Program} {S:List Ow} {f:Fr} {place:Nat→Option (Nat×Nat)} {parts:List (Nat×Operand)} {cells:List CV} {K:List CV→Prop} (m:List CV) (h:zl8 P S f place parts cells=some m) (hK:K m):(match zl8 P S f place parts cells with|some m=>K m|none=>False):=by
 rw [h];exact hK
abbrev outC (x:Outc):List CV:=(outL x).map .v
theorem zxr {x:Outc} (h:VarsOk x.vars):(outC x).length=32:=by simp [h.len]
theorem zwo (S:List Ow) (x:Outc):zwj S (outC x)=true:=zwp S x.vars
theorem zxx {x:Outc} (h:VarsOk x.vars) (Z:List CV) (hZ:Z.length=32):z38 Z 0 (outC x)=outC x:=z4b (by rw [hZ,zxr h])
set_option maxRecDepth 100000
theorem zcl {w0:World} {G:Gs} {N:Nd} {f:Fr} {S:List Ow} {Q:Exit→Act→World→Prop} {Q':Act→World→Prop} (h:AtQ w0 G N .ret f S Q):AtQ w0 G N .ret f S (Exit.then Q' Q):=⟨fun a w hg=>h.out a w hg⟩
theorem zx1 {w0:World} {gs:List Nat} {n p:Nat} {f:Fr} {S:List Ow} {x:Outc} {M:MemP} {R:Ending→World→Prop} (hgs:gs.length=6) (hx:VarsOk x.vars) (h6:f.get 6= .p (.c (.ref 8 0))) (h8:S[8]?=some (.cells 74 (outC x))) (hS:∀ (i:Nat) (o:Ow),(memS 0 n p M)[i]?=some o→S[i]?=some o)
  (hR:∀ w',ObjsAt w' gs (memS 0 n p M)→GrownBys w0 w' gs→R (.returned (outV x)) w'):resK Tryz.prog w0 ⟨gs,[]⟩ S f [.cell 6 74] fun v=>Fin w0 ⟨gs,[]⟩ S v R:=by
 unfold resK resL resV;dsimp only;rw [h6];unfold zta;dsimp only;rw [h8];(conv=>whnf);erw [zhx (zxr hx)];(conv=>whnf);exact zmh (U:=memS 0 n p M) (z9m _) hgs.symm hS (by rw [hgs];exact zt6 n p M) hR
theorem zk0 (b:Blk) (vs:List Int) (n p:Nat) (M:MemP) (A1 A2 A3:Option Addr) (c1 c2 c3:Nat) (w:World) (g:Nat) (gs:List Nat) (hU:ObjsAt w (g::gs) (memS 0 n p M)) (hM:M.ok n p) (hb:b.ok) (hv:z9o b=true) (hvs:VarsOk vs)
  (h1:zao w ⟨g::gs,[]⟩ A1 (b.at_.map (.int .u32))) (h2:zao w ⟨g::gs,[]⟩ A2 (b.pages.map (.int .i64))) (h3:zao w ⟨g::gs,[]⟩ A3 (b.ops.flatMap opC)):
  Calls Tryz.prog 31 #[.agg #[.slice A1 b.at_.length c1,.slice A2 b.pages.length c2,.slice A3 b.ops.length c3],yaf vs,.pointer (some ⟨g,0,none⟩)] w (zag b vs n p M g gs w):=by
 obtain ⟨g0,g1,g2,g3,g4,g5,hg⟩:=z56 hU;injection hg with hg0 hgs;subst hgs;subst hg0;have hvl:=yae hvs;have hz:=yb0;have hlen:=hb.lops;have hforms:=z9w hv;refine zfe [.p (.agg [.v (.slice A1 b.at_.length c1),.v (.slice A2 b.pages.length c2),.v (.slice A3 b.ops.length c3)]),AV.of (yaf vs),.p (.c (.ref 0 0))] [.agg #[.slice A1 b.at_.length c1,.slice A2 b.pages.length c2,.slice A3 b.ops.length c3],yaf vs,.pointer (some ⟨g,0,none⟩)] Tryz.func31 Tryz.ntmps31 rfl zS hU ⟨_,_,rfl,AV.of_den _ (.agg #[.slice A1 b.at_.length c1,.slice A2 b.pages.length c2,.slice A3 b.ops.length c3]),_,_,rfl,AV.of_den _ _,_,_,rfl,zix rfl,rfl⟩ ?_;refine z3o ?_;(conv=>whnf);refine z3o ?_;(conv=>whnf);refine ze2 rfl zK (fun r w' hR=>z90 A1 A2 A3 c1 c2 c3 b w' hb (z6c hR h2) (z6c hR h3)) ?_;rw [z92,hv];(conv=>whnf);refine z3o ?_;(conv=>whnf);refine ⟨fun h=>absurd h (by decide),fun _=>?_⟩;(conv=>whnf);refine z3o ?_;(conv=>whnf);erw [zhx hvl];(conv=>whnf);erw [zdl hvl,zwp];(conv=>whnf);erw [zdz (hvl.trans hz.symm)];(conv=>whnf);erw [yah hvs _ hz];(conv=>whnf);refine z3o ?_;(conv=>whnf);refine z3e ?_;refine z3o ?_;(conv=>whnf);refine z3b ?_
 refine z3h (α:={y:Nat×Int×List Int×MemP//y.1≤b.ops.length∧VarsOk y.2.2.1∧y.2.2.2.ok n p∧EvAt b.at_.length (b.ops.drop y.1) y.2.1∧zkt b.at_ (b.ops.drop y.1) y.2.1 y.2.2.1 y.2.2.2=zkq b vs M})
  (fun y=>[(2,.p (.c (.ref 0 0))),(3,.p (.c (.ref 6 0))),(6,.p (.c (.ref 8 0))),(8,.p (.c (.ref 9 0))),(9,one (.int .i64 y.1.2.1)),(10,one (.int .i64 (y.1.1:Int)))])
  (fun y=>memL 0 n p y.1.2.2.2 [.cells 28 [.v (.slice A1 b.at_.length c1),.v (.slice A2 b.pages.length c2),.v (.slice A3 b.ops.length c3)],.cells 42 (yad vs),.cells 74 ((outL Outc.zero).map .v),.cells 42 (yad y.1.2.2.1)]) (fun y=>b.ops.length-y.1.1)
  ⟨(0,0,vs,M),by show 0≤_;omega,hvs,hM,by show EvAt _ (b.ops.drop 0) 0;exact zkn hv,by show zkt b.at_ (b.ops.drop 0) 0 vs M=_;unfold zkq;rw [if_pos hv];rfl⟩
  (zj7 rfl Tn Tn) fun y=>?_
 obtain ⟨⟨j,i,us,Q⟩,hj,hus,hQ,hat,hev⟩:=y;dsimp only at hj hus hQ hat hev⊢;have hul:=yae hus;refine z3o ?_;(conv=>whnf);refine ⟨fun hc=>?_,fun hc=>?_⟩
 ·have hlt:j<b.ops.length:=by simpa using hc
  obtain ⟨o,ho⟩:∃ o,b.ops[j]?=some o:=⟨_,List.getElem?_eq_getElem hlt⟩
  obtain ⟨bo,off,rfl,hcell⟩:=z6f h3 ho;have hfo:=hforms o (List.mem_of_getElem? ho);have hoo:=hb.ops o (List.mem_of_getElem? ho);rw [zi7 ho] at hat hev
  have hat2:=zko hat
  conv=>whnf
  refine z3k (α:={y:Int×List Int×MemP//VarsOk y.2.1∧y.2.2.ok n p∧EvAt b.at_.length (b.ops.drop (j+1)) y.1∧zkt b.at_ (b.ops.drop (j+1)) y.1 y.2.1 y.2.2=zkq b vs M})
   (fun y=>[(2,.p (.c (.ref 0 0))),(3,.p (.c (.ref 6 0))),(6,.p (.c (.ref 8 0))),(8,.p (.c (.ref 9 0))),(9,one (.int .i64 y.1.1)),(10,one (.int .i64 (j:Int)))])
   (fun y=>memL 0 n p y.1.2.2 [.cells 28 [.v (.slice A1 b.at_.length c1),.v (.slice A2 b.pages.length c2),.v (.slice (some ⟨bo,off,none⟩) b.ops.length c3)],.cells 42 (yad vs),.cells 74 ((outL Outc.zero).map .v),.cells 42 (yad y.1.2.1)]) ?_ fun y=>?_
  ·refine z3b ?_
   refine z3o ?_;(conv=>whnf);refine ⟨⟨by omega,by omega⟩,?_⟩;(conv=>whnf);refine ⟨opC o,hcell,rfl,?_⟩;(conv=>whnf)
   refine z3k (α:=Unit) (fun _=>[(2,.p (.c (.ref 0 0))),(3,.p (.c (.ref 6 0))),(6,.p (.c (.ref 8 0))),(8,.p (.c (.ref 9 0))),(9,one (.int .i64 (ztr o i))),(10,one (.int .i64 (j:Int))),(11,.p (.c (.ref 10 0)))])
    (fun _=>memL 0 n p Q [.cells 28 [.v (.slice A1 b.at_.length c1),.v (.slice A2 b.pages.length c2),.v (.slice (some ⟨bo,off,none⟩) b.ops.length c3)],.cells 42 (yad vs),.cells 74 ((outL Outc.zero).map .v),.cells 42 (yad us),.cells 61 ((opC o).map .v)]) ?_ fun _=>?_
   ·refine z3t ?_
    (conv=>whnf);refine ⟨fun h=>?_,fun h=>?_⟩
    ·have hm:ztr o i=o.n:=if_pos (by simpa using h)
     have hn:0≤o.n∧o.n<4294967296:=hoo.n;(conv=>whnf);refine ⟨o.n,wr64 zO,?_⟩;(conv=>whnf);exact zb8 () (zj7 rfl (aI rfl (aI rfl (aI rfl (aI rfl (aI ((congrArg (fun z=>one (.int .i64 z)) hm.symm)) Tn))))) Tn)
    ·have hm:ztr o i=i:=if_neg (by simpa using h)
     (conv=>whnf);exact zb8 () (zj7 rfl (aI rfl (aI rfl (aI rfl (aI rfl (aI ((congrArg (fun z=>one (.int .i64 z)) hm.symm)) Tn))))) Tn)
   refine z3e ?_;refine z3k (α:=Unit) (fun _=>[(2,.p (.c (.ref 0 0))),(3,.p (.c (.ref 6 0))),(6,.p (.c (.ref 8 0))),(8,.p (.c (.ref 9 0))),(9,one (.int .i64 (ztr o i))),(10,one (.int .i64 (j:Int))),(11,.p (.c (.ref 10 0))),(52,one (.bool (o.code==24||(o.code==23&&getV us o.a !=0))))]) (fun _=>memL 0 n p Q [.cells 28 [.v (.slice A1 b.at_.length c1),.v (.slice A2 b.pages.length c2),.v (.slice (some ⟨bo,off,none⟩) b.ops.length c3)],.cells 42 (yad vs),.cells 74 ((outL Outc.zero).map .v),.cells 42 (yad us),.cells 61 ((opC o).map .v)]) ?_ fun _=>?_
   ·refine z3m ?_
    conv=>whnf
    cases h:(o.code==24) with
    |true=>
     repeat (first|(refine ⟨fun _=>?_,(fun h=>absurd h (by decide))⟩;(conv=>whnf))|(refine ⟨(fun h=>absurd h (by decide)),fun _=>?_⟩;(conv=>whnf)))
     exact zb8 () (zj7 rfl Tn Tn)
    |false=>
     repeat (first|(refine ⟨fun _=>?_,(fun h=>absurd h (by decide))⟩;(conv=>whnf))|(refine ⟨(fun h=>absurd h (by decide)),fun _=>?_⟩;(conv=>whnf)))
     cases h2:(o.code==23) with
     |true=>
      repeat (first|(refine ⟨fun _=>?_,(fun h=>absurd h (by decide))⟩;(conv=>whnf))|(refine ⟨(fun h=>absurd h (by decide)),fun _=>?_⟩;(conv=>whnf)))
      refine ⟨⟨(zno hfo).1,by have:=(zno hfo).2;omega⟩,?_⟩;(conv=>whnf)
      repeat (first|(refine ⟨fun _=>?_,(fun h=>absurd h (by decide))⟩;(conv=>whnf))|(refine ⟨(fun h=>absurd h (by decide)),fun _=>?_⟩;(conv=>whnf)))
      erw [z98 hus (zno hfo)];(conv=>whnf)
      repeat (first|(refine ⟨fun _=>?_,(fun h=>absurd h (by decide))⟩;(conv=>whnf))|(refine ⟨(fun h=>absurd h (by decide)),fun _=>?_⟩;(conv=>whnf)))
      exact zb8 () (zj7 rfl Tn Tn)
     |false=>
      repeat (first|(refine ⟨fun _=>?_,(fun h=>absurd h (by decide))⟩;(conv=>whnf))|(refine ⟨(fun h=>absurd h (by decide)),fun _=>?_⟩;(conv=>whnf)))
      exact zb8 () (zj7 rfl Tn Tn)
   have hgu:=zpe hus;have hgl:=yae hgu;have hcond:(o.code==24||(o.code==23&&getV us o.a !=0))=true↔(o.code=24∨(o.code=23∧getV us o.a≠0)):=(by simp);refine z3c rfl (fun ht=>?_) (fun ht=>z3r (zcd ?_))
   ·have hev2:=(zku (ats:=b.at_) (l:=b.ops.drop (j+1)) (i:=i) (M:=Q) (hcond.1 ht)).symm.trans hev
    refine z3t ?_;refine z27 8 mixed zK ?_;(conv=>whnf);erw [zhx hul];(conv=>whnf);refine z0c (xs:=[yaf us]) (x:=yaf (zpa us)) (zcz us) zK (fun r w' hR=>zpg us w' hus.len) ?_;(conv=>whnf);refine zmb (outC ⟨false,0,b.at_.length,o.n,zpa us⟩) ?_ ?_
    ·conv=>lhs;whnf
     erw [zdl hgl]
     conv=>lhs;whnf
     exact congrArg some (zx0 hgu _ _ _ _ _ rfl)
    (conv=>whnf);erw [zdl (zxr (x:=⟨false,0,b.at_.length,o.n,zpa us⟩) hgu),zwo];(conv=>whnf);erw [zdz (zxr (x:=⟨false,0,b.at_.length,o.n,zpa us⟩) hgu)];(conv=>whnf);erw [zxx (x:=⟨false,0,b.at_.length,o.n,zpa us⟩) hgu _ rfl];refine zcl (zch (zci (zck (zch (zcl (zcg (zx1 (x:=⟨false,0,b.at_.length,o.n,zpa us⟩) (M:=Q) rfl hgu rfl rfl zt2 fun w' k1 k2=>?_)))))));unfold zag;rw [← hev2];exact ⟨rfl,k1,k2⟩
   have hne:¬(o.code=24∨(o.code=23∧getV us o.a≠0)):=fun h=>by rw [hcond.2 h] at ht;cases ht
   refine z3e ?_;refine z3o ?_;(conv=>whnf);refine z3c rfl (fun h25=>?_) (fun h25=>z3r (zcd ?_))
   ·have hev2:=(zkz (ats:=b.at_) (l:=b.ops.drop (j+1)) (i:=i) (vs:=us) (M:=Q) (o:=o) (by simpa using h25)).symm.trans hev
    refine z3t ?_;refine z27 10 mixed zK ?_;(conv=>whnf);refine ⟨⟨(zno hfo).1,by have:=(zno hfo).2;omega⟩,?_⟩;(conv=>whnf);erw [z98 hus (zno hfo)];(conv=>whnf);erw [zhx hul];(conv=>whnf);refine z0c (xs:=[yaf us]) (x:=yaf (zpa us)) (zcz us) zK (fun r w' hR=>zpg us w' hus.len) ?_;(conv=>whnf);refine zmb (outC ⟨false,0,b.at_.length,getV us o.a,zpa us⟩) ?_ ?_
    ·conv=>lhs;whnf
     erw [zdl hgl]
     conv=>lhs;whnf
     exact congrArg some (zx0 hgu _ _ _ _ _ rfl)
    (conv=>whnf);erw [zdl (zxr (x:=⟨false,0,b.at_.length,getV us o.a,zpa us⟩) hgu),zwo];(conv=>whnf);erw [zdz (zxr (x:=⟨false,0,b.at_.length,getV us o.a,zpa us⟩) hgu)];(conv=>whnf);erw [zxx (x:=⟨false,0,b.at_.length,getV us o.a,zpa us⟩) hgu _ rfl];refine zcl (zch (zci (zck (zch (zcl (zcg (zx1 (x:=⟨false,0,b.at_.length,getV us o.a,zpa us⟩) (M:=Q) rfl hgu rfl rfl zt2 fun w' k1 k2=>?_)))))));unfold zag;rw [← hev2];exact ⟨rfl,k1,k2⟩
   have hn25:o.code≠25:=by simpa using h25
   obtain ⟨⟨us2,st,Q2⟩,hA⟩:∃ r,r=zbr o us Q:=⟨_,rfl⟩
   have hus2:VarsOk us2:=(by have:=zby (M:=Q) hus hoo.n;rw [← hA] at this;exact this);have hQ2:Q2.ok n p:=(by have:=zbv (o:=o) hQ hus;rw [← hA] at this;exact this);have hul2:=yae hus2;refine z3o ?_;(conv=>whnf);erw [zhx hul];(conv=>whnf)
   refine ze5 (pre:=[.p (.agg ((opC o).map .v)),.p (.agg (yad us))]) (suf:=[]) 0 n p Q Q2 (.tuple #[yaf us2,.bool st]) zt1 (zcw o us) rfl zK (fun w' g gs hk hU=>by
    have:=zb0 o us n p Q w' g gs hU hQ hfo hoo hus;unfold zaa at this;rw [← hA] at this
    exact this) ?_
   (conv=>whnf);erw [zdl hul2,zwp];(conv=>whnf);erw [zdz (hul2.trans hz.symm)];(conv=>whnf);erw [yah hus2 _ hz];(conv=>whnf);refine z3e ?_;refine z3o ?_;(conv=>whnf);refine z3c rfl (fun hst=>?_) (fun hst=>z3r (zcd ?_))
   ·have hst':st=false:=by simpa using hst
    obtain ⟨hi0,hi1⟩:0≤ztr o i∧ztr o i<b.at_.length:=by obtain ⟨_,_,_,_,h0,h1⟩:=hat2;exact ⟨h0,h1⟩
    obtain ⟨y,hy⟩:∃ y,b.at_[(ztr o i).toNat]?=some y:=⟨_,List.getElem?_eq_getElem zO⟩
    obtain ⟨ba,offa,rfl,hca⟩:=z6g h1 hi0 (x:= .int .u32 y) (by rw [List.getElem?_map,hy];rfl);have hev2:=(zkw (ats:=b.at_) (l:=b.ops.drop (j+1)) (i:=i) (vs:=us) (M:=Q) (o:=o) hne hn25 (by rw [← hA];exact hst')).symm.trans hev;rw [← hA,hy] at hev2;refine z3t ?_;refine z27 10 mixed zK ?_;(conv=>whnf);refine ⟨⟨hi0,hi1⟩,?_⟩;(conv=>whnf);refine ⟨_,hca,?_⟩;(conv=>whnf);erw [zhx hul];(conv=>whnf);refine z0c (xs:=[yaf us]) (x:=yaf (zpa us)) (zcz us) zK (fun r w' hR=>zpg us w' hus.len) ?_;(conv=>whnf);refine zmb (outC ⟨true,ztr o i,ztr o i,y,zpa us⟩) ?_ ?_
    ·conv=>lhs;whnf
     erw [zdl hgl]
     conv=>lhs;whnf
     exact congrArg some (zx0 hgu _ _ _ _ _ rfl)
    (conv=>whnf);erw [zdl (zxr (x:=⟨true,ztr o i,ztr o i,y,zpa us⟩) hgu),zwo];(conv=>whnf);erw [zdz (zxr (x:=⟨true,ztr o i,ztr o i,y,zpa us⟩) hgu)];(conv=>whnf);erw [zxx (x:=⟨true,ztr o i,ztr o i,y,zpa us⟩) hgu _ rfl];refine zcl (zch (zci (zck (zch (zcl (zcg (zx1 (x:=⟨true,ztr o i,ztr o i,y,zpa us⟩) (M:=Q2) rfl hgu rfl rfl zt2 fun w' k1 k2=>?_)))))));unfold zag;rw [← hev2];exact ⟨rfl,k1,k2⟩
   have hst':st=true:=(by simpa using hst);have hev2:=(zkv (ats:=b.at_) (l:=b.ops.drop (j+1)) (i:=i) (vs:=us) (M:=Q) (o:=o) hne hn25 (by rw [← hA];exact hst')).symm.trans hev;rw [← hA] at hev2;refine z3t ?_;(conv=>whnf);erw [zhx hul2];(conv=>whnf);erw [zdl hul2,zwp];(conv=>whnf);erw [zdz (hul2.trans hul.symm)];(conv=>whnf);erw [yah hus2 _ hul];(conv=>whnf);erw [yaa hus];(conv=>whnf);exact zb4 (zb8 ⟨(ztr o i,us2,Q2),hus2,hQ2,hat2,hev2⟩ (zjy Tn Tn rfl (zov _ _ _ _ _ _ _ _ _ _ _ _ _ [.slice A1 b.at_.length c1,.slice A2 b.pages.length c2,.slice (some ⟨bo,off,none⟩) b.ops.length c3] _ _ _)))
  ·obtain ⟨⟨i2,us2,Q2⟩,hus2,hQ2,hat3,hev2⟩:=y
   dsimp only at hus2 hQ2 hat3 hev2⊢;refine z3t ?_;(conv=>whnf);refine ⟨_,wr64 zO,?_⟩;(conv=>whnf);exact zcb ⟨(j+1,i2,us2,Q2),by show j+1≤_;omega,hus2,hQ2,hat3,hev2⟩ (zj7 rfl Tn Tn) (by show b.ops.length-(j+1)<b.ops.length-j;omega)
 ·have hje:j=b.ops.length:=by simp at hc;omega
  rw [hje,List.drop_length] at hev;(conv=>whnf);refine zce (zb6 (zcd ?_));refine z3t ?_;(conv=>whnf);refine zcg (zx1 (x:=Outc.zero) (M:=Q) rfl ⟨rfl,fun x hx=>by rw [List.eq_of_mem_replicate hx];exact yax⟩ rfl rfl zt2 fun w' k1 k2=>?_);unfold zag;rw [← hev];exact ⟨rfl,k1,k2⟩
def yby:List Value:=(List.replicate 64 [Value.bool false,.bool false,.bool false,.bool false,intV 0,intV 0,.int .u32 0]).flatten
def tab1 (k:Nat):List Value:=z4k yby ((List.range k).map fun j:Nat=>((j:Nat):Int)+1) (sh7 true true true 0 0 0)
def tab2 (k:Nat):List Value:=z4k (tab1 12) ((List.range k).map fun j:Nat=>((j:Nat):Int)+16) (sh7 true true false 1 18 0)
theorem ybz:yby.length=448:=by kernel_rfl
theorem z8e:tab1 0=yby:=by simp [tab1,z4k]
theorem z8h:tab2 0=tab1 12:=by simp [tab2,z4k]
theorem z8c (k:Nat):(tab1 k).length=448:=by unfold tab1;rw [z4l,ybz]
theorem z8f (k:Nat):(tab2 k).length=448:=by unfold tab2;rw [z4l,z8c]
theorem z8d (k:Nat):tab1 (k+1)=z4k (tab1 k) [(k:Int)+1] (sh7 true true true 0 0 0):=by
 unfold tab1;rw [List.range_succ,List.map_append,List.map_cons,List.map_nil,z4m]
 rfl
theorem z8g (k:Nat):tab2 (k+1)=z4k (tab2 k) [(k:Int)+16] (sh7 true true false 1 18 0):=by
 unfold tab2;rw [List.range_succ,List.map_append,List.map_cons,List.map_nil,z4m]
 rfl
def z49:List Value:=(List.range 64).flatMap fun k:Nat=>shL (zz5 ((k:Nat):Int))
theorem zfu {w:World} {G:Gs} {q:Nat} {ops:List Int} (h:zac w G q 0 (ops.map intV)) {j:Nat} {o:Int} (hj:ops[j]?=some o):zac w G q (0+(j:Int).toNat*1) [intV o]:=by
 refine zfs h.1 h.2.1 ?_;have:=h.2.2 j (intV o) (by rw [List.getElem?_map,hj];rfl);rw [Nat.mul_one,Int.toNat_natCast];exact this
theorem zfb {w0:World} {S:List Ow} {K:AV→List Ow→Prop} {us:List Value} (d a b:Bool) (k bits m:Int) (ops:List Int) (j n:Nat) (hi:S[1]?=some (.cells 256 (us.map .v))) (hj:S[j]?=some (.cells 3 ((ops.map intV).map .v))) (hne:j≠1) (hus:us.length=448) (hn:ops.length=n) (hr:∀ o∈ops,0≤o∧o<64) (hn1:n≤64)
  (hK:∀ us':List Value,us'=z4k us ops (sh7 d a b k bits m)→us'.length=448→K (.tup []) (S.set 1 (.cells 256 (us'.map .v)))):
  CallS Tryz.prog w0 Gs.nil 209 [.p (.agg [.v (.bool false),.v (.bool d),.v (.bool a),.v (.bool b),.v (intV k),.v (intV bits),.v (.int .u32 m)]),.p (.c (.sl j 0 n n)),.p (.c (.ref 1 0))] S K:=
 ze1 (pre:=[.p (.agg [.v (.bool false),.v (.bool d),.v (.bool a),.v (.bool b),.v (intV k),.v (intV bits),.v (.int .u32 m)])]) (xs:=ops.map intV) (us:=us) (us':=z4k us ops (sh7 d a b k bits m)) 1 j n hi hj hne (ps:=[sh6 d a b k bits m]) rfl zK
  (fun w g q hg hq=>z4q d a b k bits m ops us q n w g hg hus hn (fun i o ho=>zfu hq ho) hr hn1) (hK _ rfl (by rw [z4l,hus]))
theorem zoy (t1 t2:TypeId) (us vs:List Value):zot Gs.nil [.cells t1 (us.map .v),.cells t2 (vs.map .v)]=true:=by
 show sbnd 2 [.cells t1 (us.map .v),.cells t2 (vs.map .v)]=true;simp only [sbnd,Ow.bnd,zd6]
def zm1:Value→Bool
 | .int _ _=>true
 | .bool _=>true
 |_=>false
theorem zwl (S:List Ow):∀ us:List Value,us.all zm1=true→zwj S (us.map CV.v)=true
 |[],_=>rfl
 |u::us,h=>by
  simp only [List.all_cons,Bool.and_eq_true] at h
  have h1:oneS S (.v u)=true:=by
   cases u<;>first|rfl|(exact absurd h.1 (by simp [zm1]))
  show (match oneS S (.v u) with|true=>zwj S (us.map CV.v)|false=>false)=true;rw [h1];exact zwl S us h.2
theorem z5b:z49.all zm1=true:=by kernel_rfl
theorem z5c:z4k (z4k (z4k (z4k (z4k (z4k (z4k (z4k (z4k (tab2 12) [17,18,19] (sh7 true true false 2 18 0)) [32,33,34,35,36,37] (sh7 true true false 1 18 0)) [40] (sh7 true false false 1 22 0)) [41] (sh7 true false false 2 22 0)) [48] (sh7 false false false 2 18 0)) [49,50,51] (sh7 false false false 0 0 0)) [52] (sh7 false true false 0 0 0)) [53] (sh7 true false false 2 18 3)) [54] (sh7 false true false 2 18 4)=z49:=by kernel_rfl
theorem z5e (w:World):Calls Tryz.prog 190 #[] w fun e w'=>e= .returned (.agg z49.toArray)∧Below w.heap.size w w':=by
 refine zfg [] Tryz.func190 Tryz.ntmps190 rfl zS ?_;refine z3o ?_;(conv=>whnf);refine z3o ?_;(conv=>whnf);refine z3o ?_;(conv=>whnf);refine z3d (α:={u:List Value//u=tab1 12}) (fun _=>[(0,.p (.c (.ref 0 0))),(1,.p (.c (.ref 1 0))),(2,.p (.c (.clo (.func 209) [.ref 1 0])))]) (fun x=>[.cells 256 (yby.map .v),.cells 256 (x.1.map .v)]) ?_ fun y=>?_
 ·conv=>whnf
  refine ⟨{k:Nat//k≤12},fun x=>[(0,.p (.c (.ref 0 0))),(1,.p (.c (.ref 1 0))),(2,.p (.c (.clo (.func 209) [.ref 1 0]))),(3,one (intV ((x.1:Int)+1)))],fun x=>[.cells 256 (yby.map .v),.cells 256 ((tab1 x.1).map .v)],fun x=>12-x.1,
   ⟨⟨0,by omega⟩,zj7 rfl Tn (aI ((aI rfl (Or.inl zK))) (aI ((aI rfl (Or.inl (by rw [z8e];kernel_rfl)))) trivial))⟩,fun x=>?_⟩
  obtain ⟨k,hk⟩:=x;dsimp only;(conv=>whnf);refine ⟨fun hc=>?_,fun hc=>?_⟩
  ·have hlt:k<12:=by simp at hc;omega
   have hs:=z8d k;have hl:=z8c k;generalize tab1 k=us at hs hl⊢;(conv=>whnf);refine zfb true true true 0 0 0 [(k:Int)+1] 2 1 rfl rfl zO hl rfl zV zO fun us' hu hl'=>?_;(conv=>whnf);refine ⟨_,wr64 zO,?_⟩;(conv=>whnf);exact ⟨⟨k+1,by omega⟩,zjy Tn (aI sM (aI ((aI rfl (Or.inl (by rw [hu, ← hs])))) trivial)) rfl (zoy _ _ _ _),by show 12-(k+1)<12-k;omega⟩
  ·have hke:k=12:=by simp at hc;omega
   subst hke;(conv=>whnf);refine ⟨_,_,zj3,?_⟩;(conv=>whnf);exact ⟨⟨tab1 12,rfl⟩,zj7 rfl Tn Tn⟩
 obtain ⟨v0,hv0⟩:=y;refine z3d (α:={u:List Value//u=tab2 12}) (fun _=>[(0,.p (.c (.ref 0 0))),(1,.p (.c (.ref 1 0))),(2,.p (.c (.clo (.func 209) [.ref 1 0])))]) (fun x=>[.cells 256 (yby.map .v),.cells 256 (x.1.map .v)]) ?_ fun y=>?_
 ·conv=>whnf
  refine ⟨{k:Nat//k≤12},fun x=>[(0,.p (.c (.ref 0 0))),(1,.p (.c (.ref 1 0))),(2,.p (.c (.clo (.func 209) [.ref 1 0]))),(4,one (intV ((x.1:Int)+16)))],fun x=>[.cells 256 (yby.map .v),.cells 256 ((tab2 x.1).map .v)],fun x=>12-x.1,
   ⟨⟨0,by omega⟩,zj7 rfl Tn (aI sM (aI ((aI rfl (Or.inl (by rw [z8h];exact congrArg (List.map CV.v) hv0)))) trivial))⟩,fun x=>?_⟩
  obtain ⟨k,hk⟩:=x;dsimp only;(conv=>whnf);refine ⟨fun hc=>?_,fun hc=>?_⟩
  ·have hlt:k<12:=by simp at hc;omega
   have hs:=z8g k;have hl:=z8f k;generalize tab2 k=us at hs hl⊢;(conv=>whnf);refine zfb true true false 1 18 0 [(k:Int)+16] 2 1 rfl rfl zO hl rfl zV zO fun us' hu hl'=>?_;(conv=>whnf);refine ⟨_,wr64 zO,?_⟩;(conv=>whnf);exact ⟨⟨k+1,by omega⟩,zjy Tn (aI sM (aI ((aI rfl (Or.inl (by rw [hu, ← hs])))) trivial)) rfl (zoy _ _ _ _),by show 12-(k+1)<12-k;omega⟩
  ·have hke:k=12:=by simp at hc;omega
   subst hke;(conv=>whnf);refine ⟨_,_,zj3,?_⟩;(conv=>whnf);exact ⟨⟨tab2 12,rfl⟩,zj7 rfl Tn Tn⟩
 obtain ⟨u0,hu0⟩:=y
 clear hv0 v0
 have hl0:u0.length=448:=by rw [hu0,z8f]
 dsimp only
 refine z3o ?_
 conv=>whnf
 refine zfb true true false 2 18 0 [17,18,19] 2 3 rfl rfl zO hl0 rfl zS zO fun u1 hu1 hl1=>?_
 conv=>whnf
 refine z3o ?_
 conv=>whnf
 refine zfb true true false 1 18 0 [32,33,34,35,36,37] 3 6 rfl rfl zO hl1 rfl zS zO fun u2 hu2 hl2=>?_
 conv=>whnf
 refine z3o ?_
 conv=>whnf
 refine zfb true false false 1 22 0 [40] 4 1 rfl rfl zO hl2 rfl zS zO fun u3 hu3 hl3=>?_
 conv=>whnf
 refine z3o ?_
 conv=>whnf
 refine zfb true false false 2 22 0 [41] 5 1 rfl rfl zO hl3 rfl zS zO fun u4 hu4 hl4=>?_
 conv=>whnf
 refine z3o ?_
 conv=>whnf
 refine zfb false false false 2 18 0 [48] 6 1 rfl rfl zO hl4 rfl zS zO fun u5 hu5 hl5=>?_
 conv=>whnf
 refine z3o ?_
 conv=>whnf
 refine zfb false false false 0 0 0 [49,50,51] 7 3 rfl rfl zO hl5 rfl zS zO fun u6 hu6 hl6=>?_
 conv=>whnf
 refine z3o ?_
 conv=>whnf
 refine zfb false true false 0 0 0 [52] 8 1 rfl rfl zO hl6 rfl zS zO fun u7 hu7 hl7=>?_
 conv=>whnf
 refine z3o ?_
 conv=>whnf
 refine zfb true false false 2 18 3 [53] 9 1 rfl rfl zO hl7 rfl zS zO fun u8 hu8 hl8=>?_
 conv=>whnf
 refine z3o ?_
 conv=>whnf
 refine zfb false true false 2 18 4 [54] 10 1 rfl rfl zO hl8 rfl zS zO fun u9 hu9 hl9=>?_
 conv=>whnf
 have e:u9=z49:=by rw [hu9,hu8,hu7,hu6,hu5,hu4,hu3,hu2,hu1,hu0];exact z5c
 have hfl:u9.all zm1=true:=e▸z5b
 have hm:(List.map CV.v u9).length=448:=by rw [List.length_map,hl9]
 have hz:(List.map CV.v yby).length=448:=by rw [List.length_map,ybz]
 refine z3t ?_
 conv=>whnf
 rw [show cut (List.map CV.v u9) 0 (Tryz.prog.types[256].size)=some (List.map CV.v u9) from zhx hm]
 conv=>whnf
 rw [show Nat.beq (List.map CV.v u9).length (Tryz.prog.types[256].size)=true from by rw [hm];rfl,zwl _ u9 hfl]
 conv=>whnf
 rw [show Nat.ble (0+(List.map CV.v u9).length) (List.map CV.v yby).length=true from Nat.ble_eq_true_of_le (by rw [hm,hz];omega)]
 conv=>whnf
 refine zcg ?_
 conv=>whnf
 rw [z4b (show (List.map CV.v yby).length=(List.map CV.v u9).length by rw [hm,hz])]
 conv=>whnf
 rw [show cut (List.map CV.v u9) 0 (Tryz.prog.types[256].size)=some (List.map CV.v u9) from zhx hm]
 conv=>whnf
 exact zmj (z9m _) fun w' hB=>⟨by rw [e],hB⟩
abbrev pV (b:Nat):Value:= .pointer (some ⟨b,0,none⟩)
theorem zx7 {w w':World} {e:TypeId} {size n:Nat} {v:Value} {xs:List Value} (h:w.ownsRow 0 e size v n xs) (hB:Below w.heap.size w w'):w'.ownsRow 0 e size v n xs:=by
 obtain ⟨h1,h2⟩:=h;refine ⟨h1,?_⟩;rcases h2 with h2|⟨g,cap,cur,hv,hg,hh,hr⟩
 ·exact .inl h2
 ·exact .inr ⟨g,cap,cur,hv,hg,(hB.block g (by
   rcases Nat.lt_or_ge g w.heap.size with h3|h3
   ·exact h3
   ·rw [Array.getElem?_eq_none h3] at hh;cases hh)).trans hh,hr⟩
section
variable {w:World} {g:Nat} {vA vP vO:Value} {l:List BOp}
theorem LiftAt.lt (h:LiftAt w g vA vP vO l):g<w.heap.size:=by
 rcases Nat.lt_or_ge g w.heap.size with h1|h1
 ·exact h1
 ·have:=h.blk;rw [Array.getElem?_eq_none h1] at this;cases this
theorem LiftAt.later {w':World} (h:LiftAt w g vA vP vO l) (hB:Below w.heap.size w w'):LiftAt w' g vA vP vO l:=
 ⟨(hB.block g h.lt).trans h.blk,zx7 h.row hB,h.far⟩
theorem LiftTo.refl {w':World} (h:LiftAt w g vA vP vO l) (hB:Below w.heap.size w w'):LiftTo w w' g vA vP vO l:=
 ⟨⟨vO,h.later hB,fun _b hb=> .inl hb⟩,hB.os,hB.tape,hB.output,hB.size,fun b hb _ _=>hB.block b hb⟩
theorem LiftTo.later {w1 w2:World} {l1:List BOp} (h:LiftTo w w1 g vA vP vO l1) (hB:Below w1.heap.size w1 w2):LiftTo w w2 g vA vP vO l1:=by
 obtain ⟨vO1,k1,k2⟩:=h.out;exact ⟨⟨vO1,k1.later hB,k2⟩,hB.os.trans h.os,hB.tape.trans h.tape,hB.output.trans h.output,Nat.le_trans h.size hB.size,fun b hb h1 h2=>(hB.block b (Nat.lt_of_lt_of_le hb h.size)).trans (h.block b hb h1 h2)⟩
theorem LiftTo.early {w1 w2:World} {l1:List BOp} (hB:Below w.heap.size w w1) (h:LiftTo w1 w2 g vA vP vO l1):LiftTo w w2 g vA vP vO l1:=by
 obtain ⟨vO1,k1,k2⟩:=h.out;exact ⟨⟨vO1,k1,fun b hb=>(k2 b hb).imp id fun h2=>Nat.le_trans hB.size h2⟩,h.os.trans hB.os,h.tape.trans hB.tape,h.output.trans hB.output,Nat.le_trans hB.size h.size,fun b hb h1 h2=>(h.block b (Nat.lt_of_lt_of_le hb hB.size) h1 h2).trans (hB.block b hb)⟩
theorem LiftTo.then {w1 w2:World} {l1 l2:List BOp} {vO1:Value} (h:LiftTo w w1 g vA vP vO l1) (hb:∀ b,vO1.ownBlock=some b→vO.ownBlock=some b∨w.heap.size≤b) (k:LiftTo w1 w2 g vA vP vO1 l2):LiftTo w w2 g vA vP vO l2:=by
 obtain ⟨vO2,k1,k2⟩:=k.out;refine ⟨⟨vO2,k1,fun b hb2=>?_⟩,k.os.trans h.os,k.tape.trans h.tape,k.output.trans h.output,Nat.le_trans h.size k.size,fun b hlt h1 h2=>?_⟩
 ·rcases k2 b hb2 with h3|h3
  ·exact hb b h3
  ·exact .inr (Nat.le_trans h.size h3)
 ·refine (k.block b (Nat.lt_of_lt_of_le hlt h.size) h1 fun e=>?_).trans (h.block b hlt h1 h2)
  rcases hb b e with h3|h3
  ·exact h2 h3
  ·omega
end
def MemP.pokeAt (M:MemP) (a:Int) (l:List Int) (j:Nat):MemP:=(l.take j).zipIdx.foldl (fun Q bi=>if (a+bi.2)%4294967296<Q.data.length then Q.put ((a+bi.2)%4294967296) bi.1 else Q) M
theorem zy7 (M:MemP) (a:Int) (l:List Int):M.pokeAt a l 0=M:=rfl
theorem zy6 (M:MemP) (a:Int) (l:List Int) {j:Nat} {b:Int} (h:l[j]?=some b):M.pokeAt a l (j+1)=if (a+j)%4294967296<(M.pokeAt a l j).data.length then (M.pokeAt a l j).put ((a+j)%4294967296) b else M.pokeAt a l j:=by
 have hj:j<l.length:=by
  rcases Nat.lt_or_ge j l.length with h1|h1
  ·exact h1
  ·rw [List.getElem?_eq_none h1] at h;cases h
 have hl:(l.take j).length=j:=(by rw [List.length_take];omega);unfold MemP.pokeAt;rw [z8q h,List.zipIdx_append,List.foldl_append,hl];simp only [List.zipIdx_cons,List.zipIdx_nil,List.foldl_cons,List.foldl_nil,Nat.zero_add]
theorem zy5 {M:MemP} {n p:Nat} (hM:M.ok n p) (a:Int) {l:List Int} (hb:∀ x∈l,0≤x∧x<256):∀ j,j≤l.length→(M.pokeAt a l j).ok n p
 |0,_=>hM
 |j+1,h=>by
  have e:l[j]?=some l[j]:=List.getElem?_eq_getElem h;rw [zy6 M a l e];have ih:=zy5 hM a hb j zO
  split
  ·exact zzp ih _ (hb _ (List.getElem_mem h))
  ·exact ih
theorem zuj (M:MemP) (n p:Nat) (a:Int) (l:List Int) (w:World) (g:Nat) (gs:List Nat) (hU:ObjsAt w (g::gs) (memS 0 n p M)) (hM:M.ok n p) (_ha:word a) (hbl:∀ x∈l,0≤x∧x<256) (hlen:l.length≤1000000) (hn8:8<n):
  Calls Tryz.prog 62 #[.pointer (some ⟨g,0,none⟩),.int .u32 a,strV l] w fun e w'=>e= .returned (.tuple #[])∧ObjsAt w' (g::gs) (memS 0 n p (M.pokeAt a l l.length))∧GrownBys w w' (g::gs):=by
 obtain ⟨g0,g1,g2,g3,g4,g5,hg⟩:=z56 hU;injection hg with hg0 hgs;subst hgs;subst hg0;have hnp:=hM.np;have hpm:=hM.pmax;refine zfd [.p (.c (.ref 0 0)),one (.int .u32 a),one (strV l)] [.pointer (some ⟨g,0,none⟩),.int .u32 a,strV l] Tryz.func62 Tryz.ntmps62 rfl zS hU ⟨_,_,rfl,zix rfl,zc6 [.int .u32 a,strV l]⟩ ?_;(conv=>whnf)
 refine ⟨{j:Nat//j≤l.length},fun x=>[(0,.p (.c (.ref 0 0))),(1,one (.int .u32 a)),(2,one (strV l)),(6,one (.int .i64 (x.1:Int)))],fun x=>memS 0 n p (M.pokeAt a l x.1),fun x=>l.length-x.1,
  ⟨⟨0,by omega⟩,zj7 rfl Tn Tn⟩,fun x=>?_⟩
 obtain ⟨j,hj⟩:=x;dsimp only;(conv=>whnf);refine z0k l rfl rfl rfl ?_;(conv=>whnf);refine ⟨fun hc=>?_,fun hc=>?_⟩
 ·have hlt:j<l.length:=by simpa using hc
  have hQ:=zy5 hM a hbl j hj
  obtain ⟨b,hb⟩:∃ b,l[j]?=some b:=⟨_,List.getElem?_eq_getElem zO⟩
  have hbb:=hbl b (List.mem_of_getElem? hb);have hnext:=zy6 M a l hb;generalize M.pokeAt a l j=Q at hQ hnext⊢;rw [hQ.ld] at hnext;have hlenQ:n≤(List.map CV.v Q.dV).length:=z8j hQ.ld;have hadr:IntKind.u32.wrap (a+(j:Int))=(a+j)%4294967296:=wr32 _;have hax:0≤(a+j)%4294967296∧(a+j)%4294967296<4294967296:=(by omega);(conv=>whnf);refine ⟨(j:Int),by rw [wr32];omega,?_⟩;(conv=>whnf);refine ⟨_,hadr,?_⟩;generalize (a+(j:Int))%4294967296=z at hax hnext hadr⊢;(conv=>whnf);refine ze4 (pre:=[]) (suf:=[one (.int .u32 z)]) 0 n p Q (.bool (decide (z<(n:Int)))) (fun i hi=>by rw [Nat.zero_add]) rfl rfl zK (fun w' g gs hk hU=>zue Q n p z w' g gs hU hQ hax) ?_;(conv=>whnf);refine ⟨fun hc=>?_,fun hc=>?_⟩
  ·have hz:z<(n:Int):=by simpa using hc
   rw [if_pos hz] at hnext;(conv=>whnf);refine z27 12 mixed zK ?_;(conv=>whnf);refine ⟨(j:Int),by rw [wr32];omega,?_⟩;(conv=>whnf);refine ⟨_,hadr,?_⟩;(conv=>whnf);refine z0j l .i64 j b rfl rfl rfl rfl hb hbb ?_;(conv=>whnf);refine ⟨⟨by omega,by omega⟩,?_⟩;(conv=>whnf);rw [show Nat.ble (0+z.toNat*tsz Tryz.prog 5+[CV.v (Value.int IntKind.u8 b)].length) (List.map CV.v Q.dV).length=true from Nat.ble_eq_true_of_le (by refine Nat.le_trans ?_ hlenQ;show 0+_*1+1≤n;omega)];(conv=>whnf);rw [show Nat.ble (List.map CV.v Q.dV).length 8=false from zdy zO];(conv=>whnf);refine ⟨_,wr64 zO,?_⟩;(conv=>whnf)
   have hset:z38 (List.map CV.v Q.dV) (0+z.toNat*tsz Tryz.prog 5) [CV.v (Value.int IntKind.u8 b)]=List.map CV.v (M.pokeAt a l (j+1)).dV:=by
    rw [z4p,hnext];show List.map CV.v (Q.dV.set (0+z.toNat*1) _)=List.map CV.v ((Q.put z b).dV);rw [Nat.zero_add,Nat.mul_one, ← zzm Q b (by rw [hQ.ld];omega)]
   have hrest:Q.iV=(M.pokeAt a l (j+1)).iV∧Q.odV=(M.pokeAt a l (j+1)).odV∧Q.oiV=(M.pokeAt a l (j+1)).oiV∧Q.rV=(M.pokeAt a l (j+1)).rV:=(by rw [hnext];exact ⟨rfl,rfl,rfl,rfl⟩);exact ⟨⟨j+1,by omega⟩,zj7 rfl Tn (aI ((aI rfl (Or.inl (by rw [hnext];rfl)))) (aI ((aI rfl (Or.inl hset))) (aI ((aI rfl (Or.inl (by rw [hrest.1])))) (aI ((aI rfl (Or.inl (by rw [hrest.2.1])))) (aI ((aI rfl (Or.inl (by rw [hrest.2.2.1])))) (aI ((aI rfl (Or.inl (by rw [hrest.2.2.2])))) trivial)))))),by show l.length-(j+1)<l.length-j;omega⟩
  ·have hz:¬z<(n:Int):=by simpa using hc
   rw [if_neg hz] at hnext;(conv=>whnf);refine ⟨_,wr64 zO,?_⟩;(conv=>whnf);exact ⟨⟨j+1,by omega⟩,zj7 rfl Tn (aI ((aI rfl (Or.inl (by rw [hnext])))) (aI ((aI rfl (Or.inl (by rw [hnext])))) (aI ((aI rfl (Or.inl (by rw [hnext])))) (aI ((aI rfl (Or.inl (by rw [hnext])))) (aI ((aI rfl (Or.inl (by rw [hnext])))) (aI ((aI rfl (Or.inl (by rw [hnext])))) trivial)))))),by show l.length-(j+1)<l.length-j;omega⟩
 ·have hje:j=l.length:=by simp at hc;omega
  rw [hje];(conv=>whnf);refine ⟨_,_,zj3,?_⟩;(conv=>whnf)
  exact zmh rfl rfl (fun i o h=>h) (zt6 n p (M.pokeAt a l l.length)) fun w' h1 h2=>⟨rfl,h1,h2⟩
theorem zd0 {w:World} {b:Nat} {us:List Value} {t:TypeId} (h:w.heap[b]?=some (.cells us.toArray t (0,0))):zac w Gs.nil b 0 us:=
 zfq (zpt h) zS fun j u hj=>by simp [World.cell?,h,hj]
section
variable {w:World} {g:Nat} {vA vP vO:Value} {l:List BOp} {pi:Nat}
end
abbrev keepS (l l':List Slt):Prop:=l'.length=l.length∧∀ k:Nat,(l'[k]?).map (fun s=>(s.r,s.oc))=(l[k]?).map fun s=>(s.r,s.oc)
theorem keepS.refl (l:List Slt):keepS l l:=⟨rfl,fun _=>rfl⟩
theorem keepS.trans {l l' l2:List Slt} (h:keepS l l') (k:keepS l' l2):keepS l l2:=⟨k.1.trans h.1,fun i=>(k.2 i).trans (h.2 i)⟩
def FrameT (w w':World):Prop:=∀ (b:Nat) (us:Array Value) (t:TypeId),w.heap[b]?=some (.cells us t (0,0))→t≠179→t≠177→w'.heap[b]?=w.heap[b]?
theorem FrameT.of {w w':World} (h:Below w.heap.size w w'):FrameT w w':=fun b _us _t hb _ _=>h.block b (zpt hb)
theorem FrameT.trans {a b c:World} (h:FrameT a b) (k:FrameT b c):FrameT a c:=fun i us t hi h1 h2=>by
 have e:=h i us t hi h1 h2;exact (k i us t (e.trans hi) h1 h2).trans e
theorem FrameT.grown {w w':World} {g:Nat} {us:Array Value} {t:TypeId} (hg:w.grownBy w' (some g)) (h:w.heap[g]?=some (.cells us t (0,0))) (ht:t=179∨t=177):FrameT w w':=fun b vs t' hb h1 h2=>hg.block b (zpt hb) (by
 intro e;injection e with e;subst e;rw [h] at hb;injection hb with hb;injection hb with _ hb;subst hb;rcases ht with ht|ht
 ·exact h1 ht
 ·exact h2 ht)
section
variable {w w':World} {B m sb:Nat} {l:List Slt} {img:Nat→List Int}
end
section
variable {P:Program} {w0:World} {G:Gs} {N:Nd} {S:List Ow} {f:Fr} {c:Code} {Q:Exit→Act→World→Prop}
theorem z3v (d i g:Nat) (hd:f.get d=one (.pointer (some ⟨g,0,none⟩))) (G':Gs) (S':List Ow) (h:∀ r w1,Rel w0 G S r w1→∃ r',Rel w1 G' S' r' w1∧r'.blk i=some g∧SatQ P w1 G' N c ((d,.p (.c (.ref i 0)))::plF f) S' Q):SatQ P w0 G N c f S Q:=
 ⟨fun a w ⟨r,hR,hf,hN,hds⟩=>by
  obtain ⟨r',k1,k2,k3⟩:=h r w hR;refine k3.out a w ⟨r',k1,fun k=>?_,hN,hds⟩;simp only [Fr.get]
  split
  ·rename_i hk
   obtain rfl:=Nat.eq_of_beq_eq_true hk;have h1:=hf d;rw [hd] at h1;rw [zi2 h1];exact zix k2
  ·exact zyv hf k⟩
theorem zcn {e:Exit} (d i g:Nat) (hd:f.get d= .p (.c (.ref i 0))) (hg:∀ r w1,Rel w0 G S r w1→r.blk i=some g) (h:∀ r w1,Rel w0 G S r w1→AtQ w1 Gs.nil N e ((d,one (.pointer (some ⟨g,0,none⟩)))::plF f) [] Q):AtQ w0 G N e f S Q:=
 ⟨fun a w ⟨r,hR,hf,hN,hds⟩=>by
  refine (h r w hR).out a w ⟨Env.none,z1w w,fun k=>?_,hN,hds⟩;simp only [Fr.get]
  split
  ·rename_i hk
   obtain rfl:=Nat.eq_of_beq_eq_true hk;have h1:=hf d;rw [hd] at h1;obtain ⟨b,hb,hu⟩:=zi0 h1;rw [hg r w hR] at hb;injection hb with hb;subst hb;rw [hu];exact ziz _ _
  ·exact zyv hf k⟩
end
end Go.Proofs.YtocafomnnkmjfaaGreat
