import Derived.Test.YtocafomnnkmjfaaGreatK19
set_option maxRecDepth 100000
set_option maxHeartbeats 2000000
namespace Go.Proofs.YtocafomnnkmjfaaGreat
open Go.RowKit
abbrev encV (x:Option Int):Value:= .tuple #[.int .u32 (x.getD 0),intV (if x.isSome then 0 else 12)]
def QI.zero:QI:=⟨0,0,0,0,0⟩
abbrev decV (x:Option QI):Value:= .tuple #[qiV (x.getD QI.zero),intV (if x.isSome then 0 else 12)]
theorem z9r {i:QI} (h:z9p i=true):(0≤i.op∧i.op<64)∧(0≤i.d∧i.d<16)∧(0≤i.a∧i.a<16)∧(0≤i.b∧i.b<16):=by
 obtain ⟨h1,h2,h3,h4,_⟩:=z9q h;have h5:=(zz6 i.op).2.2.2.2.1 h1;have:=z1l h2;have:=z1l h3;have:=z1l h4;omega
theorem zjo (i:QI) (w:World) (h:0≤i.op∧i.op<64) (hi:word i.imm):Calls Tryz.prog 87 #[qiV i] w fun e w'=>e= .returned (encV (encQ i))∧Below w.heap.size w w':=by
 refine zfj [qiV i] Tryz.func87 Tryz.ntmps87 rfl zS ?_;(conv=>whnf);refine ze2 rfl zK (fun r w' _=>z91 i w' h hi) ?_;unfold encQ
 cases hv:z9p i with
 |false=>
  refine kB ?_
  exact zmj rfl fun w' hB=>⟨rfl,hB⟩
 |true=>
  obtain ⟨r0,rd,ra,rb⟩:=z9r hv;refine kB ?_;(conv=>whnf);refine ⟨i.op,by rw [wr32];omega,?_⟩;(conv=>whnf);refine ⟨i.op*67108864,by rw [wr32];omega,?_⟩;(conv=>whnf);refine ⟨i.d,by rw [wr32];omega,?_⟩;(conv=>whnf);refine ⟨i.d*4194304,by rw [wr32];omega,?_⟩;(conv=>whnf);refine ⟨i.op*67108864+i.d*4194304,by rw [wr32];omega,?_⟩;(conv=>whnf);refine ⟨i.a,by rw [wr32];omega,?_⟩;(conv=>whnf);refine ⟨i.a*262144,by rw [wr32];omega,?_⟩;(conv=>whnf);refine ⟨i.op*67108864+i.d*4194304+i.a*262144,by rw [wr32];omega,?_⟩;(conv=>whnf);refine ⟨i.b,by rw [wr32];omega,?_⟩;(conv=>whnf);refine ⟨i.b*16384,by rw [wr32];omega,?_⟩;(conv=>whnf);refine ⟨i.op*67108864+i.d*4194304+i.a*262144+i.b*16384,by rw [wr32];omega,?_⟩;(conv=>whnf);refine ze2 rfl zK (fun r w' _=>zv8 i.op w' h) ?_;have hw:ya0 i=i.op*67108864+i.d*4194304+i.a*262144+i.b*16384+i.imm%2^(zz5 i.op).bits:=rfl;have hword:=(zib hv hi).2;rw [hw] at hword⊢;have hf:=znm i.op;generalize zz5 i.op=f at hf hword⊢;(conv=>whnf);rcases hf.bits with hb|hb
  ·rw [hb]
   refine kA ?_;(conv=>whnf)
   refine zmj rfl fun w' hB=>⟨?_,hB⟩
   simp [encV]
  ·refine ⟨fun hc=>absurd hc zV,fun _=>?_⟩
   (conv=>whnf);refine ⟨_,zg3 hb,?_⟩;(conv=>whnf);refine ⟨by omega,_,shl1 hb,?_⟩;(conv=>whnf);refine ⟨by rcases hb with hb|hb<;>rw [hb]<;>decide,i.imm%2^f.bits,Int.tmod_eq_emod_of_nonneg hi.1,?_⟩;(conv=>whnf);refine ⟨i.op*67108864+i.d*4194304+i.a*262144+i.b*16384+i.imm%2^f.bits,?_,?_⟩
   ·rw [wr32];unfold word at hword;omega
   conv=>whnf
   refine zmj rfl fun w' hB=>⟨?_,hB⟩
   simp [encV]
theorem ya4:word 0:=by unfold word;omega
theorem q26 {w:Int} (h:word w):w.tdiv 67108864=w/67108864∧(0≤w/67108864∧w/67108864<64):=by
 obtain ⟨h0,h1⟩:=h;exact ⟨Int.tdiv_eq_ediv_of_nonneg h0,by omega⟩
def zl3 (f:QForm) (w:Int):QI:=
 ⟨w/67108864,if f.d=true then w/4194304%16 else 0,if f.a=true then w/262144%16 else 0,if f.b=true then w/16384%16 else 0,if f.signed=true then sgnW (w%2^f.bits) f.bits else w%2^f.bits⟩
theorem zl4 (w:Int):zl3 (zz5 (w/67108864)) w=zl5 w:=rfl
theorem zic (x:Int) (w:World) (hx:word x):Calls Tryz.prog 33 #[.int .u32 x] w fun e w'=>e= .returned (decV (decQ x))∧Below w.heap.size w w':=by
 have h0:=hx.1;obtain ⟨q1,q2⟩:=q26 hx;refine zfj [.int .u32 x] Tryz.func33 Tryz.ntmps33 rfl zS ?_;(conv=>whnf);refine ⟨by decide,x/67108864,by rw [q1,wr32];omega,?_⟩;(conv=>whnf);refine ⟨x/67108864,wr64 zO,?_⟩;(conv=>whnf);refine ze2 rfl zK (fun r w' _=>zv8 (x/67108864) w' q2) ?_;have hf:=znm (x/67108864);unfold decQ;rw [← zl4];generalize zz5 (x/67108864)=f at hf⊢;obtain ⟨is,fd,fa,fb,fs,bits,most⟩:=f;obtain ⟨hb,hm,hs⟩:=hf;dsimp only at hb hm hs
 have fld:∀ k:Int,0<k→x.tdiv k=x/k∧(x/k).tmod 16=x/k%16∧IntKind.i64.wrap (x/k%16)=x/k%16:=fun k hk=>by
  have h1:0≤x/k:=Int.ediv_nonneg h0 zO;exact ⟨Int.tdiv_eq_ediv_of_nonneg h0,Int.tmod_eq_emod_of_nonneg h1,wr64 zO⟩
 obtain ⟨d1,d2,d3⟩:=fld 4194304 zO;obtain ⟨a1,a2,a3⟩:=fld 262144 zO;obtain ⟨b1,b2,b3⟩:=fld 16384 zO
 obtain ⟨y,hy⟩:∃ y,zl3 ⟨is,fd,fa,fb,fs,bits,most⟩ x=y:=⟨_,rfl⟩
 rw [hy]
 have hyop:y.op=x/67108864:=by rw [← hy];rfl
 have e0:x%2^0=0:=by simp
 cases fd<;>cases fa<;>cases fb<;>((conv=>whnf);(repeat (first|(refine ⟨fun _=>?_,nT⟩;(conv=>whnf))|(refine ⟨nF,fun _=>?_⟩;(conv=>whnf))|(refine ⟨by decide,x/4194304,by rw [d1,wr32];omega,?_⟩;(conv=>whnf);refine ⟨by decide,x/4194304%16,d2,?_⟩;(conv=>whnf);refine ⟨_,d3,?_⟩;(conv=>whnf))|(refine ⟨by decide,x/262144,by rw [a1,wr32];omega,?_⟩;(conv=>whnf);refine ⟨by decide,x/262144%16,a2,?_⟩;(conv=>whnf);refine ⟨_,a3,?_⟩;(conv=>whnf))|(refine ⟨by decide,x/16384,by rw [b1,wr32];omega,?_⟩;(conv=>whnf);refine ⟨by decide,x/16384%16,b2,?_⟩;(conv=>whnf);refine ⟨_,b3,?_⟩;(conv=>whnf)))))
 all_goals
  rcases hb with rfl|hb
  ·obtain rfl:fs=false:=by
    cases fs with
    |false=>rfl
    |true=>exact absurd (hs rfl).1 zO
   refine kA ?_;simp only [zl3,e0,eq_self,if_true,Bool.false_eq_true,if_false] at hy;refine ze2 (xs:=[qiV y]) (by rw [← hy];rfl) zK (fun r w' _=>zjo y w' (by rw [hyop];exact q2) (by rw [← hy];exact ya4)) ?_;(conv=>whnf);generalize encQ y=ey
   cases ey with
   |none=>
    refine kB ?_;(conv=>whnf)
    exact zmj rfl fun w' hB=>⟨by simp [decV,QI.zero],hB⟩
   |some z=>
    refine kB ?_;(conv=>whnf);refine ⟨fun hc=>?_,fun hc=>?_⟩
    ·conv=>whnf
     refine zmj rfl fun w' hB=>⟨?_,hB⟩
     have:¬z=x:=(by simpa using hc);simp [decV,QI.zero,this]
    ·conv=>whnf
     refine zmj rfl fun w' hB=>⟨?_,hB⟩
     have:z=x:=(by simpa using hc);rw [if_pos (by rw [this]), ← hy];rfl
  ·have hlow:0≤x%2^bits∧x%2^bits<4194304:=by rcases hb with hb|hb<;>rw [hb]<;>omega
   refine ⟨fun _=>?_,fun hc=>absurd hc zV⟩;(conv=>whnf);refine ⟨_,zg3 hb,?_⟩;(conv=>whnf);refine ⟨by omega,_,shl1 hb,?_⟩;(conv=>whnf);refine ⟨by show (2:Int)^bits≠0;rcases hb with hb|hb<;>rw [hb]<;>decide,x%2^bits,Int.tmod_eq_emod_of_nonneg h0,?_⟩
   have hwl:word (x%2^bits):=⟨hlow.1,by omega⟩
   conv=>whnf
   cases fs with
   |false=>
    refine kA ?_;simp only [zl3,eq_self,if_true,Bool.false_eq_true,if_false] at hy;refine ze2 (xs:=[qiV y]) (by rw [← hy];rfl) zK (fun r w' _=>zjo y w' (by rw [hyop];exact q2) (by rw [← hy];exact hwl)) ?_;(conv=>whnf);generalize encQ y=ey
    cases ey with
    |none=>
     refine kB ?_;(conv=>whnf)
     exact zmj rfl fun w' hB=>⟨by simp [decV,QI.zero],hB⟩
    |some z=>
     refine kB ?_;(conv=>whnf);refine ⟨fun hc=>?_,fun hc=>?_⟩
     ·conv=>whnf
      refine zmj rfl fun w' hB=>⟨?_,hB⟩
      have:¬z=x:=(by simpa using hc);simp [decV,QI.zero,this]
     ·conv=>whnf
      refine zmj rfl fun w' hB=>⟨?_,hB⟩
      have:z=x:=(by simpa using hc);rw [if_pos (by rw [this]), ← hy];rfl
   |true=>
    refine kA ?_;simp only [zl3,eq_self,if_true,Bool.false_eq_true,if_false] at hy;refine ze2 rfl zK (fun r w' _=>z5k (x%2^bits) bits w' hwl (.inr hb)) ?_;(conv=>whnf);refine ze2 (xs:=[qiV y]) (by rw [← hy];rfl) zK (fun r w' _=>zjo y w' (by rw [hyop];exact q2) (by rw [← hy];exact z4x _ (.inr hb))) ?_;(conv=>whnf);generalize encQ y=ey
    cases ey with
    |none=>
     refine kB ?_;(conv=>whnf)
     exact zmj rfl fun w' hB=>⟨by simp [decV,QI.zero],hB⟩
    |some z=>
     refine kB ?_;(conv=>whnf);refine ⟨fun hc=>?_,fun hc=>?_⟩
     ·conv=>whnf
      refine zmj rfl fun w' hB=>⟨?_,hB⟩
      have:¬z=x:=(by simpa using hc);simp [decV,QI.zero,this]
     ·conv=>whnf
      refine zmj rfl fun w' hB=>⟨?_,hB⟩
      have:z=x:=(by simpa using hc);rw [if_pos (by rw [this]), ← hy];rfl
def z5o (op:Int):Bool:=decide (op<48)
theorem zrd {op:Int} (h:(zz5 op).is=true):(1≤op∧op≤12)∨(16≤op∧op≤27)∨(32≤op∧op≤37)∨op=40∨op=41∨(48≤op∧op≤54):=by
 unfold zz5 at h
 repeat' split at h
 all_goals first|omega|cases h
theorem zz4 {op:Int}:zz3 op≠0↔(1≤op∧op≤12)∨(16≤op∧op≤22):=by
 unfold zz3
 repeat' split
 all_goals omega
def zrk (F:Int→Option QI):Nat→(Int→Int)→Int→MemP→Option ((Int→Int)×Int×MemP)
 |0,R,a,M=>some (R,a,M)
 |m+1,R,a,M=>(match z7d (qAt F a) a R M with
  |none=>none
  |some (R',nx,M')=>zrk F m R' nx M')
theorem zrl (F:Int→Option QI) (m:Nat) (R:Int→Int) (a:Int) (M:MemP):zrk F (m+1) R a M=(match z7d (qAt F a) a R M with
  |none=>none
  |some (R',nx,M')=>zrk F m R' nx M'):=rfl
theorem zou (g g1 g2 g3 g4 g5 n p:Nat) (M:MemP) (t1 t2:TypeId) (us1 us2:List Value):zot ⟨[g,g1,g2,g3,g4,g5],[]⟩ (memL 0 n p M [.cells t1 (us1.map .v),.cells t2 (us2.map .v)])=true:=
 zox g g1 g2 g3 g4 g5 n p M _ (by simp only [sbnd,Ow.bnd,zd6])
theorem zt0 (n p:Nat) (M:MemP) (t1 t2:TypeId) (us1 us2:List Value):sbnd 8 (memL 0 n p M [.cells t1 (us1.map .v),.cells t2 (us2.map .v)])=true:=by
 simp only [sbnd,Ow.bnd,zd6,bndL,CV.bnd]
 rfl
theorem eight {gs:List Nat} (h:gs.length=8):∃ x0 x1 x2 x3 x4 x5 x6 x7,gs=[x0,x1,x2,x3,x4,x5,x6,x7]:=by
 match gs,h with
 |[x0,x1,x2,x3,x4,x5,x6,x7],_=>exact ⟨x0,x1,x2,x3,x4,x5,x6,x7,rfl⟩
def zaa (o:BOp) (vs:List Int) (n p:Nat) (M:MemP) (g:Nat) (gs:List Nat) (w:World):Ending→World→Prop:=fun e w'=>e= .returned (.tuple #[yaf (zbr o vs M).vs,.bool (zbr o vs M).stays])∧ObjsAt w' (g::gs) (memS 0 n p (zbr o vs M).mem)∧GrownBys w w' (g::gs)
theorem zb0 (o:BOp) (vs:List Int) (n p:Nat) (M:MemP) (w:World) (g:Nat) (gs:List Nat) (hU:ObjsAt w (g::gs) (memS 0 n p M)) (hM:M.ok n p) (hf:znn o=true) (ho:o.ok) (hvs:VarsOk vs):
  Calls Tryz.prog 84 #[opV o,yaf vs,.pointer (some ⟨g,0,none⟩)] w (zaa o vs n p M g gs w):=by
 obtain ⟨g0,g1,g2,g3,g4,g5,hg⟩:=z56 hU;injection hg with hg0 hgs;subst hgs;subst hg0;have ha:=zno hf;have hb:=znp hf;have hd:=znr hf;have hvl:=yae hvs;have hz:=yb0;refine zfe [AV.of (opV o),AV.of (yaf vs),.p (.c (.ref 0 0))] [opV o,yaf vs,.pointer (some ⟨g,0,none⟩)] Tryz.func84 Tryz.ntmps84 rfl zS hU ⟨_,_,rfl,AV.of_den _ _,_,_,rfl,AV.of_den _ _,_,_,rfl,zix rfl,rfl⟩ ?_;refine z3o ?_;(conv=>whnf);refine z3o ?_;(conv=>whnf);refine ⟨⟨by omega,by omega⟩,?_⟩;(conv=>whnf);erw [z98 hvs ha];(conv=>whnf);refine z3o ?_;(conv=>whnf);refine ⟨⟨by omega,by omega⟩,?_⟩;(conv=>whnf);erw [z98 hvs hb];(conv=>whnf);refine z3o ?_;(conv=>whnf);refine ze2 (x:= .agg #[.bool (isOp o.code),.bool (hasD o.code),.bool (hasA o.code),.bool (hasB o.code),.bool (hasN o.code),.bool (leaves o.code)]) rfl zK (fun r w' hR=>z44 o.code w') ?_;(conv=>whnf)
 obtain ⟨a,hae⟩:∃ a,a=getV vs o.a:=⟨_,rfl⟩
 obtain ⟨b,hbe⟩:∃ b,b=getV vs o.b:=⟨_,rfl⟩
 have haw:word a:=by rw [hae];exact zoj hvs _
 have hbw:word b:=by rw [hbe];exact zoj hvs _
 rw [← hae, ← hbe]
 refine z3a (f':=[(2,.p (.c (.ref 0 0))),(3,.p (.c (.ref 6 0))),(4,.p (.c (.ref 7 0))),(6,.p (.c (.ref 8 0))),(7,one (.bool false)),(8,one (.int .u32 a)),(9,one (.int .u32 b)),(10,.p (.c (.ref 9 0)))])
  (S':=memL 0 n p M [.cells 61 ((opC o).map .v),.cells 42 (yad vs),.cells 42 (yad (List.replicate 28 0)),.cells 195 [.v (.bool (isOp o.code)),.v (.bool (hasD o.code)),.v (.bool (hasA o.code)),.v (.bool (hasB o.code)),.v (.bool (hasN o.code)),.v (.bool (leaves o.code))]])
  (zj7 rfl Tn Tn) ?_
 have hent:∀ (f:Fr) (us:List Int) (Z:List CV),Z=yad us→f.get 4= .p (.c (.ref 7 0))→f.get 6= .p (.c (.ref 8 0))→Ent w ⟨[g,g1,g2,g3,g4,g5],[]⟩ ⟨101,[]⟩ f (memL 0 n p M [.cells 61 ((opC o).map .v),.cells 42 Z,.cells 42 (yad (List.replicate 28 0)),.cells 195 [.v (.bool (isOp o.code)),.v (.bool (hasD o.code)),.v (.bool (hasA o.code)),.v (.bool (hasB o.code)),.v (.bool (hasN o.code)),.v (.bool (leaves o.code))]]) [(4,.p (.c (.ref 6 0))),(6,.p (.c (.ref 7 0)))] (memL 0 n p M [.cells 42 (yad us),.cells 42 (yad (List.replicate 28 0))]):=fun f us Z hZ h4 h6=>by
  subst hZ;exact zj5 [0,1,2,3,4,5,7,8] (aI (h4) (aI (h6) trivial)) (aI ((Exists.intro _ (aI rfl sM))) (aI ((Exists.intro _ (aI rfl (aI rfl (Or.inl (z10 _ _).symm))))) (aI ((Exists.intro _ (aI rfl (aI rfl (Or.inl (z10 _ _).symm))))) (aI ((Exists.intro _ (aI rfl (aI rfl (Or.inl (z10 _ _).symm))))) (aI ((Exists.intro _ (aI rfl (aI rfl (Or.inl (z10 _ _).symm))))) (aI ((Exists.intro _ (aI rfl (aI rfl (Or.inl (z10 _ _).symm))))) (aI ((Exists.intro _ (aI rfl (aI rfl (Or.inl (z10 _ _).symm))))) (aI ((Exists.intro _ (aI rfl (aI rfl (Or.inl (z10 _ _).symm))))) trivial)))))))) rfl (zt0 n p M _ _ _ _) rfl rfl rfl
 refine z3k (α:={y:List Int×MemP//VarsOk y.1∧zbr o vs M=⟨y.1,true,y.2⟩}) (fun _=>[(4,.p (.c (.ref 6 0))),(6,.p (.c (.ref 7 0)))]) (fun y=>memL 0 n p y.1.2 [.cells 42 (yad y.1.1),.cells 42 (yad (List.replicate 28 0))]) ?_ fun y=>?_
 ·by_cases c1:o.code=1
  ·refine z3t ?_
   (conv=>whnf);refine ⟨fun _=>?_,fun h=>absurd h (by simp [c1])⟩;(conv=>whnf);refine ⟨⟨by omega,by omega⟩,?_⟩;(conv=>whnf);erw [z99 hvs hd];(conv=>whnf);erw [yaa hvs];(conv=>whnf);exact zb8 ⟨(vs.set o.d.toNat o.n,M),z4o hvs _ ho.n,zbt c1 vs M⟩ (hent _ _ _ (yab _ _ _) rfl rfl)
  by_cases c2:o.code=2
  ·refine z3t ?_
   (conv=>whnf);refine ⟨fun h=>absurd h (by simp [c2]),fun _=>?_⟩;(conv=>whnf);refine ⟨fun _=>?_,fun h=>absurd h (by simp [c2])⟩;(conv=>whnf);refine ⟨⟨by omega,by omega⟩,?_⟩;(conv=>whnf);erw [z99 hvs hd];(conv=>whnf);erw [yaa hvs];(conv=>whnf);exact zb8 ⟨(vs.set o.d.toNat a,M),z4o hvs _ haw,by rw [zbw c2,hae]⟩ (hent _ _ _ (yab _ _ _) rfl rfl)
  have n1:(o.code==1)=false:=by simp [c1]
  have n2:(o.code==2)=false:=by simp [c2]
  by_cases c3:o.code=16∨o.code=17
  ·have hsz:(szN o.code:Int)=z57 o.code:=by unfold szN z57;rcases c3 with h|h<;>rw [h]<;>rfl
   have hsb:1≤szN o.code∧szN o.code≤4:=by unfold szN;split<;>omega
   have hAP:zbr o vs M=(match M.bad ((a+o.n)%4294967296) 1 0 (szN o.code) with
     |none=>⟨vs.set o.d.toNat (M.load ((a+o.n)%4294967296) 0 (szN o.code)),true,M⟩
     |some _=>⟨vs,false,M⟩):=by
    rw [hae];unfold zbr;rw [if_neg c1,if_neg c2,if_pos c3]
    cases M.bad ((getV vs o.a+o.n)%4294967296) 1 0 (szN o.code)<;>rfl
   obtain ⟨x,y,k,hX,hxw,hk⟩:∃ x y k,M.loadV ((a+o.n)%4294967296) (szN o.code)=valV x y k∧word x∧zbr o vs M=(if k=true then ⟨vs.set o.d.toNat x,true,M⟩ else ⟨vs,false,M⟩):=by
    rw [hAP];unfold MemP.loadV
    cases M.bad ((a+o.n)%4294967296) 1 0 (szN o.code) with
    |none=>exact ⟨_,_,true,rfl,zti M _ _ _,rfl⟩
    |some z=>exact ⟨0,z,false,rfl,yax,rfl⟩
   refine z3o ?_;(conv=>whnf);refine z3b ?_;refine z3o ?_;(conv=>whnf);refine z3c rfl (fun h=>absurd h (by rw [n1];decide)) fun _=>?_;refine z3o ?_;(conv=>whnf);refine z3c rfl (fun h=>absurd h (by rw [n2];decide)) fun _=>?_;refine z3k (α:=Unit) (fun _=>[(2,.p (.c (.ref 0 0))),(3,.p (.c (.ref 6 0))),(4,.p (.c (.ref 7 0))),(6,.p (.c (.ref 8 0))),(7,one (.bool false)),(8,one (.int .u32 a)),(9,one (.int .u32 b)),(10,.p (.c (.ref 9 0))),(25,one (.int .i64 o.code)),(49,one (.bool true))]) (fun _=>memL 0 n p M [.cells 61 ((opC o).map .v),.cells 42 (yad vs),.cells 42 (yad (List.replicate 28 0)),.cells 195 [.v (.bool (isOp o.code)),.v (.bool (hasD o.code)),.v (.bool (hasA o.code)),.v (.bool (hasB o.code)),.v (.bool (hasN o.code)),.v (.bool (leaves o.code))]]) ?_ fun _=>?_
   ·refine z3t ?_
    (conv=>whnf);refine ⟨fun h=>?_,fun h=>?_⟩
    ·conv=>whnf
     exact zb8 () (zj7 rfl (aI rfl (aI rfl (aI rfl (aI rfl (aI rfl (aI rfl (aI rfl (aI rfl (aI rfl (aI ((congrArg (fun z=>one (.bool z)) h)) trivial)))))))))) Tn)
    ·have h17:(o.code==17)=true:=by
      rcases c3 with e|e
      ·rw [e] at h;cases h
      ·rw [e];rfl
     (conv=>whnf);exact zb8 () (zj7 rfl (aI rfl (aI rfl (aI rfl (aI rfl (aI rfl (aI rfl (aI rfl (aI rfl (aI rfl (aI ((congrArg (fun z=>one (.bool z)) h17)) trivial)))))))))) Tn)
   refine z3c rfl (fun _=>?_) (fun h=>absurd h (by decide));refine z3k (α:=Unit) (fun _=>[(2,.p (.c (.ref 0 0))),(3,.p (.c (.ref 6 0))),(4,.p (.c (.ref 7 0))),(6,.p (.c (.ref 8 0))),(7,one (.bool false)),(8,one (.int .u32 a)),(9,one (.int .u32 b)),(10,.p (.c (.ref 9 0))),(25,one (.int .i64 o.code))]) (fun _=>memL 0 n p M [.cells 61 ((opC o).map .v),.cells 42 (yad vs),.cells 42 (yad (List.replicate 28 0)),.cells 195 [.v (.bool (isOp o.code)),.v (.bool (hasD o.code)),.v (.bool (hasA o.code)),.v (.bool (hasB o.code)),.v (.bool (hasN o.code)),.v (.bool (leaves o.code))]]) ?_ fun _=>?_
   ·refine z3t ?_
    (conv=>whnf);refine z0n rfl rfl rfl rfl ?_;(conv=>whnf);refine ⟨fun h=>absurd h (by decide),fun _=>?_⟩;(conv=>whnf);exact zb8 () (zj7 rfl Tn Tn)
   refine z29 (memL 0 n p M [.cells 42 (yad vs),.cells 42 (yad (List.replicate 28 0))]) [0,1,2,3,4,5,7,8] (aI ((Exists.intro _ (aI rfl sM))) (aI ((Exists.intro _ (aI rfl (aI rfl (Or.inl (z10 _ _).symm))))) (aI ((Exists.intro _ (aI rfl (aI rfl (Or.inl (z10 _ _).symm))))) (aI ((Exists.intro _ (aI rfl (aI rfl (Or.inl (z10 _ _).symm))))) (aI ((Exists.intro _ (aI rfl (aI rfl (Or.inl (z10 _ _).symm))))) (aI ((Exists.intro _ (aI rfl (aI rfl (Or.inl (z10 _ _).symm))))) (aI ((Exists.intro _ (aI rfl (aI rfl (Or.inl (z10 _ _).symm))))) (aI ((Exists.intro _ (aI rfl (aI rfl (Or.inl (z10 _ _).symm))))) trivial)))))))) (zt0 n p M _ _ _ _) rfl rfl rfl rfl fun r w1 gs hR hgl hgs hback=>?_;obtain ⟨g6,e6,hcell⟩:=zbf (us:=opC o) hR hgl hgs rfl 6 rfl rfl
   have hmv:∀ (r2:Env),(∀ i,r2.blk i=gs[i]?)→∀ j,j<8→∀ b,r.blk ([0,1,2,3,4,5,7,8].getD j 0)=some b→r2.blk j=some b:=fun r2 hr2 j hj b hb=>by
    rw [hr2, ← hgs j hj];exact hb
   refine ⟨[(2,.p (.c (.ref 0 0))),(3,one (.pointer (some ⟨g6,0,none⟩))),(4,.p (.c (.ref 6 0))),(6,.p (.c (.ref 7 0))),(7,one (.bool false)),(8,one (.int .u32 a))],fun act r2 hr2 hfd=>znv ⟨z6n hfd 2 rfl (hmv r2 hr2 0 zO),z6p hfd 3 rfl e6,z6n hfd 4 rfl (hmv r2 hr2 6 zO),z6n hfd 6 rfl (hmv r2 hr2 7 zO),z6r hfd 7 rfl,z6r hfd 8 rfl,trivial⟩,?_⟩;obtain ⟨x0,x1,x2,x3,x4,x5,x6,x7,rfl⟩:=eight hgl;refine z3k (α:=Unit) (fun _=>[(3,one (.pointer (some ⟨g6,0,none⟩))),(4,.p (.c (.ref 6 0))),(6,.p (.c (.ref 7 0))),(7,one (.bool false)),(11,.p (.c (.ref 8 0)))]) (fun _=>memL 0 n p M [.cells 42 (yad vs),.cells 42 (yad (List.replicate 28 0)),.cells 220 [.v (.int .u32 x),.v (.int .u32 y),.v (.bool k)]]) ?_ fun _=>?_
   ·refine z3t ?_
    refine z23 (.q 0 (.q 1 (.q 2 (.q 3 (.q 4 (.q 5 (.q 6 (.alt 7 (.alt 8 (.alt 9 (.alt 10 .done .no) .no) (.alt 9 (.alt 8 (.alt 10 .done .no) .no) .no)) (.alt 9 (.alt 7 (.alt 8 (.alt 10 .done .no) .no) .no) .no))))))))) mixed zK zK ?_;(conv=>whnf);refine ⟨_,hcell 4 [.int .u32 o.n] (fun k u hu=>by cases k with|zero=>exact hu|succ k=>simp at hu),?_⟩;(conv=>whnf);refine ⟨_,wr32 _,?_⟩;(conv=>whnf);refine ⟨_,hcell 0 [.int .i64 o.code] (fun k u hu=>by cases k with|zero=>exact hu|succ k=>simp at hu),?_⟩;(conv=>whnf);refine ⟨?_,?_,trivial⟩
    ·conv=>whnf
     refine ze2 (x:= .int .i64 (szN o.code:Int)) rfl zK (fun r w' hR=>by rw [hsz];exact z58 o.code w') ?_;(conv=>whnf);refine ⟨?_,?_,trivial⟩
     ·conv=>whnf
      refine ze4 (pre:=[]) (suf:=[one (.int .u32 ((a+o.n)%4294967296)),one (.int .i64 (szN o.code:Int))]) 0 n p M (valV x y k) zt1 rfl rfl zK (fun w' g gs hk hU=>by rw [← hX];exact zuf M n p _ (szN o.code) w' g gs hU hM (ya2 _) hsb) ?_;(conv=>whnf);refine ⟨?_,trivial⟩;(conv=>whnf);refine ⟨?_,trivial⟩;(conv=>whnf);exact zb8 () (zj7 rfl Tn Tn)
     ·conv=>whnf
      refine ⟨?_,trivial⟩;(conv=>whnf);refine ze4 (pre:=[]) (suf:=[one (.int .u32 ((a+o.n)%4294967296)),one (.int .i64 (szN o.code:Int))]) 0 n p M (valV x y k) zt1 rfl rfl zK (fun w' g gs hk hU=>by rw [← hX];exact zuf M n p _ (szN o.code) w' g gs hU hM (ya2 _) hsb) ?_;(conv=>whnf);refine ⟨?_,trivial⟩;(conv=>whnf);exact zb8 () (zj7 rfl Tn Tn)
    ·conv=>whnf
     refine ⟨?_,trivial⟩;(conv=>whnf);refine ze2 (x:= .int .i64 (szN o.code:Int)) rfl zK (fun r w' hR=>by rw [hsz];exact z58 o.code w') ?_;(conv=>whnf);refine ⟨?_,trivial⟩;(conv=>whnf);refine ze4 (pre:=[]) (suf:=[one (.int .u32 ((a+o.n)%4294967296)),one (.int .i64 (szN o.code:Int))]) 0 n p M (valV x y k) zt1 rfl rfl zK (fun w' g gs hk hU=>by rw [← hX];exact zuf M n p _ (szN o.code) w' g gs hU hM (ya2 _) hsb) ?_;(conv=>whnf);refine ⟨?_,trivial⟩;(conv=>whnf);exact zb8 () (zj7 rfl Tn Tn)
   refine z3t ?_;(conv=>whnf);refine ⟨fun h=>?_,fun h=>?_⟩
   ·have hkf:k=false:=by simpa using h
    rw [hkf,if_neg (by decide)] at hk;(conv=>whnf);erw [zhx hvl];(conv=>whnf);erw [zdl hvl,zwp];(conv=>whnf);erw [zdz (hvl.trans hz.symm)];(conv=>whnf);erw [yah hvs _ hz];(conv=>whnf);refine hback _ _ _ (zch (zci (zcg ?_)));(conv=>whnf);erw [zhx hvl];(conv=>whnf);refine zmh (z9n _ _) rfl (zt2 (M:=M)) (zt6 n p M) fun w' h1 h2=>?_;unfold zaa;rw [hk];exact ⟨rfl,h1,h2⟩
   ·have hkt:k=true:=by simpa using h
    rw [hkt,if_pos rfl] at hk;(conv=>whnf);refine ⟨_,unflat <| hcell 1 [.int .i64 o.d] (fun k u hu=>by cases k with|zero=>exact hu|succ k=>simp at hu),?_⟩;(conv=>whnf);refine ⟨⟨by omega,by omega⟩,?_⟩;(conv=>whnf);erw [z99 hvs hd];(conv=>whnf);erw [yaa hvs];(conv=>whnf);refine hback _ _ _ (zb4 ?_);exact zb8 ⟨(vs.set o.d.toNat x,M),z4o hvs _ hxw,hk⟩ (zjy Tn (aI sM (aI sM (aI sM (aI sM (aI sM (aI sM (aI ((aI rfl (Or.inl (yab _ _ _)))) (aI sM trivial)))))))) rfl (zou _ _ _ _ _ _ _ _ _ _ _ _ _))
  by_cases c4:o.code=18∨o.code=19
  ·have hsz:(szN o.code:Int)=z57 o.code:=by unfold szN z57;rcases c4 with h|h<;>rw [h]<;>rfl
   have hsb:1≤szN o.code∧szN o.code≤4:=by unfold szN;split<;>omega
   have hAP:zbr o vs M=⟨vs,(M.bad ((a+o.n)%4294967296) 2 0 (szN o.code)).isNone,M.storeM ((a+o.n)%4294967296) (szN o.code) b⟩:=by
    rw [hae,hbe];unfold zbr;rw [if_neg c1,if_neg c2,if_neg c3,if_pos c4]
   obtain ⟨x,y,k,hX,hk⟩:∃ x y k,zfz (M.bad ((a+o.n)%4294967296) 2 0 (szN o.code))=valV x y k∧(M.bad ((a+o.n)%4294967296) 2 0 (szN o.code)).isNone=k:=by
    cases M.bad ((a+o.n)%4294967296) 2 0 (szN o.code) with
    |none=>exact ⟨0,0,true,rfl,rfl⟩
    |some z=>exact ⟨0,z,false,rfl,rfl⟩
   rw [hk] at hAP
   obtain ⟨M2,hM2⟩:∃ M2,M2=M.storeM ((a+o.n)%4294967296) (szN o.code) b:=⟨_,rfl⟩
   rw [← hM2] at hAP;refine z3o ?_;(conv=>whnf);refine z3b ?_;refine z3o ?_;(conv=>whnf);refine z3c rfl (fun h=>absurd h (by rw [n1];decide)) fun _=>?_;refine z3o ?_;(conv=>whnf);refine z3c rfl (fun h=>absurd h (by rw [n2];decide)) fun _=>?_;refine z3k (α:=Unit) (fun _=>[(2,.p (.c (.ref 0 0))),(3,.p (.c (.ref 6 0))),(4,.p (.c (.ref 7 0))),(6,.p (.c (.ref 8 0))),(7,one (.bool false)),(8,one (.int .u32 a)),(9,one (.int .u32 b)),(10,.p (.c (.ref 9 0))),(25,one (.int .i64 o.code)),(49,one (.bool false))]) (fun _=>memL 0 n p M [.cells 61 ((opC o).map .v),.cells 42 (yad vs),.cells 42 (yad (List.replicate 28 0)),.cells 195 [.v (.bool (isOp o.code)),.v (.bool (hasD o.code)),.v (.bool (hasA o.code)),.v (.bool (hasB o.code)),.v (.bool (hasN o.code)),.v (.bool (leaves o.code))]]) ?_ fun _=>?_
   ·refine z3t ?_
    (conv=>whnf);refine ⟨fun h=>absurd h zV,fun _=>?_⟩;have h17:(o.code==17)=false:=(by simp;omega);(conv=>whnf);exact zb8 () (zj7 rfl (aI rfl (aI rfl (aI rfl (aI rfl (aI rfl (aI rfl (aI rfl (aI rfl (aI rfl (aI ((congrArg (fun z=>one (.bool z)) h17)) trivial)))))))))) Tn)
   refine z3c rfl (fun h=>absurd h (by decide)) (fun _=>?_);refine z3k (α:=Unit) (fun _=>[(2,.p (.c (.ref 0 0))),(3,.p (.c (.ref 6 0))),(4,.p (.c (.ref 7 0))),(6,.p (.c (.ref 8 0))),(7,one (.bool false)),(8,one (.int .u32 a)),(9,one (.int .u32 b)),(10,.p (.c (.ref 9 0))),(25,one (.int .i64 o.code)),(73,one (.bool true))]) (fun _=>memL 0 n p M [.cells 61 ((opC o).map .v),.cells 42 (yad vs),.cells 42 (yad (List.replicate 28 0)),.cells 195 [.v (.bool (isOp o.code)),.v (.bool (hasD o.code)),.v (.bool (hasA o.code)),.v (.bool (hasB o.code)),.v (.bool (hasN o.code)),.v (.bool (leaves o.code))]]) ?_ fun _=>?_
   ·refine z3t ?_
    (conv=>whnf);refine ⟨fun h=>?_,fun h=>?_⟩
    ·conv=>whnf
     exact zb8 () (zj7 rfl (aI rfl (aI rfl (aI rfl (aI rfl (aI rfl (aI rfl (aI rfl (aI rfl (aI rfl (aI ((congrArg (fun z=>one (.bool z)) h)) trivial)))))))))) Tn)
    ·have h17:(o.code==19)=true:=by
      rcases c4 with e|e
      ·rw [e] at h;cases h
      ·rw [e];rfl
     (conv=>whnf);exact zb8 () (zj7 rfl (aI rfl (aI rfl (aI rfl (aI rfl (aI rfl (aI rfl (aI rfl (aI rfl (aI rfl (aI ((congrArg (fun z=>one (.bool z)) h17)) trivial)))))))))) Tn)
   refine z3c rfl (fun _=>?_) (fun h=>absurd h (by decide));refine z3k (α:=Unit) (fun _=>[(2,.p (.c (.ref 0 0))),(3,.p (.c (.ref 6 0))),(4,.p (.c (.ref 7 0))),(6,.p (.c (.ref 8 0))),(7,one (.bool false)),(8,one (.int .u32 a)),(9,one (.int .u32 b)),(10,.p (.c (.ref 9 0))),(25,one (.int .i64 o.code))]) (fun _=>memL 0 n p M [.cells 61 ((opC o).map .v),.cells 42 (yad vs),.cells 42 (yad (List.replicate 28 0)),.cells 195 [.v (.bool (isOp o.code)),.v (.bool (hasD o.code)),.v (.bool (hasA o.code)),.v (.bool (hasB o.code)),.v (.bool (hasN o.code)),.v (.bool (leaves o.code))]]) ?_ fun _=>?_
   ·refine z3t ?_
    (conv=>whnf);refine z0n rfl rfl rfl rfl ?_;(conv=>whnf);refine ⟨fun h=>absurd h (by decide),fun _=>?_⟩;(conv=>whnf);exact zb8 () (zj7 rfl Tn Tn)
   refine z29 (memL 0 n p M [.cells 42 (yad vs),.cells 42 (yad (List.replicate 28 0))]) [0,1,2,3,4,5,7,8] (aI ((Exists.intro _ (aI rfl sM))) (aI ((Exists.intro _ (aI rfl (aI rfl (Or.inl (z10 _ _).symm))))) (aI ((Exists.intro _ (aI rfl (aI rfl (Or.inl (z10 _ _).symm))))) (aI ((Exists.intro _ (aI rfl (aI rfl (Or.inl (z10 _ _).symm))))) (aI ((Exists.intro _ (aI rfl (aI rfl (Or.inl (z10 _ _).symm))))) (aI ((Exists.intro _ (aI rfl (aI rfl (Or.inl (z10 _ _).symm))))) (aI ((Exists.intro _ (aI rfl (aI rfl (Or.inl (z10 _ _).symm))))) (aI ((Exists.intro _ (aI rfl (aI rfl (Or.inl (z10 _ _).symm))))) trivial)))))))) (zt0 n p M _ _ _ _) rfl rfl rfl rfl fun r w1 gs hR hgl hgs hback=>?_;obtain ⟨g6,e6,hcell⟩:=zbf (us:=opC o) hR hgl hgs rfl 6 rfl rfl
   have hmv:∀ (r2:Env),(∀ i,r2.blk i=gs[i]?)→∀ j,j<8→∀ b,r.blk ([0,1,2,3,4,5,7,8].getD j 0)=some b→r2.blk j=some b:=fun r2 hr2 j hj b hb=>by
    rw [hr2, ← hgs j hj];exact hb
   refine ⟨[(2,.p (.c (.ref 0 0))),(3,one (.pointer (some ⟨g6,0,none⟩))),(4,.p (.c (.ref 6 0))),(6,.p (.c (.ref 7 0))),(7,one (.bool false)),(8,one (.int .u32 a)),(9,one (.int .u32 b))],fun act r2 hr2 hfd=>znv ⟨z6n hfd 2 rfl (hmv r2 hr2 0 zO),z6p hfd 3 rfl e6,z6n hfd 4 rfl (hmv r2 hr2 6 zO),z6n hfd 6 rfl (hmv r2 hr2 7 zO),z6r hfd 7 rfl,z6r hfd 8 rfl,z6r hfd 9 rfl,trivial⟩,?_⟩;obtain ⟨x0,x1,x2,x3,x4,x5,x6,x7,rfl⟩:=eight hgl;refine z3k (α:=Unit) (fun _=>[(3,one (.pointer (some ⟨g6,0,none⟩))),(4,.p (.c (.ref 6 0))),(6,.p (.c (.ref 7 0))),(7,one (.bool false)),(12,.p (.c (.ref 8 0)))]) (fun _=>memL 0 n p M2 [.cells 42 (yad vs),.cells 42 (yad (List.replicate 28 0)),.cells 220 [.v (.int .u32 x),.v (.int .u32 y),.v (.bool k)]]) ?_ fun _=>?_
   ·refine z3t ?_
    refine z23 (.q 0 (.q 1 (.q 2 (.q 3 (.q 4 (.q 5 (.q 6 (.q 8 (.alt 7 (.alt 9 (.alt 10 (.alt 11 .done .no) .no) (.alt 10 (.alt 9 (.alt 11 .done .no) .no) .no)) (.alt 10 (.alt 7 (.alt 9 (.alt 11 .done .no) .no) .no) .no)))))))))) mixed zK zK ?_;(conv=>whnf);refine ⟨_,hcell 4 [.int .u32 o.n] (fun k u hu=>by cases k with|zero=>exact hu|succ k=>simp at hu),?_⟩;(conv=>whnf);refine ⟨_,wr32 _,?_⟩;(conv=>whnf);refine ⟨_,hcell 0 [.int .i64 o.code] (fun k u hu=>by cases k with|zero=>exact hu|succ k=>simp at hu),?_⟩;(conv=>whnf);refine ⟨?_,?_,trivial⟩
    ·conv=>whnf
     refine ze2 (x:= .int .i64 (szN o.code:Int)) rfl zK (fun r w' hR=>by rw [hsz];exact z58 o.code w') ?_;(conv=>whnf);refine ⟨?_,?_,trivial⟩
     ·conv=>whnf
      refine ze5 (pre:=[]) (suf:=[one (.int .u32 ((a+o.n)%4294967296)),one (.int .i64 (szN o.code:Int)),one (.int .u32 b)]) 0 n p M M2 (valV x y k) zt1 rfl rfl zK (fun w' g gs hk hU=>by rw [← hX,hM2];exact zuo M n p _ (szN o.code) b w' g gs hU hM (ya2 _) hsb hbw) ?_;(conv=>whnf);refine ⟨?_,trivial⟩;(conv=>whnf);refine ⟨?_,trivial⟩;(conv=>whnf);exact zb8 () (zj7 rfl Tn Tn)
     ·conv=>whnf
      refine ⟨?_,trivial⟩;(conv=>whnf);refine ze5 (pre:=[]) (suf:=[one (.int .u32 ((a+o.n)%4294967296)),one (.int .i64 (szN o.code:Int)),one (.int .u32 b)]) 0 n p M M2 (valV x y k) zt1 rfl rfl zK (fun w' g gs hk hU=>by rw [← hX,hM2];exact zuo M n p _ (szN o.code) b w' g gs hU hM (ya2 _) hsb hbw) ?_;(conv=>whnf);refine ⟨?_,trivial⟩;(conv=>whnf);exact zb8 () (zj7 rfl Tn Tn)
    ·conv=>whnf
     refine ⟨?_,trivial⟩;(conv=>whnf);refine ze2 (x:= .int .i64 (szN o.code:Int)) rfl zK (fun r w' hR=>by rw [hsz];exact z58 o.code w') ?_;(conv=>whnf);refine ⟨?_,trivial⟩;(conv=>whnf);refine ze5 (pre:=[]) (suf:=[one (.int .u32 ((a+o.n)%4294967296)),one (.int .i64 (szN o.code:Int)),one (.int .u32 b)]) 0 n p M M2 (valV x y k) zt1 rfl rfl zK (fun w' g gs hk hU=>by rw [← hX,hM2];exact zuo M n p _ (szN o.code) b w' g gs hU hM (ya2 _) hsb hbw) ?_;(conv=>whnf);refine ⟨?_,trivial⟩;(conv=>whnf);exact zb8 () (zj7 rfl Tn Tn)
   refine z3k (α:=Unit) (fun _=>[(4,.p (.c (.ref 6 0))),(6,.p (.c (.ref 7 0))),(7,one (.bool k))]) (fun _=>memL 0 n p M2 [.cells 42 (yad vs),.cells 42 (yad vs),.cells 220 [.v (.int .u32 x),.v (.int .u32 y),.v (.bool k)]]) ?_ fun _=>?_
   ·refine z3t ?_
    refine z23 (.q 1 (.alt 0 (.alt 2 (.alt 3 (.q 4 .done) .no) (.alt 3 (.alt 2 (.q 4 .done) .no) .no)) (.alt 2 (.alt 0 (.alt 3 (.q 4 .done) .no) .no) .no))) mixed zK zK ?_;(conv=>whnf);refine ⟨?_,?_,trivial⟩
    ·conv=>whnf
     erw [zhx hvl];(conv=>whnf);refine ⟨?_,?_,trivial⟩
     ·conv=>whnf
      refine ⟨?_,trivial⟩;(conv=>whnf);erw [zdl hvl,zwp];(conv=>whnf);erw [zdz (hvl.trans hz.symm)];(conv=>whnf);erw [yah hvs _ hz];(conv=>whnf);exact zb8 () (zj7 rfl Tn Tn)
     ·conv=>whnf
      erw [zdl hvl,zwp];(conv=>whnf);erw [zdz (hvl.trans hz.symm)];(conv=>whnf);erw [yah hvs _ hz];(conv=>whnf);refine ⟨?_,trivial⟩;(conv=>whnf);exact zb8 () (zj7 rfl Tn Tn)
    ·conv=>whnf
     refine ⟨?_,trivial⟩;(conv=>whnf);erw [zhx hvl];(conv=>whnf);refine ⟨?_,trivial⟩;(conv=>whnf);erw [zdl hvl,zwp];(conv=>whnf);erw [zdz (hvl.trans hz.symm)];(conv=>whnf);erw [yah hvs _ hz];(conv=>whnf);exact zb8 () (zj7 rfl Tn Tn)
   refine z3t ?_;(conv=>whnf);refine hback _ _ _ (zch (zci (zcg ?_)));(conv=>whnf);erw [zhx hvl];(conv=>whnf);refine zmh (z9n _ _) rfl (zt2 (M:=M2)) (zt6 n p M2) fun w' h1 h2=>?_;unfold zaa;rw [hAP];exact ⟨rfl,h1,h2⟩
  have m3:(o.code==16)=false:=(by simp;omega);have m4:(o.code==17)=false:=(by simp;omega);have m5:(o.code==18)=false:=(by simp;omega);have m6:(o.code==19)=false:=(by simp;omega);refine z3t ?_;(conv=>whnf);refine ⟨fun h=>absurd h (by rw [n1];decide),fun _=>?_⟩;(conv=>whnf);refine ⟨fun h=>absurd h (by rw [n2];decide),fun _=>?_⟩;(conv=>whnf);refine ⟨fun h=>absurd h (by rw [m3];decide),fun _=>?_⟩;(conv=>whnf);refine ⟨fun h=>absurd h (by rw [m4];decide),fun _=>?_⟩;(conv=>whnf);refine ⟨fun h=>absurd h (by rw [m5];decide),fun _=>?_⟩;(conv=>whnf);refine ⟨fun h=>absurd h (by rw [m6];decide),fun _=>?_⟩;(conv=>whnf);refine ⟨fun h=>?_,fun h=>?_⟩
  ·have c5:o.code=21:=by simpa using h
   (conv=>whnf);erw [zhx hvl];(conv=>whnf);erw [zdl hvl,zwp];(conv=>whnf);erw [zdz (hvl.trans hz.symm)];(conv=>whnf);erw [yah hvs _ hz];(conv=>whnf);refine zci (zcg ?_);(conv=>whnf);erw [zhx hvl];(conv=>whnf);refine zmh (z9n _ _) rfl (zt2 (M:=M)) (zt6 n p M) fun w' h1 h2=>?_;unfold zaa;rw [zbu c5, ← hae];exact ⟨rfl,h1,h2⟩
  have c5:o.code≠21:=by simpa using h
  conv=>whnf
  refine ⟨fun h=>?_,fun h=>?_⟩
  ·have c6:o.code=22:=by simpa using h
   have hAP:zbr o vs M=⟨vs,false,M⟩:=by
    unfold zbr;rw [if_neg c1,if_neg c2,if_neg c3,if_neg c4,if_neg c5,if_pos c6]
   (conv=>whnf);erw [zhx hvl];(conv=>whnf);erw [zdl hvl,zwp];(conv=>whnf);erw [zdz (hvl.trans hz.symm)];(conv=>whnf);erw [yah hvs _ hz];(conv=>whnf);refine zci (zcg ?_);(conv=>whnf);erw [zhx hvl];(conv=>whnf);refine zmh (z9n _ _) rfl (zt2 (M:=M)) (zt6 n p M) fun w' h1 h2=>?_;unfold zaa;rw [hAP];exact ⟨rfl,h1,h2⟩
  have c6:o.code≠22:=by simpa using h
  conv=>whnf
  have h17:hasD o.code=true→zq9 o.code=true:=fun h=>by
   unfold hasD at h;unfold zq9;rw [decide_eq_true_eq] at h⊢;omega
  refine ⟨fun h=>?_,fun h=>?_⟩
  ·have c7:=h17 h
   (conv=>whnf);refine z27 8 mixed zK ?_;(conv=>whnf);refine z0o (xs:=[.int .i64 o.code,.int .u32 a,.int .u32 b]) (x:= .int .u32 (yay o.code a b)) rfl zK (fun r w' hR=>zw7 o.code a b w' haw hbw) ?_;(conv=>whnf);refine ⟨⟨by omega,by omega⟩,?_⟩;(conv=>whnf);erw [z99 hvs hd];(conv=>whnf);erw [yaa hvs];(conv=>whnf);exact zb8 ⟨(vs.set o.d.toNat (yay o.code a b),M),z4o hvs _ (yaz haw hbw),by rw [zbs c7,hae,hbe]⟩ (hent _ _ _ (yab _ _ _) rfl rfl)
  ·have c7:¬zq9 o.code=true:=fun hb=>by
    have h':3≤o.code∧o.code≤15:=(by unfold zq9 at hb;simpa using hb);have:hasD o.code=true:=(by unfold hasD;rw [decide_eq_true_eq];omega);rw [this] at h;cases h
   (conv=>whnf);exact zb8 ⟨(vs,M),hvs,by unfold zbr;rw [if_neg c1,if_neg c2,if_neg c3,if_neg c4,if_neg c5,if_neg c6,if_neg c7]⟩ (hent _ _ _ rfl rfl rfl)
 ·obtain ⟨⟨vs',M'⟩,hvs',hA⟩:=y
  dsimp only at hvs' hA⊢;refine z3t ?_;(conv=>whnf);erw [zhx (yae hvs')];(conv=>whnf);erw [zdl (yae hvs'),zwp];(conv=>whnf);erw [zdz ((yae hvs').trans hz.symm)];(conv=>whnf);erw [yah hvs' _ hz];(conv=>whnf);refine zcg ?_;(conv=>whnf);erw [zhx (yae hvs')];(conv=>whnf);refine zmh (z9n _ _) rfl (zt2 (M:=M')) (zt6 n p M') fun w' h1 h2=>?_;unfold zaa;rw [hA];exact ⟨rfl,h1,h2⟩
def zso (f:QForm):Int:=if f.bits=0 then 0 else if f.signed=true then 1 else 2
abbrev shL (f:QForm):List Value:=[.bool f.is,.bool f.d,.bool f.a,.bool f.b,intV (zso f),intV f.bits,.int .u32 f.most]
abbrev shV (f:QForm):Value:= .agg #[.bool f.is,.bool f.d,.bool f.a,.bool f.b,intV (zso f),intV f.bits,.int .u32 f.most]
def z4i (us:List Value) (o:Int) (s:List Value):List Value:=z38 us (o.toNat*7) s
def z4k (us:List Value) (ops:List Int) (s:List Value):List Value:=ops.foldl (fun u o=>z4i u o s) us
theorem z4j (us:List Value) (o:Int) (s:List Value):(z4i us o s).length=us.length:=z4a _ _ _
theorem z4l (s:List Value):∀ (ops:List Int) (us:List Value),(z4k us ops s).length=us.length
 |[],us=>rfl
 |o::ops,us=>by
  show (z4k (z4i us o s) ops s).length=_;rw [z4l s ops,z4j]
theorem z4d:∀ (vs us:List Value) (off:Nat),z38 (us.map CV.v) off (vs.map CV.v)=(z38 us off vs).map CV.v
 |[],us,off=>rfl
 |v::vs,us,off=>by
  show z38 ((us.map CV.v).set off (.v v)) (off+1) (vs.map CV.v)=(z38 (us.set off v) (off+1) vs).map CV.v;rw [← z4d vs,List.map_set]
theorem z8q {α:Type} {l:List α} {k:Nat} {x:α} (h:l[k]?=some x):l.take (k+1)=l.take k++[x]:=by
 rw [List.take_add_one,h];rfl
theorem z4m (us:List Value) (l:List Int) (o:Int) (s:List Value):z4k us (l++[o]) s=z4i (z4k us l s) o s:=by
 unfold z4k;rw [List.foldl_append];rfl
abbrev sh6 (d a b:Bool) (k bits m:Int):Value:= .agg #[.bool false,.bool d,.bool a,.bool b,intV k,intV bits,.int .u32 m]
abbrev sh7 (d a b:Bool) (k bits m:Int):List Value:=[.bool true,.bool d,.bool a,.bool b,intV k,intV bits,.int .u32 m]
theorem z4q (d a b:Bool) (k bits m:Int) (ops:List Int) (us:List Value) (q n:Nat) (w:World) (g:Nat) (hg:w.heap[g]?=some (.cells us.toArray 256 (0,0))) (hus:us.length=448) (hn:ops.length=n)
  (hq:∀ (j:Nat) (o:Int),ops[j]?=some o→zac w ⟨[g],[]⟩ q (0+(j:Int).toNat*1) [intV o]) (hr:∀ o∈ops,0≤o∧o<64) (hn1:n≤64):
  Calls Tryz.prog 209 #[sh6 d a b k bits m,.slice (some ⟨q,0,none⟩) n n,.pointer (some ⟨g,0,none⟩)] w fun e w'=>e= .returned (.tuple #[])∧w'.heap[g]?=some (.cells (z4k us ops (sh7 d a b k bits m)).toArray 256 (0,0))∧w.grownBy w' (some g):=by
 refine zfk (args:=[sh6 d a b k bits m,.slice (some ⟨q,0,none⟩) n n,.pointer (some ⟨g,0,none⟩)]) (avs:=[.p (.agg [.v (.bool false),.v (.bool d),.v (.bool a),.v (.bool b),.v (intV k),.v (intV bits),.v (.int .u32 m)]),one (.slice (some ⟨q,0,none⟩) n n),.p (.c (.ref 0 0))]) Tryz.func209 Tryz.ntmps209 rfl (z1y w hg) ⟨_,_,rfl,⟨_,rfl,zir [.bool false,.bool d,.bool a,.bool b,intV k,intV bits,.int .u32 m]⟩,_,_,rfl,ziz _ _,_,_,rfl,⟨g,rfl,rfl⟩,rfl⟩ zS ?_
 conv=>whnf
 refine ⟨{j:Nat//j≤n},fun x=>[(2,.p (.c (.ref 0 0))),(3,.p (.c (.ref 1 0))),(8,one (.slice (some ⟨q,0,none⟩) n n)),(9,one (intV (n:Int))),(10,one (intV (x.1:Int)))],fun x=>[.cells 256 ((z4k us (ops.take x.1) (sh7 d a b k bits m)).map .v),.cells 228 ((sh7 d a b k bits m).map .v)],fun x=>n-x.1,
  ⟨⟨0,by omega⟩,zj7 rfl Tn Tn⟩,fun x=>?_⟩
 obtain ⟨j,hj⟩:=x
 dsimp only
 have hlen:(z4k us (ops.take j) (sh7 d a b k bits m)).length=448:=by rw [z4l,hus]
 conv=>whnf
 refine ⟨fun hc=>?_,fun hc=>?_⟩
 ·have hlt:j<n:=by simp at hc;omega
  obtain ⟨o,ho⟩:∃ o,ops[j]?=some o:=⟨ops[j]'zO,List.getElem?_eq_getElem zO⟩
  have hor:=hr o (List.mem_of_getElem? ho)
  conv=>whnf
  (refine ⟨⟨by omega,by omega⟩,?_⟩;(conv=>whnf))
  refine ⟨_,hq j o ho,?_⟩
  conv=>whnf
  (refine ⟨⟨by omega,by omega⟩,?_⟩;(conv=>whnf))
  generalize hv:z4k us (ops.take j) (sh7 d a b k bits m)=vs at hlen⊢;have hl2:(vs.map CV.v).length=448:=(by rw [List.length_map,hlen]);rw [show Nat.ble (0+o.toNat*tsz Tryz.prog 228+([CV.v (Value.bool true),CV.v (Value.bool d),CV.v (Value.bool a),CV.v (Value.bool b),CV.v (intV k),CV.v (intV bits),CV.v (Value.int IntKind.u32 m)]).length) (vs.map CV.v).length=true from Nat.ble_eq_true_of_le (by rw [hl2];show 0+o.toNat*7+7≤448;omega)];(conv=>whnf);rw [show Nat.ble (vs.map CV.v).length 8=false from by rw [hl2];rfl];(conv=>whnf);refine ⟨_,wr64 zO,?_⟩;(conv=>whnf)
  have e:z38 (vs.map CV.v) (0+o.toNat*tsz Tryz.prog 228) [CV.v (Value.bool true),CV.v (Value.bool d),CV.v (Value.bool a),CV.v (Value.bool b),CV.v (intV k),CV.v (intV bits),CV.v (Value.int IntKind.u32 m)]=(z4k us (ops.take (j+1)) (sh7 d a b k bits m)).map CV.v:=by
   rw [z8q ho,z4m,hv];show z38 (vs.map CV.v) _ ((sh7 d a b k bits m).map CV.v)=_;rw [z4d];show (z38 vs (0+o.toNat*7) _).map _=(z38 vs (o.toNat*7) _).map _;rw [Nat.zero_add]
  exact ⟨⟨j+1,by omega⟩,zj7 rfl Tn (aI ((aI rfl (Or.inl e))) (aI sM trivial)),by show n-(j+1)<n-j;omega⟩
 ·have hje:j=n:=by simp at hc;omega
  subst hje;(conv=>whnf);refine ⟨_,_,zj3,?_⟩;(conv=>whnf)
  refine zmi rfl rfl fun w' h1 h2=>⟨rfl,?_,h2⟩
  rw [h1,List.take_of_length_le zO]
theorem ze1 {P:Program} {w0:World} {G:Gs} {fid:FuncId} {S:List Ow} {K:AV→List Ow→Prop} {t e:TypeId} {us us' xs:List Value} {pre:List AV} {ps:List Value} (i j n:Nat) (hi:S[i]?=some (.cells t (us.map .v))) (hj:S[j]?=some (.cells e (xs.map .v))) (hne:j≠i) (hx:avals pre=some ps) (hok:fnOk P fid=true)
  (h:∀ w g q,w.heap[g]?=some (.cells us.toArray t (0,0))→zac w ⟨[g],[]⟩ q 0 xs→Calls P fid (ps++[Value.slice (some ⟨q,0,none⟩) n n,Value.pointer (some ⟨g,0,none⟩)]).toArray w fun e w'=>e= .returned (.tuple #[])∧w'.heap[g]?=some (.cells us'.toArray t (0,0))∧w.grownBy w' (some g))
  (hK:K (.tup []) (S.set i (.cells t (us'.map .v)))):CallS P w0 G fid (pre++[.p (.c (.sl j 0 n n)),.p (.c (.ref i 0))]) S K:=by
 refine ⟨hok,fun r w vs hR hd=>?_⟩;obtain ⟨us1,us2,rfl,d1,d2⟩:=zc7 hd;obtain rfl:=zcs hx d1;obtain ⟨u1,l1,rfl,d3,d4⟩:=d2;obtain ⟨u2,l2,rfl,d5,d6⟩:=d4;obtain rfl:l2=[]:=d6;obtain ⟨q,hq,rfl⟩:=zi1 d3;obtain ⟨g,hb,rfl⟩:=zi0 d5;obtain ⟨b',us3,e1,e2,e3⟩:=hR.own i _ hi;rw [hb] at e1;injection e1 with e1;subst e1;obtain rfl:=zis e3;obtain ⟨b'',us4,f1,f2,f3⟩:=hR.own j _ hj;rw [hq] at f1;injection f1 with f1;subst f1;obtain rfl:=zis f3;have hqg:q≠g:=fun e=>hne (hR.inj j i q hq (by rw [e];exact hb))
 have hqc:zac w ⟨[g],[]⟩ q 0 us4:=by
  refine ⟨(hR.new j q hq).1,?_,fun k u hk=>?_⟩
  ·rintro (h1|h1)
   ·simp at h1;exact hqg h1
   ·cases h1
  ·simp [World.cell?,f2,hk]
 refine (h w g q e2 hqc).mono fun e w' ⟨he,hg,hgr⟩=>?_;exact ⟨.tup [],.tuple #[],_,r,he,⟨[],rfl,rfl⟩,hR.setBlock (o:= .cells t (us'.map .v)) hb hgr ⟨g,us',hb,hg,zir us'⟩ (hR.lt_of_blk hb),Env.le.refl r,hK⟩
structure LiftAt (w:World) (g:Nat) (vA vP vO:Value) (l:List BOp):Prop where
 blk:w.heap[g]?=some (.cells #[vA,vP,vO] 185 (0,0))
 row:w.ownsRow 0 61 5 vO l.length (l.flatMap opC)
 far:vO.ownBlock≠some g
structure LiftTo (w w':World) (g:Nat) (vA vP vO:Value) (l':List BOp):Prop where
 out:∃ vO',LiftAt w' g vA vP vO' l'∧∀ b,vO'.ownBlock=some b→vO.ownBlock=some b∨w.heap.size≤b
 os:w'.os=w.os
 tape:w'.tape=w.tape
 output:w'.output=w.output
 size:w.heap.size≤w'.heap.size
 block:∀ b,b<w.heap.size→b≠g→vO.ownBlock≠some b→w'.heap[b]?=w.heap[b]?
section
variable {w:World} {g:Nat} {vA vP vO:Value} {l:List BOp}
end
end Go.Proofs.YtocafomnnkmjfaaGreat
