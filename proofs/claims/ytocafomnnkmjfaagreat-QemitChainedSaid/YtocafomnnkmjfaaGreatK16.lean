import Derived.Test.YtocafomnnkmjfaaGreatK15
set_option maxRecDepth 100000
set_option maxHeartbeats 1000000
namespace Go.Proofs.YtocafomnnkmjfaaGreat
open Go.RowKit
theorem zo0 (g g1 g2 g3 g4 g5 n p:Nat) (M:MemP) (t1 t2:TypeId) (us1 us2:List Value):zoz ⟨[g,g1,g2,g3,g4,g5],[]⟩ (memL 0 n p M [.cells t1 (us1.map .v),.cells t2 (us2.map .v)])=true:=
 zo3 g g1 g2 g3 g4 g5 n p M _ (by simp only [sbnd,Ow.bnd,zd6])
theorem zt6 (n p:Nat) (M:MemP) (t1 t2:TypeId) (us1 us2:List Value):sbnd 8 (memL 0 n p M [.cells t1 (us1.map .v),.cells t2 (us2.map .v)])=true:=by
 simp only [sbnd,Ow.bnd,zd6,bndL,CV.bnd]
 rfl
theorem eight {gs:List Nat} (h:gs.length=8):∃ x0 x1 x2 x3 x4 x5 x6 x7,gs=[x0,x1,x2,x3,x4,x5,x6,x7]:=by
 match gs,h with
 |[x0,x1,x2,x3,x4,x5,x6,x7],_=>exact ⟨x0,x1,x2,x3,x4,x5,x6,x7,rfl⟩
def zaa (o:BOp) (vs:List Int) (n p:Nat) (M:MemP) (g:Nat) (gs:List Nat) (w:World):Ending→World→Prop:=fun e w'=>e= .returned (.tuple #[z97 (zbr o vs M).vs,.bool (zbr o vs M).stays])∧ObjsAt w' (g::gs) (memS 0 n p (zbr o vs M).mem)∧GrownBys w w' (g::gs)
theorem zb0 (o:BOp) (vs:List Int) (n p:Nat) (M:MemP) (w:World) (g:Nat) (gs:List Nat) (hU:ObjsAt w (g::gs) (memS 0 n p M)) (hM:M.ok n p) (hf:znt o=true) (ho:o.ok) (hvs:VarsOk vs):
  Calls Tryz.prog 84 #[opV o,z97 vs,.pointer (some ⟨g,0,none⟩)] w (zaa o vs n p M g gs w):=by
 obtain ⟨g0,g1,g2,g3,g4,g5,hg⟩:=z5w hU;injection hg with hg0 hgs;subst hgs;subst hg0;have ha:=znu hf;have hb:=znv hf;have hd:=znx hf;have hvl:=z96 hvs;have hz:=ybr;refine zff [AV.of (opV o),AV.of (z97 vs),.p (.c (.ref 0 0))] [opV o,z97 vs,.pointer (some ⟨g,0,none⟩)] Tryz.func84 Tryz.ntmps84 rfl zS hU ⟨_,_,rfl,AV.of_den _ _,_,_,rfl,AV.of_den _ _,_,_,rfl,zi1 rfl,rfl⟩ ?_;refine z3g ?_;(conv=>whnf);refine z3g ?_;(conv=>whnf);refine ⟨⟨by omega,by omega⟩,?_⟩;(conv=>whnf);erw [z90 hvs ha];(conv=>whnf);refine z3g ?_;(conv=>whnf);refine ⟨⟨by omega,by omega⟩,?_⟩;(conv=>whnf);erw [z90 hvs hb];(conv=>whnf);refine z3g ?_;(conv=>whnf);refine ze2 (x:= .agg #[.bool (isOp o.code),.bool (hasD o.code),.bool (hasA o.code),.bool (hasB o.code),.bool (hasN o.code),.bool (leaves o.code)]) rfl zK (fun r w' hR=>z4w o.code w') ?_;(conv=>whnf)
 obtain ⟨a,hae⟩:∃ a,a=getV vs o.a:=⟨_,rfl⟩
 obtain ⟨b,hbe⟩:∃ b,b=getV vs o.b:=⟨_,rfl⟩
 have haw:word a:=by rw [hae];exact zop hvs _
 have hbw:word b:=by rw [hbe];exact zop hvs _
 rw [← hae, ← hbe]
 refine z2z (f':=[(2,.p (.c (.ref 0 0))),(3,.p (.c (.ref 6 0))),(4,.p (.c (.ref 7 0))),(6,.p (.c (.ref 8 0))),(7,one (.bool false)),(8,one (.int .u32 a)),(9,one (.int .u32 b)),(10,.p (.c (.ref 9 0)))])
  (S':=memL 0 n p M [.cells 61 ((opC o).map .v),.cells 42 (z95 vs),.cells 42 (z95 (List.replicate 28 0)),.cells 195 [.v (.bool (isOp o.code)),.v (.bool (hasD o.code)),.v (.bool (hasA o.code)),.v (.bool (hasB o.code)),.v (.bool (hasN o.code)),.v (.bool (leaves o.code))]])
  (zkb rfl Tn Tn) ?_
 have hent:∀ (f:Fr) (us:List Int) (Z:List CV),Z=z95 us→f.get 4= .p (.c (.ref 7 0))→f.get 6= .p (.c (.ref 8 0))→Ent w ⟨[g,g1,g2,g3,g4,g5],[]⟩ ⟨101,[]⟩ f (memL 0 n p M [.cells 61 ((opC o).map .v),.cells 42 Z,.cells 42 (z95 (List.replicate 28 0)),.cells 195 [.v (.bool (isOp o.code)),.v (.bool (hasD o.code)),.v (.bool (hasA o.code)),.v (.bool (hasB o.code)),.v (.bool (hasN o.code)),.v (.bool (leaves o.code))]]) [(4,.p (.c (.ref 6 0))),(6,.p (.c (.ref 7 0)))] (memL 0 n p M [.cells 42 (z95 us),.cells 42 (z95 (List.replicate 28 0))]):=fun f us Z hZ h4 h6=>by
  subst hZ;exact zj9 [0,1,2,3,4,5,7,8] (aI (h4) (aI (h6) trivial)) (aI ((Exists.intro _ (aI rfl sM))) (aI ((Exists.intro _ (aI rfl (aI rfl (Or.inl (z1s _ _).symm))))) (aI ((Exists.intro _ (aI rfl (aI rfl (Or.inl (z1s _ _).symm))))) (aI ((Exists.intro _ (aI rfl (aI rfl (Or.inl (z1s _ _).symm))))) (aI ((Exists.intro _ (aI rfl (aI rfl (Or.inl (z1s _ _).symm))))) (aI ((Exists.intro _ (aI rfl (aI rfl (Or.inl (z1s _ _).symm))))) (aI ((Exists.intro _ (aI rfl (aI rfl (Or.inl (z1s _ _).symm))))) (aI ((Exists.intro _ (aI rfl (aI rfl (Or.inl (z1s _ _).symm))))) trivial)))))))) rfl (zt6 n p M _ _ _ _) rfl rfl rfl
 refine z3c (α:={y:List Int×MemP//VarsOk y.1∧zbr o vs M=⟨y.1,true,y.2⟩}) (fun _=>[(4,.p (.c (.ref 6 0))),(6,.p (.c (.ref 7 0)))]) (fun y=>memL 0 n p y.1.2 [.cells 42 (z95 y.1.1),.cells 42 (z95 (List.replicate 28 0))]) ?_ fun y=>?_
 ·by_cases c1:o.code=1
  ·refine z3l ?_
   (conv=>whnf);refine ⟨fun _=>?_,fun h=>absurd h (by simp [c1])⟩;(conv=>whnf);refine ⟨⟨by omega,by omega⟩,?_⟩;(conv=>whnf);erw [z91 hvs hd];(conv=>whnf);erw [z92 hvs];(conv=>whnf);exact zb8 ⟨(vs.set o.d.toNat o.n,M),z4g hvs _ ho.n,zbt c1 vs M⟩ (hent _ _ _ (z93 _ _ _) rfl rfl)
  by_cases c2:o.code=2
  ·refine z3l ?_
   (conv=>whnf);refine ⟨fun h=>absurd h (by simp [c2]),fun _=>?_⟩;(conv=>whnf);refine ⟨fun _=>?_,fun h=>absurd h (by simp [c2])⟩;(conv=>whnf);refine ⟨⟨by omega,by omega⟩,?_⟩;(conv=>whnf);erw [z91 hvs hd];(conv=>whnf);erw [z92 hvs];(conv=>whnf);exact zb8 ⟨(vs.set o.d.toNat a,M),z4g hvs _ haw,by rw [zbw c2,hae]⟩ (hent _ _ _ (z93 _ _ _) rfl rfl)
  have n1:(o.code==1)=false:=by simp [c1]
  have n2:(o.code==2)=false:=by simp [c2]
  by_cases c3:o.code=16∨o.code=17
  ·have hsz:(szN o.code:Int)=z5x o.code:=by unfold szN z5x;rcases c3 with h|h<;>rw [h]<;>rfl
   have hsb:1≤szN o.code∧szN o.code≤4:=by unfold szN;split<;>omega
   have hAP:zbr o vs M=(match M.bad ((a+o.n)%4294967296) 1 0 (szN o.code) with
     |none=>⟨vs.set o.d.toNat (M.load ((a+o.n)%4294967296) 0 (szN o.code)),true,M⟩
     |some _=>⟨vs,false,M⟩):=by
    rw [hae];unfold zbr;rw [if_neg c1,if_neg c2,if_pos c3]
    cases M.bad ((getV vs o.a+o.n)%4294967296) 1 0 (szN o.code)<;>rfl
   obtain ⟨x,y,k,hX,hxw,hk⟩:∃ x y k,M.loadV ((a+o.n)%4294967296) (szN o.code)=valV x y k∧word x∧zbr o vs M=(if k=true then ⟨vs.set o.d.toNat x,true,M⟩ else ⟨vs,false,M⟩):=by
    rw [hAP];unfold MemP.loadV
    cases M.bad ((a+o.n)%4294967296) 1 0 (szN o.code) with
    |none=>exact ⟨_,_,true,rfl,zto M _ _ _,rfl⟩
    |some z=>exact ⟨0,z,false,rfl,yap,rfl⟩
   refine z3g ?_;(conv=>whnf);refine z21 ?_;refine z3g ?_;(conv=>whnf);refine z23 rfl (fun h=>absurd h (by rw [n1];decide)) fun _=>?_;refine z3g ?_;(conv=>whnf);refine z23 rfl (fun h=>absurd h (by rw [n2];decide)) fun _=>?_;refine z3c (α:=Unit) (fun _=>[(2,.p (.c (.ref 0 0))),(3,.p (.c (.ref 6 0))),(4,.p (.c (.ref 7 0))),(6,.p (.c (.ref 8 0))),(7,one (.bool false)),(8,one (.int .u32 a)),(9,one (.int .u32 b)),(10,.p (.c (.ref 9 0))),(25,one (.int .i64 o.code)),(49,one (.bool true))]) (fun _=>memL 0 n p M [.cells 61 ((opC o).map .v),.cells 42 (z95 vs),.cells 42 (z95 (List.replicate 28 0)),.cells 195 [.v (.bool (isOp o.code)),.v (.bool (hasD o.code)),.v (.bool (hasA o.code)),.v (.bool (hasB o.code)),.v (.bool (hasN o.code)),.v (.bool (leaves o.code))]]) ?_ fun _=>?_
   ·refine z3l ?_
    (conv=>whnf);refine ⟨fun h=>?_,fun h=>?_⟩
    ·conv=>whnf
     exact zb8 () (zkb rfl (aI rfl (aI rfl (aI rfl (aI rfl (aI rfl (aI rfl (aI rfl (aI rfl (aI rfl (aI ((congrArg (fun z=>one (.bool z)) h)) trivial)))))))))) Tn)
    ·have h17:(o.code==17)=true:=by
      rcases c3 with e|e
      ·rw [e] at h;cases h
      ·rw [e];rfl
     (conv=>whnf);exact zb8 () (zkb rfl (aI rfl (aI rfl (aI rfl (aI rfl (aI rfl (aI rfl (aI rfl (aI rfl (aI rfl (aI ((congrArg (fun z=>one (.bool z)) h17)) trivial)))))))))) Tn)
   refine z23 rfl (fun _=>?_) (fun h=>absurd h (by decide));refine z3c (α:=Unit) (fun _=>[(2,.p (.c (.ref 0 0))),(3,.p (.c (.ref 6 0))),(4,.p (.c (.ref 7 0))),(6,.p (.c (.ref 8 0))),(7,one (.bool false)),(8,one (.int .u32 a)),(9,one (.int .u32 b)),(10,.p (.c (.ref 9 0))),(25,one (.int .i64 o.code))]) (fun _=>memL 0 n p M [.cells 61 ((opC o).map .v),.cells 42 (z95 vs),.cells 42 (z95 (List.replicate 28 0)),.cells 195 [.v (.bool (isOp o.code)),.v (.bool (hasD o.code)),.v (.bool (hasA o.code)),.v (.bool (hasB o.code)),.v (.bool (hasN o.code)),.v (.bool (leaves o.code))]]) ?_ fun _=>?_
   ·refine z3l ?_
    (conv=>whnf);refine z0f rfl rfl rfl rfl ?_;(conv=>whnf);refine ⟨fun h=>absurd h (by decide),fun _=>?_⟩;(conv=>whnf);exact zb8 () (zkb rfl Tn Tn)
   refine z2y (memL 0 n p M [.cells 42 (z95 vs),.cells 42 (z95 (List.replicate 28 0))]) [0,1,2,3,4,5,7,8] (aI ((Exists.intro _ (aI rfl sM))) (aI ((Exists.intro _ (aI rfl (aI rfl (Or.inl (z1s _ _).symm))))) (aI ((Exists.intro _ (aI rfl (aI rfl (Or.inl (z1s _ _).symm))))) (aI ((Exists.intro _ (aI rfl (aI rfl (Or.inl (z1s _ _).symm))))) (aI ((Exists.intro _ (aI rfl (aI rfl (Or.inl (z1s _ _).symm))))) (aI ((Exists.intro _ (aI rfl (aI rfl (Or.inl (z1s _ _).symm))))) (aI ((Exists.intro _ (aI rfl (aI rfl (Or.inl (z1s _ _).symm))))) (aI ((Exists.intro _ (aI rfl (aI rfl (Or.inl (z1s _ _).symm))))) trivial)))))))) (zt6 n p M _ _ _ _) rfl rfl rfl rfl fun r w1 gs hR hgl hgs hback=>?_;obtain ⟨g6,e6,hcell⟩:=zbf (us:=opC o) hR hgl hgs rfl 6 rfl rfl
   have hmv:∀ (r2:Env),(∀ i,r2.blk i=gs[i]?)→∀ j,j<8→∀ b,r.blk ([0,1,2,3,4,5,7,8].getD j 0)=some b→r2.blk j=some b:=fun r2 hr2 j hj b hb=>by
    rw [hr2, ← hgs j hj];exact hb
   refine ⟨[(2,.p (.c (.ref 0 0))),(3,one (.pointer (some ⟨g6,0,none⟩))),(4,.p (.c (.ref 6 0))),(6,.p (.c (.ref 7 0))),(7,one (.bool false)),(8,one (.int .u32 a))],fun act r2 hr2 hfd=>zn1 ⟨z6f hfd 2 rfl (hmv r2 hr2 0 zO),z6h hfd 3 rfl e6,z6f hfd 4 rfl (hmv r2 hr2 6 zO),z6f hfd 6 rfl (hmv r2 hr2 7 zO),z6j hfd 7 rfl,z6j hfd 8 rfl,trivial⟩,?_⟩;obtain ⟨x0,x1,x2,x3,x4,x5,x6,x7,rfl⟩:=eight hgl;refine z3c (α:=Unit) (fun _=>[(3,one (.pointer (some ⟨g6,0,none⟩))),(4,.p (.c (.ref 6 0))),(6,.p (.c (.ref 7 0))),(7,one (.bool false)),(11,.p (.c (.ref 8 0)))]) (fun _=>memL 0 n p M [.cells 42 (z95 vs),.cells 42 (z95 (List.replicate 28 0)),.cells 220 [.v (.int .u32 x),.v (.int .u32 y),.v (.bool k)]]) ?_ fun _=>?_
   ·refine z3l ?_
    refine z2t (.q 0 (.q 1 (.q 2 (.q 3 (.q 4 (.q 5 (.q 6 (.alt 7 (.alt 8 (.alt 9 (.alt 10 .done .no) .no) (.alt 9 (.alt 8 (.alt 10 .done .no) .no) .no)) (.alt 9 (.alt 7 (.alt 8 (.alt 10 .done .no) .no) .no) .no))))))))) mixed zK zK ?_;(conv=>whnf);refine ⟨_,hcell 4 [.int .u32 o.n] (fun k u hu=>by cases k with|zero=>exact hu|succ k=>simp at hu),?_⟩;(conv=>whnf);refine ⟨_,wr32 _,?_⟩;(conv=>whnf);refine ⟨_,hcell 0 [.int .i64 o.code] (fun k u hu=>by cases k with|zero=>exact hu|succ k=>simp at hu),?_⟩;(conv=>whnf);refine ⟨?_,?_,trivial⟩
    ·conv=>whnf
     refine ze2 (x:= .int .i64 (szN o.code:Int)) rfl zK (fun r w' hR=>by rw [hsz];exact z5y o.code w') ?_;(conv=>whnf);refine ⟨?_,?_,trivial⟩
     ·conv=>whnf
      refine ze4 (pre:=[]) (suf:=[one (.int .u32 ((a+o.n)%4294967296)),one (.int .i64 (szN o.code:Int))]) 0 n p M (valV x y k) zt7 rfl rfl zK (fun w' g gs hk hU=>by rw [← hX];exact zul M n p _ (szN o.code) w' g gs hU hM (yau _) hsb) ?_;(conv=>whnf);refine ⟨?_,trivial⟩;(conv=>whnf);refine ⟨?_,trivial⟩;(conv=>whnf);exact zb8 () (zkb rfl Tn Tn)
     ·conv=>whnf
      refine ⟨?_,trivial⟩;(conv=>whnf);refine ze4 (pre:=[]) (suf:=[one (.int .u32 ((a+o.n)%4294967296)),one (.int .i64 (szN o.code:Int))]) 0 n p M (valV x y k) zt7 rfl rfl zK (fun w' g gs hk hU=>by rw [← hX];exact zul M n p _ (szN o.code) w' g gs hU hM (yau _) hsb) ?_;(conv=>whnf);refine ⟨?_,trivial⟩;(conv=>whnf);exact zb8 () (zkb rfl Tn Tn)
    ·conv=>whnf
     refine ⟨?_,trivial⟩;(conv=>whnf);refine ze2 (x:= .int .i64 (szN o.code:Int)) rfl zK (fun r w' hR=>by rw [hsz];exact z5y o.code w') ?_;(conv=>whnf);refine ⟨?_,trivial⟩;(conv=>whnf);refine ze4 (pre:=[]) (suf:=[one (.int .u32 ((a+o.n)%4294967296)),one (.int .i64 (szN o.code:Int))]) 0 n p M (valV x y k) zt7 rfl rfl zK (fun w' g gs hk hU=>by rw [← hX];exact zul M n p _ (szN o.code) w' g gs hU hM (yau _) hsb) ?_;(conv=>whnf);refine ⟨?_,trivial⟩;(conv=>whnf);exact zb8 () (zkb rfl Tn Tn)
   refine z3l ?_;(conv=>whnf);refine ⟨fun h=>?_,fun h=>?_⟩
   ·have hkf:k=false:=by simpa using h
    rw [hkf,if_neg (by decide)] at hk;(conv=>whnf);erw [zh1 hvl];(conv=>whnf);erw [zdl hvl,zwl];(conv=>whnf);erw [zdz (hvl.trans hz.symm)];(conv=>whnf);erw [z99 hvs _ hz];(conv=>whnf);refine hback _ _ _ (zch (zci (zcg ?_)));(conv=>whnf);erw [zh1 hvl];(conv=>whnf);refine zmn (z9f _ _) rfl (zt8 (M:=M)) (zuc n p M) fun w' h1 h2=>?_;unfold zaa;rw [hk];exact ⟨rfl,h1,h2⟩
   ·have hkt:k=true:=by simpa using h
    rw [hkt,if_pos rfl] at hk;(conv=>whnf);refine ⟨_,unflat <| hcell 1 [.int .i64 o.d] (fun k u hu=>by cases k with|zero=>exact hu|succ k=>simp at hu),?_⟩;(conv=>whnf);refine ⟨⟨by omega,by omega⟩,?_⟩;(conv=>whnf);erw [z91 hvs hd];(conv=>whnf);erw [z92 hvs];(conv=>whnf);refine hback _ _ _ (zb4 ?_);exact zb8 ⟨(vs.set o.d.toNat x,M),z4g hvs _ hxw,hk⟩ (zj2 Tn (aI sM (aI sM (aI sM (aI sM (aI sM (aI sM (aI ((aI rfl (Or.inl (z93 _ _ _)))) (aI sM trivial)))))))) rfl (zo0 _ _ _ _ _ _ _ _ _ _ _ _ _))
  by_cases c4:o.code=18∨o.code=19
  ·have hsz:(szN o.code:Int)=z5x o.code:=by unfold szN z5x;rcases c4 with h|h<;>rw [h]<;>rfl
   have hsb:1≤szN o.code∧szN o.code≤4:=by unfold szN;split<;>omega
   have hAP:zbr o vs M=⟨vs,(M.bad ((a+o.n)%4294967296) 2 0 (szN o.code)).isNone,M.storeM ((a+o.n)%4294967296) (szN o.code) b⟩:=by
    rw [hae,hbe];unfold zbr;rw [if_neg c1,if_neg c2,if_neg c3,if_pos c4]
   obtain ⟨x,y,k,hX,hk⟩:∃ x y k,zf1 (M.bad ((a+o.n)%4294967296) 2 0 (szN o.code))=valV x y k∧(M.bad ((a+o.n)%4294967296) 2 0 (szN o.code)).isNone=k:=by
    cases M.bad ((a+o.n)%4294967296) 2 0 (szN o.code) with
    |none=>exact ⟨0,0,true,rfl,rfl⟩
    |some z=>exact ⟨0,z,false,rfl,rfl⟩
   rw [hk] at hAP
   obtain ⟨M2,hM2⟩:∃ M2,M2=M.storeM ((a+o.n)%4294967296) (szN o.code) b:=⟨_,rfl⟩
   rw [← hM2] at hAP;refine z3g ?_;(conv=>whnf);refine z21 ?_;refine z3g ?_;(conv=>whnf);refine z23 rfl (fun h=>absurd h (by rw [n1];decide)) fun _=>?_;refine z3g ?_;(conv=>whnf);refine z23 rfl (fun h=>absurd h (by rw [n2];decide)) fun _=>?_;refine z3c (α:=Unit) (fun _=>[(2,.p (.c (.ref 0 0))),(3,.p (.c (.ref 6 0))),(4,.p (.c (.ref 7 0))),(6,.p (.c (.ref 8 0))),(7,one (.bool false)),(8,one (.int .u32 a)),(9,one (.int .u32 b)),(10,.p (.c (.ref 9 0))),(25,one (.int .i64 o.code)),(49,one (.bool false))]) (fun _=>memL 0 n p M [.cells 61 ((opC o).map .v),.cells 42 (z95 vs),.cells 42 (z95 (List.replicate 28 0)),.cells 195 [.v (.bool (isOp o.code)),.v (.bool (hasD o.code)),.v (.bool (hasA o.code)),.v (.bool (hasB o.code)),.v (.bool (hasN o.code)),.v (.bool (leaves o.code))]]) ?_ fun _=>?_
   ·refine z3l ?_
    (conv=>whnf);refine ⟨fun h=>absurd h zV,fun _=>?_⟩;have h17:(o.code==17)=false:=(by simp;omega);(conv=>whnf);exact zb8 () (zkb rfl (aI rfl (aI rfl (aI rfl (aI rfl (aI rfl (aI rfl (aI rfl (aI rfl (aI rfl (aI ((congrArg (fun z=>one (.bool z)) h17)) trivial)))))))))) Tn)
   refine z23 rfl (fun h=>absurd h (by decide)) (fun _=>?_);refine z3c (α:=Unit) (fun _=>[(2,.p (.c (.ref 0 0))),(3,.p (.c (.ref 6 0))),(4,.p (.c (.ref 7 0))),(6,.p (.c (.ref 8 0))),(7,one (.bool false)),(8,one (.int .u32 a)),(9,one (.int .u32 b)),(10,.p (.c (.ref 9 0))),(25,one (.int .i64 o.code)),(73,one (.bool true))]) (fun _=>memL 0 n p M [.cells 61 ((opC o).map .v),.cells 42 (z95 vs),.cells 42 (z95 (List.replicate 28 0)),.cells 195 [.v (.bool (isOp o.code)),.v (.bool (hasD o.code)),.v (.bool (hasA o.code)),.v (.bool (hasB o.code)),.v (.bool (hasN o.code)),.v (.bool (leaves o.code))]]) ?_ fun _=>?_
   ·refine z3l ?_
    (conv=>whnf);refine ⟨fun h=>?_,fun h=>?_⟩
    ·conv=>whnf
     exact zb8 () (zkb rfl (aI rfl (aI rfl (aI rfl (aI rfl (aI rfl (aI rfl (aI rfl (aI rfl (aI rfl (aI ((congrArg (fun z=>one (.bool z)) h)) trivial)))))))))) Tn)
    ·have h17:(o.code==19)=true:=by
      rcases c4 with e|e
      ·rw [e] at h;cases h
      ·rw [e];rfl
     (conv=>whnf);exact zb8 () (zkb rfl (aI rfl (aI rfl (aI rfl (aI rfl (aI rfl (aI rfl (aI rfl (aI rfl (aI rfl (aI ((congrArg (fun z=>one (.bool z)) h17)) trivial)))))))))) Tn)
   refine z23 rfl (fun _=>?_) (fun h=>absurd h (by decide));refine z3c (α:=Unit) (fun _=>[(2,.p (.c (.ref 0 0))),(3,.p (.c (.ref 6 0))),(4,.p (.c (.ref 7 0))),(6,.p (.c (.ref 8 0))),(7,one (.bool false)),(8,one (.int .u32 a)),(9,one (.int .u32 b)),(10,.p (.c (.ref 9 0))),(25,one (.int .i64 o.code))]) (fun _=>memL 0 n p M [.cells 61 ((opC o).map .v),.cells 42 (z95 vs),.cells 42 (z95 (List.replicate 28 0)),.cells 195 [.v (.bool (isOp o.code)),.v (.bool (hasD o.code)),.v (.bool (hasA o.code)),.v (.bool (hasB o.code)),.v (.bool (hasN o.code)),.v (.bool (leaves o.code))]]) ?_ fun _=>?_
   ·refine z3l ?_
    (conv=>whnf);refine z0f rfl rfl rfl rfl ?_;(conv=>whnf);refine ⟨fun h=>absurd h (by decide),fun _=>?_⟩;(conv=>whnf);exact zb8 () (zkb rfl Tn Tn)
   refine z2y (memL 0 n p M [.cells 42 (z95 vs),.cells 42 (z95 (List.replicate 28 0))]) [0,1,2,3,4,5,7,8] (aI ((Exists.intro _ (aI rfl sM))) (aI ((Exists.intro _ (aI rfl (aI rfl (Or.inl (z1s _ _).symm))))) (aI ((Exists.intro _ (aI rfl (aI rfl (Or.inl (z1s _ _).symm))))) (aI ((Exists.intro _ (aI rfl (aI rfl (Or.inl (z1s _ _).symm))))) (aI ((Exists.intro _ (aI rfl (aI rfl (Or.inl (z1s _ _).symm))))) (aI ((Exists.intro _ (aI rfl (aI rfl (Or.inl (z1s _ _).symm))))) (aI ((Exists.intro _ (aI rfl (aI rfl (Or.inl (z1s _ _).symm))))) (aI ((Exists.intro _ (aI rfl (aI rfl (Or.inl (z1s _ _).symm))))) trivial)))))))) (zt6 n p M _ _ _ _) rfl rfl rfl rfl fun r w1 gs hR hgl hgs hback=>?_;obtain ⟨g6,e6,hcell⟩:=zbf (us:=opC o) hR hgl hgs rfl 6 rfl rfl
   have hmv:∀ (r2:Env),(∀ i,r2.blk i=gs[i]?)→∀ j,j<8→∀ b,r.blk ([0,1,2,3,4,5,7,8].getD j 0)=some b→r2.blk j=some b:=fun r2 hr2 j hj b hb=>by
    rw [hr2, ← hgs j hj];exact hb
   refine ⟨[(2,.p (.c (.ref 0 0))),(3,one (.pointer (some ⟨g6,0,none⟩))),(4,.p (.c (.ref 6 0))),(6,.p (.c (.ref 7 0))),(7,one (.bool false)),(8,one (.int .u32 a)),(9,one (.int .u32 b))],fun act r2 hr2 hfd=>zn1 ⟨z6f hfd 2 rfl (hmv r2 hr2 0 zO),z6h hfd 3 rfl e6,z6f hfd 4 rfl (hmv r2 hr2 6 zO),z6f hfd 6 rfl (hmv r2 hr2 7 zO),z6j hfd 7 rfl,z6j hfd 8 rfl,z6j hfd 9 rfl,trivial⟩,?_⟩;obtain ⟨x0,x1,x2,x3,x4,x5,x6,x7,rfl⟩:=eight hgl;refine z3c (α:=Unit) (fun _=>[(3,one (.pointer (some ⟨g6,0,none⟩))),(4,.p (.c (.ref 6 0))),(6,.p (.c (.ref 7 0))),(7,one (.bool false)),(12,.p (.c (.ref 8 0)))]) (fun _=>memL 0 n p M2 [.cells 42 (z95 vs),.cells 42 (z95 (List.replicate 28 0)),.cells 220 [.v (.int .u32 x),.v (.int .u32 y),.v (.bool k)]]) ?_ fun _=>?_
   ·refine z3l ?_
    refine z2t (.q 0 (.q 1 (.q 2 (.q 3 (.q 4 (.q 5 (.q 6 (.q 8 (.alt 7 (.alt 9 (.alt 10 (.alt 11 .done .no) .no) (.alt 10 (.alt 9 (.alt 11 .done .no) .no) .no)) (.alt 10 (.alt 7 (.alt 9 (.alt 11 .done .no) .no) .no) .no)))))))))) mixed zK zK ?_;(conv=>whnf);refine ⟨_,hcell 4 [.int .u32 o.n] (fun k u hu=>by cases k with|zero=>exact hu|succ k=>simp at hu),?_⟩;(conv=>whnf);refine ⟨_,wr32 _,?_⟩;(conv=>whnf);refine ⟨_,hcell 0 [.int .i64 o.code] (fun k u hu=>by cases k with|zero=>exact hu|succ k=>simp at hu),?_⟩;(conv=>whnf);refine ⟨?_,?_,trivial⟩
    ·conv=>whnf
     refine ze2 (x:= .int .i64 (szN o.code:Int)) rfl zK (fun r w' hR=>by rw [hsz];exact z5y o.code w') ?_;(conv=>whnf);refine ⟨?_,?_,trivial⟩
     ·conv=>whnf
      refine ze5 (pre:=[]) (suf:=[one (.int .u32 ((a+o.n)%4294967296)),one (.int .i64 (szN o.code:Int)),one (.int .u32 b)]) 0 n p M M2 (valV x y k) zt7 rfl rfl zK (fun w' g gs hk hU=>by rw [← hX,hM2];exact zuu M n p _ (szN o.code) b w' g gs hU hM (yau _) hsb hbw) ?_;(conv=>whnf);refine ⟨?_,trivial⟩;(conv=>whnf);refine ⟨?_,trivial⟩;(conv=>whnf);exact zb8 () (zkb rfl Tn Tn)
     ·conv=>whnf
      refine ⟨?_,trivial⟩;(conv=>whnf);refine ze5 (pre:=[]) (suf:=[one (.int .u32 ((a+o.n)%4294967296)),one (.int .i64 (szN o.code:Int)),one (.int .u32 b)]) 0 n p M M2 (valV x y k) zt7 rfl rfl zK (fun w' g gs hk hU=>by rw [← hX,hM2];exact zuu M n p _ (szN o.code) b w' g gs hU hM (yau _) hsb hbw) ?_;(conv=>whnf);refine ⟨?_,trivial⟩;(conv=>whnf);exact zb8 () (zkb rfl Tn Tn)
    ·conv=>whnf
     refine ⟨?_,trivial⟩;(conv=>whnf);refine ze2 (x:= .int .i64 (szN o.code:Int)) rfl zK (fun r w' hR=>by rw [hsz];exact z5y o.code w') ?_;(conv=>whnf);refine ⟨?_,trivial⟩;(conv=>whnf);refine ze5 (pre:=[]) (suf:=[one (.int .u32 ((a+o.n)%4294967296)),one (.int .i64 (szN o.code:Int)),one (.int .u32 b)]) 0 n p M M2 (valV x y k) zt7 rfl rfl zK (fun w' g gs hk hU=>by rw [← hX,hM2];exact zuu M n p _ (szN o.code) b w' g gs hU hM (yau _) hsb hbw) ?_;(conv=>whnf);refine ⟨?_,trivial⟩;(conv=>whnf);exact zb8 () (zkb rfl Tn Tn)
   refine z3c (α:=Unit) (fun _=>[(4,.p (.c (.ref 6 0))),(6,.p (.c (.ref 7 0))),(7,one (.bool k))]) (fun _=>memL 0 n p M2 [.cells 42 (z95 vs),.cells 42 (z95 vs),.cells 220 [.v (.int .u32 x),.v (.int .u32 y),.v (.bool k)]]) ?_ fun _=>?_
   ·refine z3l ?_
    refine z2t (.q 1 (.alt 0 (.alt 2 (.alt 3 (.q 4 .done) .no) (.alt 3 (.alt 2 (.q 4 .done) .no) .no)) (.alt 2 (.alt 0 (.alt 3 (.q 4 .done) .no) .no) .no))) mixed zK zK ?_;(conv=>whnf);refine ⟨?_,?_,trivial⟩
    ·conv=>whnf
     erw [zh1 hvl];(conv=>whnf);refine ⟨?_,?_,trivial⟩
     ·conv=>whnf
      refine ⟨?_,trivial⟩;(conv=>whnf);erw [zdl hvl,zwl];(conv=>whnf);erw [zdz (hvl.trans hz.symm)];(conv=>whnf);erw [z99 hvs _ hz];(conv=>whnf);exact zb8 () (zkb rfl Tn Tn)
     ·conv=>whnf
      erw [zdl hvl,zwl];(conv=>whnf);erw [zdz (hvl.trans hz.symm)];(conv=>whnf);erw [z99 hvs _ hz];(conv=>whnf);refine ⟨?_,trivial⟩;(conv=>whnf);exact zb8 () (zkb rfl Tn Tn)
    ·conv=>whnf
     refine ⟨?_,trivial⟩;(conv=>whnf);erw [zh1 hvl];(conv=>whnf);refine ⟨?_,trivial⟩;(conv=>whnf);erw [zdl hvl,zwl];(conv=>whnf);erw [zdz (hvl.trans hz.symm)];(conv=>whnf);erw [z99 hvs _ hz];(conv=>whnf);exact zb8 () (zkb rfl Tn Tn)
   refine z3l ?_;(conv=>whnf);refine hback _ _ _ (zch (zci (zcg ?_)));(conv=>whnf);erw [zh1 hvl];(conv=>whnf);refine zmn (z9f _ _) rfl (zt8 (M:=M2)) (zuc n p M2) fun w' h1 h2=>?_;unfold zaa;rw [hAP];exact ⟨rfl,h1,h2⟩
  have m3:(o.code==16)=false:=(by simp;omega);have m4:(o.code==17)=false:=(by simp;omega);have m5:(o.code==18)=false:=(by simp;omega);have m6:(o.code==19)=false:=(by simp;omega);refine z3l ?_;(conv=>whnf);refine ⟨fun h=>absurd h (by rw [n1];decide),fun _=>?_⟩;(conv=>whnf);refine ⟨fun h=>absurd h (by rw [n2];decide),fun _=>?_⟩;(conv=>whnf);refine ⟨fun h=>absurd h (by rw [m3];decide),fun _=>?_⟩;(conv=>whnf);refine ⟨fun h=>absurd h (by rw [m4];decide),fun _=>?_⟩;(conv=>whnf);refine ⟨fun h=>absurd h (by rw [m5];decide),fun _=>?_⟩;(conv=>whnf);refine ⟨fun h=>absurd h (by rw [m6];decide),fun _=>?_⟩;(conv=>whnf);refine ⟨fun h=>?_,fun h=>?_⟩
  ·have c5:o.code=21:=by simpa using h
   (conv=>whnf);erw [zh1 hvl];(conv=>whnf);erw [zdl hvl,zwl];(conv=>whnf);erw [zdz (hvl.trans hz.symm)];(conv=>whnf);erw [z99 hvs _ hz];(conv=>whnf);refine zci (zcg ?_);(conv=>whnf);erw [zh1 hvl];(conv=>whnf);refine zmn (z9f _ _) rfl (zt8 (M:=M)) (zuc n p M) fun w' h1 h2=>?_;unfold zaa;rw [zbu c5, ← hae];exact ⟨rfl,h1,h2⟩
  have c5:o.code≠21:=by simpa using h
  conv=>whnf
  refine ⟨fun h=>?_,fun h=>?_⟩
  ·have c6:o.code=22:=by simpa using h
   have hAP:zbr o vs M=⟨vs,false,M⟩:=by
    unfold zbr;rw [if_neg c1,if_neg c2,if_neg c3,if_neg c4,if_neg c5,if_pos c6]
   (conv=>whnf);erw [zh1 hvl];(conv=>whnf);erw [zdl hvl,zwl];(conv=>whnf);erw [zdz (hvl.trans hz.symm)];(conv=>whnf);erw [z99 hvs _ hz];(conv=>whnf);refine zci (zcg ?_);(conv=>whnf);erw [zh1 hvl];(conv=>whnf);refine zmn (z9f _ _) rfl (zt8 (M:=M)) (zuc n p M) fun w' h1 h2=>?_;unfold zaa;rw [hAP];exact ⟨rfl,h1,h2⟩
  have c6:o.code≠22:=by simpa using h
  conv=>whnf
  have h17:hasD o.code=true→zrf o.code=true:=fun h=>by
   unfold hasD at h;unfold zrf;rw [decide_eq_true_eq] at h⊢;omega
  refine ⟨fun h=>?_,fun h=>?_⟩
  ·have c7:=h17 h
   (conv=>whnf);refine z2x 8 mixed zK ?_;(conv=>whnf);refine z0g (xs:=[.int .i64 o.code,.int .u32 a,.int .u32 b]) (x:= .int .u32 (yaq o.code a b)) rfl zK (fun r w' hR=>zwz o.code a b w' haw hbw) ?_;(conv=>whnf);refine ⟨⟨by omega,by omega⟩,?_⟩;(conv=>whnf);erw [z91 hvs hd];(conv=>whnf);erw [z92 hvs];(conv=>whnf);exact zb8 ⟨(vs.set o.d.toNat (yaq o.code a b),M),z4g hvs _ (yar haw hbw),by rw [zbs c7,hae,hbe]⟩ (hent _ _ _ (z93 _ _ _) rfl rfl)
  ·have c7:¬zrf o.code=true:=fun hb=>by
    have h':3≤o.code∧o.code≤15:=(by unfold zrf at hb;simpa using hb);have:hasD o.code=true:=(by unfold hasD;rw [decide_eq_true_eq];omega);rw [this] at h;cases h
   (conv=>whnf);exact zb8 ⟨(vs,M),hvs,by unfold zbr;rw [if_neg c1,if_neg c2,if_neg c3,if_neg c4,if_neg c5,if_neg c6,if_neg c7]⟩ (hent _ _ _ rfl rfl rfl)
 ·obtain ⟨⟨vs',M'⟩,hvs',hA⟩:=y
  dsimp only at hvs' hA⊢;refine z3l ?_;(conv=>whnf);erw [zh1 (z96 hvs')];(conv=>whnf);erw [zdl (z96 hvs'),zwl];(conv=>whnf);erw [zdz ((z96 hvs').trans hz.symm)];(conv=>whnf);erw [z99 hvs' _ hz];(conv=>whnf);refine zcg ?_;(conv=>whnf);erw [zh1 (z96 hvs')];(conv=>whnf);refine zmn (z9f _ _) rfl (zt8 (M:=M')) (zuc n p M') fun w' h1 h2=>?_;unfold zaa;rw [hA];exact ⟨rfl,h1,h2⟩
def zsu (f:QForm):Int:=if f.bits=0 then 0 else if f.signed=true then 1 else 2
abbrev shL (f:QForm):List Value:=[.bool f.is,.bool f.d,.bool f.a,.bool f.b,intV (zsu f),intV f.bits,.int .u32 f.most]
abbrev shV (f:QForm):Value:= .agg #[.bool f.is,.bool f.d,.bool f.a,.bool f.b,intV (zsu f),intV f.bits,.int .u32 f.most]
def z4a (us:List Value) (o:Int) (s:List Value):List Value:=z3z us (o.toNat*7) s
def z4c (us:List Value) (ops:List Int) (s:List Value):List Value:=ops.foldl (fun u o=>z4a u o s) us
theorem z4b (us:List Value) (o:Int) (s:List Value):(z4a us o s).length=us.length:=z31 _ _ _
theorem z4d (s:List Value):∀ (ops:List Int) (us:List Value),(z4c us ops s).length=us.length
 |[],us=>rfl
 |o::ops,us=>by
  show (z4c (z4a us o s) ops s).length=_;rw [z4d s ops,z4b]
theorem z34:∀ (vs us:List Value) (off:Nat),z3z (us.map CV.v) off (vs.map CV.v)=(z3z us off vs).map CV.v
 |[],us,off=>rfl
 |v::vs,us,off=>by
  show z3z ((us.map CV.v).set off (.v v)) (off+1) (vs.map CV.v)=(z3z (us.set off v) (off+1) vs).map CV.v;rw [← z34 vs,List.map_set]
theorem z8i {α:Type} {l:List α} {k:Nat} {x:α} (h:l[k]?=some x):l.take (k+1)=l.take k++[x]:=by
 rw [List.take_add_one,h];rfl
theorem z4e (us:List Value) (l:List Int) (o:Int) (s:List Value):z4c us (l++[o]) s=z4a (z4c us l s) o s:=by
 unfold z4c;rw [List.foldl_append];rfl
abbrev sh6 (d a b:Bool) (k bits m:Int):Value:= .agg #[.bool false,.bool d,.bool a,.bool b,intV k,intV bits,.int .u32 m]
abbrev sh7 (d a b:Bool) (k bits m:Int):List Value:=[.bool true,.bool d,.bool a,.bool b,intV k,intV bits,.int .u32 m]
theorem z4i (d a b:Bool) (k bits m:Int) (ops:List Int) (us:List Value) (q n:Nat) (w:World) (g:Nat) (hg:w.heap[g]?=some (.cells us.toArray 256 (0,0))) (hus:us.length=448) (hn:ops.length=n)
  (hq:∀ (j:Nat) (o:Int),ops[j]?=some o→zac w ⟨[g],[]⟩ q (0+(j:Int).toNat*1) [intV o]) (hr:∀ o∈ops,0≤o∧o<64) (hn1:n≤64):
  Calls Tryz.prog 209 #[sh6 d a b k bits m,.slice (some ⟨q,0,none⟩) n n,.pointer (some ⟨g,0,none⟩)] w fun e w'=>e= .returned (.tuple #[])∧w'.heap[g]?=some (.cells (z4c us ops (sh7 d a b k bits m)).toArray 256 (0,0))∧w.grownBy w' (some g):=by
 refine zfl (args:=[sh6 d a b k bits m,.slice (some ⟨q,0,none⟩) n n,.pointer (some ⟨g,0,none⟩)]) (avs:=[.p (.agg [.v (.bool false),.v (.bool d),.v (.bool a),.v (.bool b),.v (intV k),.v (intV bits),.v (.int .u32 m)]),one (.slice (some ⟨q,0,none⟩) n n),.p (.c (.ref 0 0))]) Tryz.func209 Tryz.ntmps209 rfl (z1q w hg) ⟨_,_,rfl,⟨_,rfl,ziv [.bool false,.bool d,.bool a,.bool b,intV k,intV bits,.int .u32 m]⟩,_,_,rfl,zi3 _ _,_,_,rfl,⟨g,rfl,rfl⟩,rfl⟩ zS ?_
 conv=>whnf
 refine ⟨{j:Nat//j≤n},fun x=>[(2,.p (.c (.ref 0 0))),(3,.p (.c (.ref 1 0))),(8,one (.slice (some ⟨q,0,none⟩) n n)),(9,one (intV (n:Int))),(10,one (intV (x.1:Int)))],fun x=>[.cells 256 ((z4c us (ops.take x.1) (sh7 d a b k bits m)).map .v),.cells 228 ((sh7 d a b k bits m).map .v)],fun x=>n-x.1,
  ⟨⟨0,by omega⟩,zkb rfl Tn Tn⟩,fun x=>?_⟩
 obtain ⟨j,hj⟩:=x
 dsimp only
 have hlen:(z4c us (ops.take j) (sh7 d a b k bits m)).length=448:=by rw [z4d,hus]
 conv=>whnf
 refine ⟨fun hc=>?_,fun hc=>?_⟩
 ·have hlt:j<n:=by simp at hc;omega
  obtain ⟨o,ho⟩:∃ o,ops[j]?=some o:=⟨ops[j]'zO,List.getElem?_eq_getElem zO⟩
  have hor:=hr o (List.mem_of_getElem? ho)
  conv=>whnf
  (refine ⟨⟨by omega,by omega⟩,?_⟩;(conv=>whnf))
  refine ⟨_,hq j o ho,?_⟩
  conv=>whnf
  (refine ⟨⟨by omega,by omega⟩,?_⟩;(conv=>whnf))
  generalize hv:z4c us (ops.take j) (sh7 d a b k bits m)=vs at hlen⊢;have hl2:(vs.map CV.v).length=448:=(by rw [List.length_map,hlen]);rw [show Nat.ble (0+o.toNat*tsz Tryz.prog 228+([CV.v (Value.bool true),CV.v (Value.bool d),CV.v (Value.bool a),CV.v (Value.bool b),CV.v (intV k),CV.v (intV bits),CV.v (Value.int IntKind.u32 m)]).length) (vs.map CV.v).length=true from Nat.ble_eq_true_of_le (by rw [hl2];show 0+o.toNat*7+7≤448;omega)];(conv=>whnf);rw [show Nat.ble (vs.map CV.v).length 8=false from by rw [hl2];rfl];(conv=>whnf);refine ⟨_,wr64 zO,?_⟩;(conv=>whnf)
  have e:z3z (vs.map CV.v) (0+o.toNat*tsz Tryz.prog 228) [CV.v (Value.bool true),CV.v (Value.bool d),CV.v (Value.bool a),CV.v (Value.bool b),CV.v (intV k),CV.v (intV bits),CV.v (Value.int IntKind.u32 m)]=(z4c us (ops.take (j+1)) (sh7 d a b k bits m)).map CV.v:=by
   rw [z8i ho,z4e,hv];show z3z (vs.map CV.v) _ ((sh7 d a b k bits m).map CV.v)=_;rw [z34];show (z3z vs (0+o.toNat*7) _).map _=(z3z vs (o.toNat*7) _).map _;rw [Nat.zero_add]
  exact ⟨⟨j+1,by omega⟩,zkb rfl Tn (aI ((aI rfl (Or.inl e))) (aI sM trivial)),by show n-(j+1)<n-j;omega⟩
 ·have hje:j=n:=by simp at hc;omega
  subst hje;(conv=>whnf);refine ⟨_,_,zj7,?_⟩;(conv=>whnf)
  refine zmo rfl rfl fun w' h1 h2=>⟨rfl,?_,h2⟩
  rw [h1,List.take_of_length_le zO]
theorem ze1 {P:Program} {w0:World} {G:Gs} {fid:FuncId} {S:List Ow} {K:AV→List Ow→Prop} {t e:TypeId} {us us' xs:List Value} {pre:List AV} {ps:List Value} (i j n:Nat) (hi:S[i]?=some (.cells t (us.map .v))) (hj:S[j]?=some (.cells e (xs.map .v))) (hne:j≠i) (hx:avals pre=some ps) (hok:fnOk P fid=true)
  (h:∀ w g q,w.heap[g]?=some (.cells us.toArray t (0,0))→zac w ⟨[g],[]⟩ q 0 xs→Calls P fid (ps++[Value.slice (some ⟨q,0,none⟩) n n,Value.pointer (some ⟨g,0,none⟩)]).toArray w fun e w'=>e= .returned (.tuple #[])∧w'.heap[g]?=some (.cells us'.toArray t (0,0))∧w.grownBy w' (some g))
  (hK:K (.tup []) (S.set i (.cells t (us'.map .v)))):CallS P w0 G fid (pre++[.p (.c (.sl j 0 n n)),.p (.c (.ref i 0))]) S K:=by
 refine ⟨hok,fun r w vs hR hd=>?_⟩;obtain ⟨us1,us2,rfl,d1,d2⟩:=zc7 hd;obtain rfl:=zcs hx d1;obtain ⟨u1,l1,rfl,d3,d4⟩:=d2;obtain ⟨u2,l2,rfl,d5,d6⟩:=d4;obtain rfl:l2=[]:=d6;obtain ⟨q,hq,rfl⟩:=zi5 d3;obtain ⟨g,hb,rfl⟩:=zi4 d5;obtain ⟨b',us3,e1,e2,e3⟩:=hR.own i _ hi;rw [hb] at e1;injection e1 with e1;subst e1;obtain rfl:=ziw e3;obtain ⟨b'',us4,f1,f2,f3⟩:=hR.own j _ hj;rw [hq] at f1;injection f1 with f1;subst f1;obtain rfl:=ziw f3;have hqg:q≠g:=fun e=>hne (hR.inj j i q hq (by rw [e];exact hb))
 have hqc:zac w ⟨[g],[]⟩ q 0 us4:=by
  refine ⟨(hR.new j q hq).1,?_,fun k u hk=>?_⟩
  ·rintro (h1|h1)
   ·simp at h1;exact hqg h1
   ·cases h1
  ·simp [World.cell?,f2,hk]
 refine (h w g q e2 hqc).mono fun e w' ⟨he,hg,hgr⟩=>?_;exact ⟨.tup [],.tuple #[],_,r,he,⟨[],rfl,rfl⟩,hR.setBlock (o:= .cells t (us'.map .v)) hb hgr ⟨g,us',hb,hg,ziv us'⟩ (hR.lt_of_blk hb),Env.le.refl r,hK⟩
structure LiftAt (w:World) (g:Nat) (vA vP vO:Value) (l:List BOp):Prop where
 blk:w.heap[g]?=some (.cells #[vA,vP,vO] 185 (0,0))
 row:w.ownsRow 0 61 5 vO l.length (l.flatMap opC)
 far:vO.ownBlock≠some g
structure LiftTo (w w':World) (g:Nat) (vA vP vO:Value) (l':List BOp):Prop where
 out:∃ vO',LiftAt w' g vA vP vO' l'∧∀ b,vO'.ownBlock=some b→vO.ownBlock=some b∨w.heap.size≤b
 os:w'.os=w.os
 tape:w'.tape=w.tape
 output:w'.output=w.output
 size:w.heap.size≤w'.heap.size
 block:∀ b,b<w.heap.size→b≠g→vO.ownBlock≠some b→w'.heap[b]?=w.heap[b]?
section
variable {w:World} {g:Nat} {vA vP vO:Value} {l:List BOp}
end
theorem zun (M:MemP) (n p:Nat) (w:World) (g:Nat) (gs:List Nat) (hU:ObjsAt w (g::gs) (memS 0 n p M)):
  Calls Tryz.prog 49 #[.pointer (some ⟨g,0,none⟩)] w fun e w'=>e= .returned (intV (p:Int))∧ObjsAt w' (g::gs) (memS 0 n p M)∧GrownBys w w' (g::gs):=by
 obtain ⟨g0,g1,g2,g3,g4,g5,hg⟩:=z5w hU;injection hg with hg0 hgs;subst hgs;subst hg0;refine zfe [.p (.c (.ref 0 0))] [.pointer (some ⟨g,0,none⟩)] Tryz.func49 Tryz.ntmps49 rfl zS hU ⟨_,_,rfl,zi1 rfl,rfl⟩ ?_;(conv=>whnf)
 exact zmn rfl rfl (fun i o h=>h) (zuc n p M) fun w' h1 h2=>⟨rfl,h1,h2⟩
def MemP.rightsAt (M:MemP) (q:Nat):Int:=(M.rights[q]?).getD 0
theorem zut (M:MemP) (n p:Nat) (q:Nat) (w:World) (g:Nat) (gs:List Nat) (hU:ObjsAt w (g::gs) (memS 0 n p M)) (hM:M.ok n p) (hq:q<p):
  Calls Tryz.prog 52 #[.pointer (some ⟨g,0,none⟩),intV (q:Int)] w fun e w'=>e= .returned (intV (M.rightsAt q))∧ObjsAt w' (g::gs) (memS 0 n p M)∧GrownBys w w' (g::gs):=by
 obtain ⟨g0,g1,g2,g3,g4,g5,hg⟩:=z5w hU;injection hg with hg0 hgs;subst hgs;subst hg0;refine zfe [.p (.c (.ref 0 0)),one (intV (q:Int))] [.pointer (some ⟨g,0,none⟩),intV (q:Int)] Tryz.func52 Tryz.ntmps52 rfl zS hU ⟨_,_,rfl,zi1 rfl,zc6 [intV (q:Int)]⟩ ?_;(conv=>whnf);refine ⟨decide ((q:Int)≥(p:Int)),fun _=>?_,?_⟩
 ·conv=>whnf
  exact ⟨rfl,rfl,rfl,rfl,zo2 _ _ _ _ _ _ _ _ _⟩
 conv=>whnf
 refine ⟨fun hc=>absurd hc (by simp [cmb];omega),fun _=>?_⟩
 conv=>whnf
 (refine ⟨⟨by omega,by omega⟩,?_⟩;(conv=>whnf))
 have hget:(List.map CV.v M.rV)[0+(q:Int).toNat*tsz Tryz.prog 3]?=some (.v (intV (M.rightsAt q))):=by
  show (List.map CV.v M.rV)[0+(q:Int).toNat*1]?=_
  obtain ⟨y,hy⟩:∃ y,M.rights[q]?=some y:=⟨_,List.getElem?_eq_getElem (by rw [hM.lr];omega)⟩
  rw [Nat.zero_add,Nat.mul_one,Int.toNat_natCast];unfold MemP.rightsAt;rw [hy];exact z8a hy
 rw [hget]
 conv=>whnf
 exact zmn rfl rfl (fun i o h=>h) (zuc n p M) fun w' h1 h2=>⟨rfl,h1,h2⟩
def MemP.page (M:MemP) (q:Nat):List Int:=(M.data.drop (256*q)).take 256
theorem zx5 {M:MemP} {n p q:Nat} (hM:M.ok n p) (hq:q<p):(M.page q).length=256:=by
 have:=hM.np;unfold MemP.page;rw [List.length_take,List.length_drop,hM.ld];omega
theorem zz4 {P:Program} {w0:World} {G:Gs} {S:List Ow} {f:Fr} {o:Oper} {K:AV→Prop} {x:Operand} {src dst e:TypeId} {te:TypeId} {L:List CV} (i off n c:Nat) (m:List Int) (hop:o.op= .convert src dst x) (hs:P.underlying src=some (.slice e)) (he:P.underlying e=some (.int .u8)) (hd:P.underlying dst=some .string) (hx:f.ev x= .p (.c (.sl i off n c))) (hi:S[i]?=some (.cells te L)) (hm:(L.drop off).take n=(m.map (Value.int .u8)).map .v) (hn:m.length=n) (hk:K (one (strV m))):QRun P w0 G S f o K:=by
 refine ⟨_,hk,fun r a hf=>?_⟩;have h1:=hf.ev x;rw [hx] at h1;obtain ⟨b,hb,hu⟩:=zi5 h1;refine ⟨_,rfl,fun w hR=>?_⟩;obtain ⟨b',us,e1,e2,e3⟩:=hR.own i _ hi;rw [hb] at e1;injection e1 with e1;subst e1;have e4:=ziu n (zim off e3);rw [hm] at e4;have e5:=ziw e4
 have hl:(loadCells ⟨b,off,none⟩ n).run P w= .ok (m.map (Value.int .u8)).toArray w:=by
  unfold loadCells
  have:=z2h (P:=P) (w:=w) (b:=b) (off:=off) n 0 #[] (m.map (Value.int .u8)) (by simp [hn]) (fun j u hj=>by
   rw [← e5,List.getElem?_take] at hj
   split at hj
   ·rw [List.getElem?_drop] at hj
    simpa [World.cell?,e2] using hj
   ·simp at hj)
  simpa using this
 simp [execOp,hop,hu,run_convert_bytes_string w src dst e _ n c hs he hd,run_bytesToString w _ n c m hl,strV,zeq]
theorem zx4 {M:MemP} {n p q:Nat} (hM:M.ok n p) (hq:q<p):((M.dV.map CV.v).drop (256*q)).take 256=((M.page q).map (Value.int .u8)).map .v:=by
 have hnp:=hM.np;unfold MemP.dV MemP.page;rw [← List.map_drop, ← List.map_take,List.drop_append_of_le_length (by simp [hM.ld];omega),List.take_append_of_le_length (by simp [hM.ld];omega), ← List.map_drop, ← List.map_take]
theorem zum (M:MemP) (n p:Nat) (q:Nat) (w:World) (g:Nat) (gs:List Nat) (hU:ObjsAt w (g::gs) (memS 0 n p M)) (hM:M.ok n p) (hq:q<p):
  Calls Tryz.prog 80 #[.pointer (some ⟨g,0,none⟩),intV (q:Int)] w fun e w'=>e= .returned (strV (M.page q))∧ObjsAt w' (g::gs) (memS 0 n p M)∧GrownBys w w' (g::gs):=by
 obtain ⟨g0,g1,g2,g3,g4,g5,hg⟩:=z5w hU;injection hg with hg0 hgs;subst hgs;subst hg0;have hnp:=hM.np;have hpm:=hM.pmax;refine zfe [.p (.c (.ref 0 0)),one (intV (q:Int))] [.pointer (some ⟨g,0,none⟩),intV (q:Int)] Tryz.func80 Tryz.ntmps80 rfl zS hU ⟨_,_,rfl,zi1 rfl,zc6 [intV (q:Int)]⟩ ?_;(conv=>whnf);refine ⟨decide ((q:Int)≥(p:Int)),fun _=>?_,?_⟩
 ·conv=>whnf
  exact ⟨rfl,rfl,rfl,rfl,zo2 _ _ _ _ _ _ _ _ _⟩
 conv=>whnf
 refine ⟨fun hc=>absurd hc (by simp [cmb];omega),fun _=>?_⟩
 conv=>whnf
 refine ⟨(256*q:Nat),by rw [show (256:Int)*(q:Int)=((256*q:Nat):Int) by omega];exact wr64 zO,?_⟩
 conv=>whnf
 refine ⟨(256*q:Nat),by rw [show (256:Int)*(q:Int)=((256*q:Nat):Int) by omega];exact wr64 zO,?_⟩
 conv=>whnf
 refine ⟨(256*q+256:Nat),by rw [show ((256*q:Nat):Int)+(256:Int)=((256*q+256:Nat):Int) by omega];exact wr64 zO,?_⟩
 conv=>whnf
 refine zwq (z0i (size:=1) 1 0 n (n+M.td.length) (256*q) (256*q+256) rfl rfl rfl rfl rfl (.inr ⟨_,_,rfl,rfl⟩) (.inr ⟨_,_,rfl,rfl⟩) zO zO zO ?_) rfl
 conv=>whnf
 refine zz4 (m:=M.page q) 1 (0+256*q*1) (256*q+256-256*q) (n+M.td.length-256*q) rfl rfl rfl rfl rfl rfl (by rw [show 0+256*q*1=256*q by omega,show 256*q+256-256*q=256 by omega];exact zx4 hM hq) (by rw [zx5 hM hq];omega) ?_
 conv=>whnf
 exact zmn rfl rfl (fun i o h=>h) (zuc n p M) fun w' h1 h2=>⟨rfl,h1,h2⟩
def MemP.fetchV (M:MemP) (a:Int):Value:=if M.right a 4=true then valV (M.code a) 0 true else valV 0 a false
theorem zuj (M:MemP) (n p:Nat) (a:Int) (w:World) (g:Nat) (gs:List Nat) (hU:ObjsAt w (g::gs) (memS 0 n p M)) (hM:M.ok n p) (ha:word a):
  Calls Tryz.prog 191 #[.pointer (some ⟨g,0,none⟩),.int .u32 a] w fun e w'=>e= .returned (M.fetchV a)∧ObjsAt w' (g::gs) (memS 0 n p M)∧GrownBys w w' (g::gs):=by
 obtain ⟨g0,g1,g2,g3,g4,g5,hg⟩:=z5w hU;injection hg with hg0 hgs;subst hgs;subst hg0;refine zfe [.p (.c (.ref 0 0)),one (.int .u32 a)] [.pointer (some ⟨g,0,none⟩),.int .u32 a] Tryz.func191 Tryz.ntmps191 rfl zS hU ⟨_,_,rfl,zi1 rfl,zc6 [.int .u32 a]⟩ ?_;(conv=>whnf);refine ze4 (pre:=[]) (suf:=[one (.int .u32 a),one (intV 4)]) 0 n p M (.bool (M.right a 4)) (fun i hi=>zt7 i hi) rfl rfl zK (fun w' g gs hk hU=>zus M n p a 4 w' g gs hU hM ha (.inr (.inr rfl))) ?_;unfold MemP.fetchV
 cases hr:M.right a 4 with
 |false=>
  refine kB ?_
  conv=>whnf
  exact zmn rfl rfl (fun i o h=>z7u i o h) (zuc n p M) fun w' h1 h2=>⟨rfl,h1,h2⟩
 |true=>
  have hlt:=z10 hr;rw [hM.ld] at hlt
  have hcb:0≤M.code a∧M.code a<256:=by
   unfold MemP.code
   cases h:M.image[a.toNat]? with
   |none=>simp
   |some x=>exact hM.ib x (List.mem_of_getElem? h)
  refine kB ?_;(conv=>whnf);refine ze4 (pre:=[]) (suf:=[one (.int .u32 a)]) 0 n p M (.int .u8 (M.code a)) (fun i hi=>zt7 i hi) rfl rfl zK (fun w' g gs hk hU=>zug M n p a w' g gs hU hM ha hlt) ?_;(conv=>whnf);refine ⟨M.code a,by rw [wr32];omega,?_⟩;(conv=>whnf)
  exact zmn rfl rfl (fun i o h=>z7u i o h) (zuc n p M) fun w' h1 h2=>⟨rfl,h1,h2⟩
def MemP.syncM (M:MemP) (a:Int):MemP:=if a<(M.data.length:Int) then M.syncTo (a/256*256).toNat 256 else M
theorem z7x {M:MemP} {n p:Nat} (hM:M.ok n p) (a:Int):(M.syncM a).ok n p:=by
 unfold MemP.syncM;split
 ·exact z71 hM _ _
 ·exact hM
theorem zuv (M:MemP) (n p:Nat) (a:Int) (w:World) (g:Nat) (gs:List Nat) (hU:ObjsAt w (g::gs) (memS 0 n p M)) (hM:M.ok n p) (ha:word a):
  Calls Tryz.prog 90 #[.pointer (some ⟨g,0,none⟩),.int .u32 a] w fun e w'=>e= .returned (.bool (decide (a<(n:Int))))∧ObjsAt w' (g::gs) (memS 0 n p (M.syncM a))∧GrownBys w w' (g::gs):=by
 obtain ⟨g0,g1,g2,g3,g4,g5,hg⟩:=z5w hU;injection hg with hg0 hgs;subst hgs;subst hg0;have hnp:=hM.np;have hpm:=hM.pmax;have ha':=ha;obtain ⟨ha0,ha1⟩:=ha;refine zfe [.p (.c (.ref 0 0)),one (.int .u32 a)] [.pointer (some ⟨g,0,none⟩),.int .u32 a] Tryz.func90 Tryz.ntmps90 rfl zS hU ⟨_,_,rfl,zi1 rfl,zc6 [.int .u32 a]⟩ ?_;(conv=>whnf);refine ze4 (pre:=[]) (suf:=[one (.int .u32 a)]) 0 n p M (.bool (decide (a<(n:Int)))) (fun i hi=>by rw [Nat.zero_add]) rfl rfl zK (fun w' g gs hk hU=>zuk M n p a w' g gs hU hM ha') ?_;(conv=>whnf);refine ⟨true,fun _=>?_,?_⟩
 ·conv=>whnf
  exact ⟨rfl,rfl,rfl,rfl,zo2 _ _ _ _ _ _ _ _ _⟩
 unfold MemP.syncM;rw [hM.ld];by_cases hlt:a<(n:Int)
 ·rw [if_pos hlt,show cmb true (decide (a<(n:Int))) true=true by simp [cmb,hlt]]
  obtain ⟨b,hb⟩:∃ b:Nat,(a/256*256).toNat=b:=⟨_,rfl⟩
  rw [hb];have hb2:(b:Int)=a/256*256:=(by omega);have hbn:b+256≤n:=(by omega);refine kB ?_;(conv=>whnf);refine ⟨a,wr64 zO,?_⟩;(conv=>whnf);refine ⟨by decide,a/256,by rw [Int.tdiv_eq_ediv_of_nonneg ha0];exact wr64 zO,?_⟩;(conv=>whnf);refine ⟨(b:Int),by rw [hb2];exact wr64 zO,?_⟩;(conv=>whnf)
  refine ⟨{j:Nat//j≤256},fun x=>[(0,.p (.c (.ref 0 0))),(5,one (.bool (decide (a<(n:Int))))),(6,one (intV (b:Int))),(7,one (intV ((b+x.1:Nat):Int)))],fun x=>memS 0 n p (M.syncTo b x.1),fun x=>256-x.1,
   ⟨⟨0,by omega⟩,zkb rfl Tn Tn⟩,fun x=>?_⟩
  obtain ⟨j,hj⟩:=x;dsimp only;(conv=>whnf);refine ⟨(b+256:Nat),by rw [show (b:Int)+256=((b+256:Nat):Int) by omega];exact wr64 zO,?_⟩;(conv=>whnf);refine ⟨fun hc=>?_,fun hc=>?_⟩
  ·have hlt2:j<256:=by simp at hc;omega
   have hQ:=z71 hM b j;obtain ⟨hd,_⟩:=z7y M b j;have hnext:M.syncTo b (j+1)=(M.syncTo b j).setI (b+j) (M.get ((b+j:Nat):Int)):=rfl;generalize M.syncTo b j=Q at hQ hnext hd⊢;have hlenQ:n≤(List.map CV.v Q.iV).length:=z8b hQ.li;have hgb:=zoq hQ (x:=((b+j:Nat):Int)) zO zO;have hge:Q.get ((b+j:Nat):Int)=M.get ((b+j:Nat):Int):=(by unfold MemP.get;rw [hd]);rw [hge] at hgb;(conv=>whnf);refine z2x 13 mixed zK ?_;(conv=>whnf)
   (refine ⟨⟨by omega,by omega⟩,?_⟩;(conv=>whnf))
   rw [show (List.map CV.v Q.dV)[0+((b+j:Nat):Int).toNat*tsz Tryz.prog 5]?=some (.v (zem (M.get ((b+j:Nat):Int)))) by show (List.map CV.v Q.dV)[0+((b+j:Nat):Int).toNat*1]?=_;rw [Nat.zero_add,Nat.mul_one];exact hgb.1];(conv=>whnf)
   (refine ⟨⟨by omega,by omega⟩,?_⟩;(conv=>whnf))
   rw [show Nat.ble (0+((b+j:Nat):Int).toNat*tsz Tryz.prog 5+[CV.v (zem (M.get ((b+j:Nat):Int)))].length) (List.map CV.v Q.iV).length=true from Nat.ble_eq_true_of_le (by refine Nat.le_trans ?_ hlenQ;show 0+_*1+1≤n;omega)];(conv=>whnf);rw [show Nat.ble (List.map CV.v Q.iV).length 8=false from zdy zO];(conv=>whnf);refine ⟨((b+(j+1):Nat):Int),by rw [show ((b+j:Nat):Int)+1=((b+(j+1):Nat):Int) by omega];exact wr64 zO,?_⟩;(conv=>whnf)
   have hset:z3z (List.map CV.v Q.iV) (0+((b+j:Nat):Int).toNat*tsz Tryz.prog 5) [CV.v (zem (M.get ((b+j:Nat):Int)))]=List.map CV.v (M.syncTo b (j+1)).iV:=by
    rw [z4h,hnext];show List.map CV.v (Q.iV.set (0+((b+j:Nat):Int).toNat*1) _)=List.map CV.v ((Q.setI (b+j) _).iV);rw [Nat.zero_add,Nat.mul_one,Int.toNat_natCast, ← z38 Q _ (by rw [hQ.li];omega)]
   exact ⟨⟨j+1,by omega⟩,zkb rfl Tn (aI ((aI rfl (Or.inl (by rw [hnext];rfl)))) (aI ((aI rfl (Or.inl (by rw [hnext];rfl)))) (aI ((aI rfl (Or.inl hset))) (aI ((aI rfl (Or.inl (by rw [hnext];rfl)))) (aI ((aI rfl (Or.inl (by rw [hnext];rfl)))) (aI ((aI rfl (Or.inl (by rw [hnext];rfl)))) trivial)))))),by show 256-(j+1)<256-j;omega⟩
  ·have hje:j=256:=by simp at hc;omega
   subst hje;(conv=>whnf);refine ⟨_,_,zj7,?_⟩;(conv=>whnf)
   exact zmn rfl rfl (fun i o h=>h) (zuc n p _) fun w' h1 h2=>⟨rfl,h1,h2⟩
 ·rw [if_neg hlt,show cmb true (decide (a<(n:Int))) true=false by simp [cmb,hlt]]
  refine kB ?_
  conv=>whnf
  exact zmn rfl rfl (fun i o h=>h) (zuc n p M) fun w' h1 h2=>⟨rfl,h1,h2⟩
structure Slt where
 d:Nat
 c:Nat
 od:Bool
 oc:Bool
 cd:Nat
 cc:Nat
 r:Int
abbrev ptrV (b:Nat):Value:= .pointer (some ⟨b,0,none⟩)
abbrev slotL (s:Slt):List Value:=[ptrV s.d,ptrV s.c,.bool s.od,.bool s.oc,ptrV s.cd,ptrV s.cc,intV s.r]
def z6l (l:List Slt):List Value:=l.flatMap slotL
structure PageAt (w:World) (b:Nat) (us:List Int):Prop where
 at_:w.heap[b]?=some (.cells (us.map zem).toArray 177 (0,0))
 len:us.length=256
 byte:∀ x∈us,0≤x∧x<256
structure MemAt2 (w:World) (B m sb:Nat) (l:List Slt) (img:Nat→List Int):Prop where
 hm:w.heap[m]?=some (.cells #[.slice (some ⟨sb,0,none⟩) l.length l.length,.bool false] 174 (0,0))
 hs:w.heap[sb]?=some (.cells (z6l l).toArray 179 (0,0))
 Bm:B≤m
 Bs:B≤sb
 dp:∀ s∈l,(∃ us,PageAt w s.d us)∧B≤s.d
 cp:∀ k s,l[k]?=some s→PageAt w s.c (img k)∧B≤s.c
 sep:∀ s∈l,∀ s'∈l,s.od=true→s.d≠s'.c
theorem PageAt.later {w w':World} {b:Nat} {us:List Int} (h:PageAt w b us) (hb:w'.heap[b]?=w.heap[b]?):PageAt w' b us:=⟨hb.trans h.at_,h.len,h.byte⟩
theorem zpz {w:World} {b:Nat} {o:Obj} (h:w.heap[b]?=some o):b<w.heap.size:=by
 rcases Nat.lt_or_ge b w.heap.size with h1|h1
 ·exact h1
 ·rw [Array.getElem?_eq_none h1] at h;cases h
theorem MemAt2.later {w w':World} {B m sb:Nat} {l:List Slt} {img:Nat→List Int} (h:MemAt2 w B m sb l img) (hB:Below w.heap.size w w'):MemAt2 w' B m sb l img:=by
 have key:∀ {b:Nat} {o:Obj},w.heap[b]?=some o→w'.heap[b]?=w.heap[b]?:=fun hb=>hB.block _ (zpz hb)
 exact ⟨(key h.hm).trans h.hm,(key h.hs).trans h.hs,h.Bm,h.Bs,fun s hs=>by obtain ⟨⟨us,hu⟩,hb⟩:=h.dp s hs;exact ⟨⟨us,hu.later (key hu.at_)⟩,hb⟩,
  fun k s hk=>by obtain ⟨hu,hb⟩:=h.cp k s hk;exact ⟨hu.later (key hu.at_),hb⟩,h.sep⟩
theorem zd1 {w:World} {b:Nat} {us:List Value} {t:TypeId} (h:w.heap[b]?=some (.cells us.toArray t (0,0))) {off:Nat} {x:Value} (hx:us[off]?=some x):zac w Gs.nil b off [x]:=
 zfu (zpz h) zS (by simp [World.cell?,h,hx])
section
variable {w:World} {B m sb:Nat} {l:List Slt} {img:Nat→List Int}
end
end Go.Proofs.YtocafomnnkmjfaaGreat
