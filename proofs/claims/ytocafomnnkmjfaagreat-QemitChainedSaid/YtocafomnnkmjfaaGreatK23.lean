import Derived.Test.YtocafomnnkmjfaaGreatK21
set_option maxRecDepth 100000
set_option maxHeartbeats 4000000
namespace Go.Proofs.YtocafomnnkmjfaaGreat
open Go.RowKit
def zaq (s:St) (M:MemP) (v:Value) (M':MemP):Prop:=
 match z0z M.fet s.pc with
 |none=>∃ k inf,k≠0∧v=zxp s k inf∧M'=M
 |some i=>if z5g i.op=true then (match z65 i s.pc s.R M with
  |none=>∃ k inf,k≠0∧(23≤i.op→k=5)∧v=zxp s k inf∧M'=M
  |some (R',nx,M2)=>v=zxp {s with pc:=nx,R:=R',steps:=s.steps+1} 0 0∧M'=M2)
  else ∃ s' k inf,v=zxp s' k inf∧(i.op=48→s'=s∧k=4∧inf=i.imm∧M'=M)
def zap (s:St) (n p:Nat) (M:MemP) (g:Nat) (gs:List Nat) (w:World):Ending→World→Prop:=fun e w'=>∃ v M',e= .returned v∧zaq s M v M'∧M'.ok n p∧ObjsAt w' (g::gs) (memS 0 n p M')∧GrownBys w w' (g::gs)
abbrev SwR2 (s:St) (M:MemP) (i:QI) (y:St) (nx:Int) (M':MemP):Prop:=
 i.op≠48∧(z5g i.op=true→∃ R1 R',y={s with R:=R1}∧z65 i s.pc s.R M=some (R',nx,M')∧∀ j,0≤j→j<16→(if j=0 then 0 else R1 j)=R' j)
theorem z7b (s:St) (hs:s.ok) (M:MemP) (n p:Nat) (w:World) (g:Nat) (gs:List Nat) (hU:ObjsAt w (g::gs) (memS 0 n p M)) (hM:M.ok n p):
  Calls Tryz.prog 94 #[stV s,.pointer (some ⟨g,0,none⟩)] w (zap s n p M g gs w):=by
 obtain ⟨g0,g1,g2,g3,g4,g5,hg⟩:=z5w hU;injection hg with hg0 hgs;subst hgs;subst hg0
 obtain ⟨L,hL⟩:∃ L,L=stL s []:=⟨_,rfl⟩
 have hSC:StC L:=by rw [hL];exact z6w s
 have hL0:(L.map CV.v)[0]?=some (.v (u32V s.pc)):=by rw [hL];rfl
 rw [show stV s= .agg L.toArray by rw [hL]]
 refine zff [.p (.agg (L.map .v)),.p (.c (.ref 0 0))] [.agg L.toArray,.pointer (some ⟨g,0,none⟩)] Tryz.func94 Tryz.ntmps94 rfl zS hU ⟨_,_,rfl,⟨_,rfl,ziv _⟩,_,_,rfl,zi1 rfl,rfl⟩ ?_
 refine z3i ?_
 conv=>whnf
 obtain ⟨Z,hZ⟩:∃ Z:List Value,Z=stL ⟨0,fun _=>0,0,0,0,0,0,0,0⟩ [intV 0,u32V 0]:=⟨_,rfl⟩
 have hZl:(Z.map CV.v).length=26:=(by rw [hZ];rfl);refine z2z (f':=[(1,.p (.c (.ref 0 0))),(2,.p (.c (.ref 6 0))),(4,.p (.c (.ref 7 0)))]) (S':=memL 0 n p M [.cells stT (L.map .v),.cells outT (Z.map .v)]) (zkb rfl Tn (aI sM (aI sM (aI sM (aI sM (aI sM (aI sM (aI sM (aI ((aI rfl (Or.inl (by rw [hZ];rfl)))) trivial))))))))) ?_;clear hZ;refine z3i ?_;(conv=>whnf);erw [hL0];(conv=>whnf);refine ze4 (pre:=[one (u32V s.pc)]) (suf:=[]) 0 n p M (zlx ((z0z M.fet s.pc).getD QI.zero) (M.fk s.pc) (M.fi s.pc)) (fun i hi=>zt7 i hi) rfl rfl zK (fun w' g gs hk hU=>zl1 M n p s.pc w' g gs hU hM hs.pc) ?_;have hz:=zm6 (M:=M) hs.pc;unfold zap zaq;generalize M.fi s.pc=inf;generalize M.fk s.pc=k at hz⊢
 cases hr:z0z M.fet s.pc with
 |none=>
  rw [hr] at hz;have hk:¬k=0:=(by simpa using hz);(conv=>whnf);refine z3i ?_;(conv=>whnf);refine ⟨fun _=>?_,fun hc=>absurd hc (by simpa using hk)⟩;(conv=>whnf);erw [zh1 hSC.clen];(conv=>whnf);refine zmf (zxl L (.v (intV k)) (.v (u32V inf))) (zmg hSC rfl rfl rfl rfl rfl) ?_;generalize hO:zxl L (.v (intV k)) (.v (u32V inf))=O;have hOl:O.length=26:=(by rw [← hO];exact zxm hSC _ _)
  have hO1:∀ S,zwf S O=true:=fun S=>by rw [← hO];exact zxn hSC S rfl
  (conv=>whnf);erw [zdl hOl];(conv=>whnf);erw [hO1];(conv=>whnf);erw [zdz (by rw [hOl,hZl])];(conv=>whnf);erw [zs3 _ hZl zO];(conv=>whnf);erw [z32 (by rw [hOl,hZl])];refine zcg ?_;(conv=>whnf);erw [zh1 hOl];(conv=>whnf);rw [← hO]
  exact zmn (zxo L _ _) rfl (fun i o h=>z7u i o h) (zuc n p M) fun w' h1 h2=>⟨_,M,rfl,⟨k,inf,hk,by rw [hL];rfl,rfl⟩,hM,h1,h2⟩
 |some i=>
  obtain ⟨hi,his⟩:=z02 hM hr;rw [hr] at hz;have hk:k=0:=(by simpa using hz);subst hk;obtain ⟨op,d,a,b,imm⟩:=i;rw [Option.getD_some];dsimp only at his⊢;obtain ⟨hio,hid,hia,hib,himm⟩:=hi;dsimp only at hio hid hia hib himm;(conv=>whnf);refine z3i ?_;refine kB ?_;refine z3i ?_;(conv=>whnf)
  obtain ⟨F,hF⟩:∃ F:List Value,F=[intV op,intV d,intV a,intV b,u32V imm,intV 0,u32V inf]:=⟨_,rfl⟩
  refine z3c (α:={X:List Value//X=stL s []}) (fun _=>[(1,.p (.c (.ref 0 0))),(2,.p (.c (.ref 6 0))),(4,.p (.c (.ref 7 0))),(6,.p (.c (.ref 9 0))),(7,.p (.c (.ref 10 0)))]) (fun x=>memL 0 n p M [.cells stT (L.map .v),.cells outT (Z.map .v),.cells fetT (F.map .v),.cells qiT ((qiL ⟨op,d,a,b,imm⟩).map .v),.cells stT (x.1.map .v)]) ?_ fun x=>?_
  ·refine z3m ?_
   (conv=>whnf);erw [zh1 hSC.clen];(conv=>whnf);erw [zdl hSC.clen];(conv=>whnf);erw [hSC.one];(conv=>whnf);erw [zdz (m:=stC ⟨0,fun _=>0,0,0,0,0,0,0,0⟩ []) (hSC.clen.trans rfl)];(conv=>whnf);exact zb8 ⟨L,hL⟩ (zkb rfl Tn (aI sM (aI sM (aI sM (aI sM (aI sM (aI sM (aI sM (aI sM (aI ((aI rfl (Or.inl (by rw [hF];rfl)))) (aI sM (aI ((aI rfl (Or.inl (z32 hSC.clen.symm)))) trivial))))))))))))
  obtain ⟨X,hX⟩:=x;dsimp only;have hXl:(X.map CV.v).length=24:=(by rw [hX];rfl);have hXc:X.map CV.v=stC s []:=(by rw [hX]);refine z3c (α:={X:List Value//X=stL s []}) (fun _=>[(1,.p (.c (.ref 0 0))),(2,.p (.c (.ref 6 0))),(4,.p (.c (.ref 7 0))),(6,.p (.c (.ref 9 0))),(7,.p (.c (.ref 10 0)))]) (fun x=>memL 0 n p M [.cells stT (L.map .v),.cells outT (Z.map .v),.cells fetT (F.map .v),.cells qiT ((qiL ⟨op,d,a,b,imm⟩).map .v),.cells stT (x.1.map .v)]) ?_ fun x=>?_
  ·refine z3m ?_
   conv=>whnf
   (refine ⟨⟨by omega,by omega⟩,?_⟩;(conv=>whnf))
   erw [zs4 _ hXl (m:=0+1+(0:Int).toNat*1+1) (by decide)];(conv=>whnf);erw [zs3 _ hXl zO];(conv=>whnf)
   exact zb8 ⟨X,hX⟩ (zkb rfl Tn (aI sM (aI sM (aI sM (aI sM (aI sM (aI sM (aI sM (aI sM (aI sM (aI sM (aI ((aI rfl (Or.inl ((z6x (s:=s) (R:=s.R) (j:=0) 0 hXc zO zO).trans ((z6v (s:=s) fun j _ _=>by
    show (if j=0 then 0 else s.R j)=s.R j
    split
    ·rename_i h;rw [h,hs.zero]
    ·rfl).trans hXc.symm))))) trivial))))))))))))
  clear hXl hXc hX X;obtain ⟨X,hX⟩:=x;dsimp only;have hXl:(X.map CV.v).length=24:=(by rw [hX];rfl);have hXc:X.map CV.v=stC s []:=(by rw [hX])
  have hreg:∀ j:Int,0≤j→j<16→(X.map CV.v)[0+1+j.toNat*1]?=some (.v (u32V (s.R j))):=fun j h0 h1=>by rw [hX];exact z60 s [] h0 h1
  have hX0:(X.map CV.v)[0]?=some (.v (u32V s.pc)):=(by rw [hX];rfl);refine z3i ?_;(conv=>whnf);refine ⟨⟨hid.1,hid.2⟩,?_⟩;(conv=>whnf);erw [hreg d hid.1 hid.2];(conv=>whnf);refine z3i ?_;(conv=>whnf);refine ⟨⟨hia.1,hia.2⟩,?_⟩;(conv=>whnf);erw [hreg a hia.1 hia.2];(conv=>whnf);refine z3i ?_;(conv=>whnf);refine ⟨⟨hib.1,hib.2⟩,?_⟩;(conv=>whnf);erw [hreg b hib.1 hib.2];(conv=>whnf);refine z3i ?_;(conv=>whnf);erw [hX0];(conv=>whnf);refine ⟨zhz (s.pc+4),wr32 _,?_⟩;(conv=>whnf);refine z3i ?_;(conv=>whnf);refine ze2 (x:=intV (zzu op)) rfl zK (fun r w' hR=>zw0 op w' hio) ?_;(conv=>whnf)
  obtain ⟨vd,hvd⟩:∃ vd,vd=s.R d:=⟨_,rfl⟩
  obtain ⟨va,hva⟩:∃ va,va=s.R a:=⟨_,rfl⟩
  have hwd:word vd:=by rw [hvd];exact hs.reg d hid.1 hid.2
  have hwa:word va:=by rw [hva];exact hs.reg a hia.1 hia.2
  refine z3c (α:={y:Int//y=(if 16≤op then imm else s.R b)∧word y}) (fun y=>[(1,.p (.c (.ref 0 0))),(2,.p (.c (.ref 6 0))),(4,.p (.c (.ref 7 0))),(6,.p (.c (.ref 9 0))),(7,.p (.c (.ref 10 0))),(8,one (u32V vd)),(9,one (u32V va)),(10,one (u32V y.1)),(11,one (u32V (zhz (s.pc+4)))),(12,one (intV (zzu op)))]) (fun _=>memL 0 n p M [.cells stT (L.map .v),.cells outT (Z.map .v),.cells fetT (F.map .v),.cells qiT ((qiL ⟨op,d,a,b,imm⟩).map .v),.cells stT (X.map .v)]) ?_ fun y=>?_
  ·refine z3m ?_
   (conv=>whnf);refine ⟨fun hc=>?_,fun hc=>?_⟩
   ·have h16:16≤op:=by simpa using hc
    (conv=>whnf);exact zb8 ⟨imm,by rw [if_pos h16],himm⟩ (zkb rfl (aI rfl (aI rfl (aI rfl (aI rfl (aI rfl (aI ((by rw [hvd];rfl)) (aI ((by rw [hva];rfl)) Tn))))))) Tn)
   ·have h16:¬16≤op:=by simpa using hc
    (conv=>whnf);exact zb8 ⟨s.R b,by rw [if_neg h16],hs.reg b hib.1 hib.2⟩ (zkb rfl (aI rfl (aI rfl (aI rfl (aI rfl (aI rfl (aI ((by rw [hvd];rfl)) (aI ((by rw [hva];rfl)) Tn))))))) Tn)
  obtain ⟨vb,hvb,hwb⟩:=y;dsimp only;refine z3c (α:={y:St×Int×MemP//SwR2 s M ⟨op,d,a,b,imm⟩ y.1 y.2.1 y.2.2∧y.2.2.ok n p}) (fun y=>[(4,.p (.c (.ref 7 0))),(7,.p (.c (.ref 10 0))),(11,one (u32V y.1.2.1))]) (fun y=>memL 0 n p y.1.2.2 [.cells stT (L.map .v),.cells outT (Z.map .v),.cells fetT (F.map .v),.cells qiT ((qiL ⟨op,d,a,b,imm⟩).map .v),.cells stT ((stL y.1.1 []).map .v)]) ?_ fun y=>?_
  ·refine z21 ?_
   by_cases c1:op=10∧vb=0
   ·obtain ⟨rfl,rfl⟩:=c1
    have hb0:s.R b=0:=by rw [if_neg (by decide)] at hvb;exact hvb.symm
    have hst:z65 ⟨10,d,a,b,imm⟩ s.pc s.R M=none:=by unfold z65;rw [if_pos ⟨rfl,hb0⟩]
    repeat' (first
     |(refine z23 rfl nF (fun _=>?_))
     |(refine z23 rfl (fun _=>?_) nT)
     |(refine z3i ?_;(conv=>whnf);refine kA ?_))
    erw [zh1 hSC.clen];(conv=>whnf);refine ze2 (x:= .agg (L++[intV 6,u32V 0]).toArray) (zcx L _ _ rfl rfl) zK (fun r w' hR=>z81 L hSC 6 0 w') ?_;rw [zv3];generalize hO:zxl L (.v (intV 6)) (.v (u32V 0))=O;have hOl:O.length=26:=(by rw [← hO];exact zxm hSC _ _)
    have hO1:∀ S,zwf S O=true:=fun S=>by rw [← hO];exact zxn hSC S rfl
    (conv=>whnf);erw [zdl hOl];(conv=>whnf);erw [hO1];(conv=>whnf);erw [zdz (by rw [hOl,hZl])];(conv=>whnf);erw [zs3 _ hZl zO];(conv=>whnf);erw [z32 (by rw [hOl,hZl])];refine z3m ?_;(conv=>whnf);refine zco (zcg ?_) fun a w hq=>hq;(conv=>whnf);erw [zh1 hOl];(conv=>whnf);rw [← hO]
    exact zmn (zxo L _ _) rfl (fun i o h=>z7u i o h) (zuc n p M) fun w' h1 h2=>⟨_,M,rfl,by rw [if_pos (by decide),hst];exact ⟨6,0,by decide,fun h=>absurd h (by decide),by rw [hL];rfl,rfl⟩,hM,h1,h2⟩
   by_cases c2:zzu op≠0
   ·have hlt:op<48:=by have:=zzv.1 c2;omega
    have hsim:z5g op=true:=by unfold z5g;simpa using hlt
    obtain ⟨c,hcd⟩:∃ c,c=zzu op:=⟨_,rfl⟩
    have hst:z65 ⟨op,d,a,b,imm⟩ s.pc s.R M=some (updR s.R d (yaq c va vb),zhz (s.pc+4),M):=by
     unfold z65;dsimp only;rw [if_neg (by rintro ⟨h1,h2⟩;exact c1 ⟨h1,by rw [hvb,if_neg zO];exact h2⟩),if_pos c2, ← hvb, ← hva, ← hcd]
    rw [← hcd];have hc0:(c !=0)=true:=(by rw [hcd];simpa using c2);refine z3c (α:=Unit) (fun _=>[(1,.p (.c (.ref 0 0))),(2,.p (.c (.ref 6 0))),(4,.p (.c (.ref 7 0))),(6,.p (.c (.ref 9 0))),(7,.p (.c (.ref 10 0))),(8,one (u32V vd)),(9,one (u32V va)),(10,one (u32V vb)),(11,one (u32V (zhz (s.pc+4)))),(12,one (intV c)),(62,one (.bool false))]) (fun _=>memL 0 n p M [.cells stT (L.map .v),.cells outT (Z.map .v),.cells fetT (F.map .v),.cells qiT ((qiL ⟨op,d,a,b,imm⟩).map .v),.cells stT (X.map .v)]) ?_ fun _=>?_
    ·refine z3m ?_
     (conv=>whnf);refine ⟨fun h=>?_,fun h=>?_⟩
     ·conv=>whnf
      refine kA ?_
      have hv0:(vb==0)=false:=by
       have h10:op=10:=(by simpa using h);have:vb≠0:=fun h=>c1 ⟨h10,h⟩
       simpa using this
      rw [hv0];refine kB ?_;exact zb8 () (zkb rfl Tn Tn)
     ·conv=>whnf
      refine kA ?_;exact zb8 () (zkb rfl Tn Tn)
    refine z23 rfl (fun h=>absurd h (by decide)) (fun _=>?_);refine z3i ?_;(conv=>whnf);refine z23 rfl (fun _=>?_) (fun h=>absurd h (by rw [hc0];decide));refine z3m ?_;(conv=>whnf);refine z2t (.q 0 (.q 2 (.q 3 (.q 4 (.q 6 (.alt 1 (.alt 5 (.alt 7 (.alt 8 .done .no) .no) .no) (.alt 5 (.alt 1 (.alt 7 (.alt 8 .done .no) .no) .no) .no))))))) mixed zK zK ?_;(conv=>whnf)
    repeat' (first
     |exact zb4 (zb8 ⟨({s with R:=regU s.R d (yaq c va vb)},zhz (s.pc+4),M),⟨(by dsimp only;first|omega|decide),fun _=>⟨_,_,rfl,hst,fun j _ _=>z88 hs.zero d _ j⟩⟩,hM⟩ (zkb rfl Tn (aI sM (aI sM (aI sM (aI sM (aI sM (aI sM (aI sM (aI sM (aI sM (aI sM (aI ((aI rfl (Or.inl (z6x (s:=s) (R:=s.R) (j:=d) (yaq c va vb) hXc hid.1 hid.2)))) trivial)))))))))))))
     |(refine zfb (x:= .int .u32 (yaq c va vb)) rfl zK (fun r w' hR=>zwz c va vb w' hwa hwb) ?_;(conv=>whnf))
     |(refine ⟨⟨hid.1,hid.2⟩,?_⟩;(conv=>whnf))
     |(erw [zs4 _ hXl (m:=0+1+d.toNat*1+1) zO];(conv=>whnf);erw [zs3 _ hXl zO];(conv=>whnf))
     |(refine ⟨?_,trivial⟩;(conv=>whnf))
     |(refine ⟨?_,?_,trivial⟩<;>(conv=>whnf)))
   have c2:zzu op=0:=Decidable.byContradiction fun h=>c2 h;rw [c2]
   have h3:op=23∨op=24∨op=25∨op=26∨op=27∨(32≤op∧op≤37)∨op=40∨op=41∨op=48∨op=49∨op=50∨op=51∨op=52∨op=53∨op=54:=by
    have h1:=zrj his;have h2:¬((1≤op∧op≤12)∨(16≤op∧op≤22)):=fun h=>zzv.2 h c2;omega
   have hvi:vb=imm:=by rw [hvb,if_pos zO]
   obtain ⟨c,hcd⟩:∃ c:Int,c=0:=⟨_,rfl⟩
   rcases h3 with rfl|rfl|rfl|rfl|rfl|hbr|rfl|rfl|rfl|rfl|rfl|rfl|rfl|rfl|rfl
   ·have hst:z65 ⟨23,d,a,b,imm⟩ s.pc s.R M=(match M.bad ((s.R a+imm)%4294967296) 1 0 4 with|none=>some (updR s.R d (M.load ((s.R a+imm)%4294967296) 0 4),zhz (s.pc+4),M)|some _=>none):=rfl
    rw [← hva] at hst
    obtain ⟨adr,hadr⟩:∃ adr,adr=(va+imm)%4294967296:=⟨_,rfl⟩
    have hadw:word adr:=(by rw [hadr];unfold word;omega);rw [← hadr] at hst
    repeat' (first
     |(refine z23 rfl nF (fun _=>?_))
     |(refine z23 rfl (fun _=>?_) nT)
     |(refine z3i ?_;(conv=>whnf);refine kA ?_))
    refine ⟨adr,(wr32 _).trans hadr.symm,?_⟩;(conv=>whnf);refine ze4 (pre:=[]) (suf:=[one (u32V adr),one (intV ((4:Nat):Int))]) 0 n p M (M.loadV adr 4) (fun i hi=>zt7 i hi) rfl rfl zK (fun w' g gs hk hU=>zul M n p adr 4 w' g gs hU hM hadw zO) ?_;unfold MemP.loadV
    cases hbad:M.bad adr 1 0 4 with
    |some y=>
     rw [hbad] at hst;dsimp only at hst;(conv=>whnf)
     repeat' (first
      |(refine z23 rfl nF (fun _=>?_))
      |(refine z23 rfl (fun _=>?_) nT)
      |(refine z3i ?_;(conv=>whnf);refine kA ?_))
     erw [zh1 hSC.clen];(conv=>whnf);refine ze2 (x:= .agg (L++[intV 5,u32V y]).toArray) (zcx L _ _ rfl rfl) zK (fun r w' hR=>z81 L hSC 5 y w') ?_;rw [zv3];generalize hO:zxl L (.v (intV 5)) (.v (u32V y))=O;have hOl:O.length=26:=(by rw [← hO];exact zxm hSC _ _)
     have hO1:∀ S,zwf S O=true:=fun S=>by rw [← hO];exact zxn hSC S rfl
     (conv=>whnf);erw [zdl hOl];(conv=>whnf);erw [hO1];(conv=>whnf);erw [zdz (by rw [hOl,hZl])];(conv=>whnf);erw [zs3 _ hZl zO];(conv=>whnf);erw [z32 (by rw [hOl,hZl])]
     first
      |(refine z3m ?_;(conv=>whnf);refine zco (zcg ?_) fun a w hq=>hq)
      |(refine zco (zcg ?_) fun a w hq=>hq)
     (conv=>whnf);erw [zh1 hOl];(conv=>whnf);rw [← hO]
     exact zmn (zxo L _ _) rfl (fun i o h=>z7u i o h) (zuc n p M) fun w' h1 h2=>⟨_,M,rfl,by rw [if_pos (by decide),hst];exact ⟨5,y,by decide,fun _=>rfl,by rw [hL];rfl,rfl⟩,hM,h1,h2⟩
    |none=>
     rw [hbad] at hst;dsimp only at hst
     obtain ⟨x,hx⟩:∃ x,x=M.load adr 0 4:=⟨_,rfl⟩
     rw [← hx] at hst⊢;(conv=>whnf)
     repeat' (first
      |(refine z23 rfl nF (fun _=>?_))
      |(refine z23 rfl (fun _=>?_) nT)
      |(refine z3i ?_;(conv=>whnf);refine kA ?_))
     refine z3m ?_;(conv=>whnf);refine ⟨⟨hid.1,hid.2⟩,?_⟩;(conv=>whnf);erw [zs4 _ hXl (m:=0+1+d.toNat*1+1) zO];(conv=>whnf);erw [zs3 _ hXl zO];(conv=>whnf);exact zb4 (zb8 ⟨({s with R:=regU s.R d x},zhz (s.pc+4),M),⟨(by dsimp only;first|omega|decide),fun _=>⟨_,_,rfl,hst,fun j _ _=>z88 hs.zero d _ j⟩⟩,hM⟩ (zj2 Tn (aI sM (aI sM (aI sM (aI sM (aI sM (aI sM (aI sM (aI sM (aI sM (aI sM (aI ((aI rfl (Or.inl (z6x (s:=s) (R:=s.R) (j:=d) x hXc hid.1 hid.2)))) trivial))))))))))) rfl (z69 _ _ _ _ _ _ _ _ _ _ _ _ _ _)))
   ·have hst:z65 ⟨24,d,a,b,imm⟩ s.pc s.R M=(match M.bad ((s.R a+imm)%4294967296) 1 0 1 with|none=>some (updR s.R d (M.load ((s.R a+imm)%4294967296) 0 1),zhz (s.pc+4),M)|some _=>none):=rfl
    rw [← hva] at hst
    obtain ⟨adr,hadr⟩:∃ adr,adr=(va+imm)%4294967296:=⟨_,rfl⟩
    have hadw:word adr:=(by rw [hadr];unfold word;omega);rw [← hadr] at hst
    repeat' (first
     |(refine z23 rfl nF (fun _=>?_))
     |(refine z23 rfl (fun _=>?_) nT)
     |(refine z3i ?_;(conv=>whnf);refine kA ?_))
    refine ⟨adr,(wr32 _).trans hadr.symm,?_⟩;(conv=>whnf);refine ze4 (pre:=[]) (suf:=[one (u32V adr),one (intV ((1:Nat):Int))]) 0 n p M (M.loadV adr 1) (fun i hi=>zt7 i hi) rfl rfl zK (fun w' g gs hk hU=>zul M n p adr 1 w' g gs hU hM hadw zO) ?_;unfold MemP.loadV
    cases hbad:M.bad adr 1 0 1 with
    |some y=>
     rw [hbad] at hst;dsimp only at hst;(conv=>whnf)
     repeat' (first
      |(refine z23 rfl nF (fun _=>?_))
      |(refine z23 rfl (fun _=>?_) nT)
      |(refine z3i ?_;(conv=>whnf);refine kA ?_))
     erw [zh1 hSC.clen];(conv=>whnf);refine ze2 (x:= .agg (L++[intV 5,u32V y]).toArray) (zcx L _ _ rfl rfl) zK (fun r w' hR=>z81 L hSC 5 y w') ?_;rw [zv3];generalize hO:zxl L (.v (intV 5)) (.v (u32V y))=O;have hOl:O.length=26:=(by rw [← hO];exact zxm hSC _ _)
     have hO1:∀ S,zwf S O=true:=fun S=>by rw [← hO];exact zxn hSC S rfl
     (conv=>whnf);erw [zdl hOl];(conv=>whnf);erw [hO1];(conv=>whnf);erw [zdz (by rw [hOl,hZl])];(conv=>whnf);erw [zs3 _ hZl zO];(conv=>whnf);erw [z32 (by rw [hOl,hZl])]
     first
      |(refine z3m ?_;(conv=>whnf);refine zco (zcg ?_) fun a w hq=>hq)
      |(refine zco (zcg ?_) fun a w hq=>hq)
     (conv=>whnf);erw [zh1 hOl];(conv=>whnf);rw [← hO]
     exact zmn (zxo L _ _) rfl (fun i o h=>z7u i o h) (zuc n p M) fun w' h1 h2=>⟨_,M,rfl,by rw [if_pos (by decide),hst];exact ⟨5,y,by decide,fun _=>rfl,by rw [hL];rfl,rfl⟩,hM,h1,h2⟩
    |none=>
     rw [hbad] at hst;dsimp only at hst
     obtain ⟨x,hx⟩:∃ x,x=M.load adr 0 1:=⟨_,rfl⟩
     rw [← hx] at hst⊢;(conv=>whnf)
     repeat' (first
      |(refine z23 rfl nF (fun _=>?_))
      |(refine z23 rfl (fun _=>?_) nT)
      |(refine z3i ?_;(conv=>whnf);refine kA ?_))
     refine z3m ?_;(conv=>whnf);refine ⟨⟨hid.1,hid.2⟩,?_⟩;(conv=>whnf);erw [zs4 _ hXl (m:=0+1+d.toNat*1+1) zO];(conv=>whnf);erw [zs3 _ hXl zO];(conv=>whnf);exact zb4 (zb8 ⟨({s with R:=regU s.R d x},zhz (s.pc+4),M),⟨(by dsimp only;first|omega|decide),fun _=>⟨_,_,rfl,hst,fun j _ _=>z88 hs.zero d _ j⟩⟩,hM⟩ (zj2 Tn (aI sM (aI sM (aI sM (aI sM (aI sM (aI sM (aI sM (aI sM (aI sM (aI sM (aI ((aI rfl (Or.inl (z6x (s:=s) (R:=s.R) (j:=d) x hXc hid.1 hid.2)))) trivial))))))))))) rfl (z69 _ _ _ _ _ _ _ _ _ _ _ _ _ _)))
   ·have hst:z65 ⟨25,d,a,b,imm⟩ s.pc s.R M=(match M.bad ((s.R a+imm)%4294967296) 2 0 4 with|none=>some (s.R,zhz (s.pc+4),M.storeM ((s.R a+imm)%4294967296) 4 (s.R d))|some _=>none):=rfl
    rw [← hva, ← hvd] at hst
    obtain ⟨adr,hadr⟩:∃ adr,adr=(va+imm)%4294967296:=⟨_,rfl⟩
    have hadw:word adr:=(by rw [hadr];unfold word;omega);rw [← hadr] at hst
    repeat' (first
     |(refine z23 rfl nF (fun _=>?_))
     |(refine z23 rfl (fun _=>?_) nT)
     |(refine z3i ?_;(conv=>whnf);refine kA ?_))
    refine ⟨adr,(wr32 _).trans hadr.symm,?_⟩;(conv=>whnf);refine ze5 (pre:=[]) (suf:=[one (u32V adr),one (intV ((4:Nat):Int)),one (u32V vd)]) 0 n p M (M.storeM adr 4 vd) (zf1 (M.bad adr 2 0 4)) (fun i hi=>zt7 i hi) rfl rfl zK (fun w' g gs hk hU=>zuu M n p adr 4 vd w' g gs hU hM hadw zO hwd) ?_
    cases hbad:M.bad adr 2 0 4 with
    |some y=>
     rw [hbad] at hst;dsimp only at hst;have hsm:M.storeM adr 4 vd=M:=(by unfold MemP.storeM;rw [hbad]);rw [hsm];(conv=>whnf)
     repeat' (first
      |(refine z23 rfl nF (fun _=>?_))
      |(refine z23 rfl (fun _=>?_) nT)
      |(refine z3i ?_;(conv=>whnf);refine kA ?_))
     erw [zh1 hSC.clen];(conv=>whnf);refine ze2 (x:= .agg (L++[intV 5,u32V y]).toArray) (zcx L _ _ rfl rfl) zK (fun r w' hR=>z81 L hSC 5 y w') ?_;rw [zv3];generalize hO:zxl L (.v (intV 5)) (.v (u32V y))=O;have hOl:O.length=26:=(by rw [← hO];exact zxm hSC _ _)
     have hO1:∀ S,zwf S O=true:=fun S=>by rw [← hO];exact zxn hSC S rfl
     (conv=>whnf);erw [zdl hOl];(conv=>whnf);erw [hO1];(conv=>whnf);erw [zdz (by rw [hOl,hZl])];(conv=>whnf);erw [zs3 _ hZl zO];(conv=>whnf);erw [z32 (by rw [hOl,hZl])]
     first
      |(refine z3m ?_;(conv=>whnf);refine zco (zcg ?_) fun a w hq=>hq)
      |(refine zco (zcg ?_) fun a w hq=>hq)
     (conv=>whnf);erw [zh1 hOl];(conv=>whnf);rw [← hO]
     exact zmn (zxo L _ _) rfl (fun i o h=>z7u i o h) (zuc n p M) fun w' h1 h2=>⟨_,M,rfl,by rw [if_pos (by decide),hst];exact ⟨5,y,by decide,fun _=>rfl,by rw [hL];rfl,rfl⟩,hM,h1,h2⟩
    |none=>
     rw [hbad] at hst;dsimp only at hst;(conv=>whnf)
     repeat' (first
      |(refine z23 rfl nF (fun _=>?_))
      |(refine z23 rfl (fun _=>?_) nT)
      |(refine z3i ?_;(conv=>whnf);refine kA ?_))
     refine z3j ?_;exact zb4 (zb8 ⟨(s,zhz (s.pc+4),M.storeM adr 4 vd),⟨(by dsimp only;first|omega|decide),fun _=>⟨s.R,_,rfl,hst,fun j _ _=>z2p hs.zero j⟩⟩,(z7m hM adr 4 hwd.1)⟩ (zj2 Tn (aI sM (aI sM (aI sM (aI sM (aI sM (aI sM (aI sM (aI sM (aI sM (aI sM (aI ((aI rfl (Or.inl hXc))) trivial))))))))))) rfl (z69 _ _ _ _ _ _ _ _ _ _ _ _ _ _)))
   ·have hst:z65 ⟨26,d,a,b,imm⟩ s.pc s.R M=(match M.bad ((s.R a+imm)%4294967296) 2 0 1 with|none=>some (s.R,zhz (s.pc+4),M.storeM ((s.R a+imm)%4294967296) 1 (s.R d))|some _=>none):=rfl
    rw [← hva, ← hvd] at hst
    obtain ⟨adr,hadr⟩:∃ adr,adr=(va+imm)%4294967296:=⟨_,rfl⟩
    have hadw:word adr:=(by rw [hadr];unfold word;omega);rw [← hadr] at hst
    repeat' (first
     |(refine z23 rfl nF (fun _=>?_))
     |(refine z23 rfl (fun _=>?_) nT)
     |(refine z3i ?_;(conv=>whnf);refine kA ?_))
    refine ⟨adr,(wr32 _).trans hadr.symm,?_⟩;(conv=>whnf);refine ze5 (pre:=[]) (suf:=[one (u32V adr),one (intV ((1:Nat):Int)),one (u32V vd)]) 0 n p M (M.storeM adr 1 vd) (zf1 (M.bad adr 2 0 1)) (fun i hi=>zt7 i hi) rfl rfl zK (fun w' g gs hk hU=>zuu M n p adr 1 vd w' g gs hU hM hadw zO hwd) ?_
    cases hbad:M.bad adr 2 0 1 with
    |some y=>
     rw [hbad] at hst;dsimp only at hst;have hsm:M.storeM adr 1 vd=M:=(by unfold MemP.storeM;rw [hbad]);rw [hsm];(conv=>whnf)
     repeat' (first
      |(refine z23 rfl nF (fun _=>?_))
      |(refine z23 rfl (fun _=>?_) nT)
      |(refine z3i ?_;(conv=>whnf);refine kA ?_))
     erw [zh1 hSC.clen];(conv=>whnf);refine ze2 (x:= .agg (L++[intV 5,u32V y]).toArray) (zcx L _ _ rfl rfl) zK (fun r w' hR=>z81 L hSC 5 y w') ?_;rw [zv3];generalize hO:zxl L (.v (intV 5)) (.v (u32V y))=O;have hOl:O.length=26:=(by rw [← hO];exact zxm hSC _ _)
     have hO1:∀ S,zwf S O=true:=fun S=>by rw [← hO];exact zxn hSC S rfl
     (conv=>whnf);erw [zdl hOl];(conv=>whnf);erw [hO1];(conv=>whnf);erw [zdz (by rw [hOl,hZl])];(conv=>whnf);erw [zs3 _ hZl zO];(conv=>whnf);erw [z32 (by rw [hOl,hZl])]
     first
      |(refine z3m ?_;(conv=>whnf);refine zco (zcg ?_) fun a w hq=>hq)
      |(refine zco (zcg ?_) fun a w hq=>hq)
     (conv=>whnf);erw [zh1 hOl];(conv=>whnf);rw [← hO]
     exact zmn (zxo L _ _) rfl (fun i o h=>z7u i o h) (zuc n p M) fun w' h1 h2=>⟨_,M,rfl,by rw [if_pos (by decide),hst];exact ⟨5,y,by decide,fun _=>rfl,by rw [hL];rfl,rfl⟩,hM,h1,h2⟩
    |none=>
     rw [hbad] at hst;dsimp only at hst;(conv=>whnf)
     repeat' (first
      |(refine z23 rfl nF (fun _=>?_))
      |(refine z23 rfl (fun _=>?_) nT)
      |(refine z3i ?_;(conv=>whnf);refine kA ?_))
     refine z3j ?_;exact zb4 (zb8 ⟨(s,zhz (s.pc+4),M.storeM adr 1 vd),⟨(by dsimp only;first|omega|decide),fun _=>⟨s.R,_,rfl,hst,fun j _ _=>z2p hs.zero j⟩⟩,(z7m hM adr 1 hwd.1)⟩ (zj2 Tn (aI sM (aI sM (aI sM (aI sM (aI sM (aI sM (aI sM (aI sM (aI sM (aI sM (aI ((aI rfl (Or.inl hXc))) trivial))))))))))) rfl (z69 _ _ _ _ _ _ _ _ _ _ _ _ _ _)))
   ·have hst:z65 ⟨27,d,a,b,imm⟩ s.pc s.R M=some (updR s.R d (zhz (s.pc+4)),(s.R a+imm)%4294967296/4*4,M):=rfl
    rw [← hva] at hst
    obtain ⟨adr,hadr⟩:∃ adr,adr=(va+imm)%4294967296:=⟨_,rfl⟩
    have hadw:0≤adr∧adr<4294967296:=(by omega);rw [← hadr] at hst
    repeat' (first
     |(refine z23 rfl nF (fun _=>?_))
     |(refine z23 rfl (fun _=>?_) nT)
     |(refine z3i ?_;(conv=>whnf);refine kA ?_))
    refine ⟨⟨hid.1,hid.2⟩,?_⟩;(conv=>whnf);erw [zs4 _ hXl (m:=0+1+d.toNat*1+1) zO];(conv=>whnf);erw [zs3 _ hXl zO];(conv=>whnf);refine z3m ?_;(conv=>whnf);refine ⟨adr,(wr32 _).trans hadr.symm,?_⟩;(conv=>whnf);refine ⟨by decide,adr/4,by rw [Int.tdiv_eq_ediv_of_nonneg hadw.1,wr32];omega,?_⟩;(conv=>whnf);refine ⟨adr/4*4,by rw [wr32];omega,?_⟩;(conv=>whnf);exact zb4 (zb8 ⟨({s with R:=regU s.R d (zhz (s.pc+4))},adr/4*4,M),⟨(by dsimp only;first|omega|decide),fun _=>⟨_,_,rfl,hst,fun j _ _=>z88 hs.zero d _ j⟩⟩,hM⟩ (zkb rfl Tn (aI sM (aI sM (aI sM (aI sM (aI sM (aI sM (aI sM (aI sM (aI sM (aI sM (aI ((aI rfl (Or.inl (z6x (s:=s) (R:=s.R) (j:=d) (zhz (s.pc+4)) hXc hid.1 hid.2)))) trivial)))))))))))))
   ·rcases (by omega:op=32∨op=33∨op=34∨op=35∨op=36∨op=37) with rfl|rfl|rfl|rfl|rfl|rfl
    ·have hst:z65 ⟨32,d,a,b,imm⟩ s.pc s.R M=some (s.R,if z8k 32 (s.R d) (s.R a)=true then zhz (s.pc+4*imm) else zhz (s.pc+4),M):=rfl
     rw [← hvd, ← hva] at hst
     repeat' (first
      |(refine z23 rfl nF (fun _=>?_))
      |(refine z23 rfl (fun _=>?_) nT)
      |(refine z3i ?_;(conv=>whnf);refine kA ?_))
     refine ze2 (x:= .bool (z8k 32 vd va)) rfl zK (fun r w' hR=>z8l 32 vd va w' zO hwd hwa) ?_
     cases htk:z8k 32 vd va with
     |true=>
      rw [htk,if_pos rfl] at hst;(conv=>whnf)
      repeat' (first
       |(refine z23 rfl nF (fun _=>?_))
       |(refine z23 rfl (fun _=>?_) nT)
       |(refine z3i ?_;(conv=>whnf);refine kA ?_))
      refine z3m ?_;(conv=>whnf);erw [hX0];(conv=>whnf);refine ⟨(4*imm)%4294967296,wr32 _,?_⟩;(conv=>whnf);refine ⟨zhz (s.pc+4*imm),by rw [wr32];unfold zhz;omega,?_⟩;(conv=>whnf);exact zb4 (zb8 ⟨(s,zhz (s.pc+4*imm),M),⟨(by dsimp only;first|omega|decide),fun _=>⟨s.R,_,rfl,hst,fun j _ _=>z2p hs.zero j⟩⟩,hM⟩ (zkb rfl Tn (aI sM (aI sM (aI sM (aI sM (aI sM (aI sM (aI sM (aI sM (aI sM (aI sM (aI ((aI rfl (Or.inl hXc))) trivial)))))))))))))
     |false=>
      rw [htk,if_neg (by decide)] at hst;(conv=>whnf)
      repeat' (first
       |(refine z23 rfl nF (fun _=>?_))
       |(refine z23 rfl (fun _=>?_) nT)
       |(refine z3i ?_;(conv=>whnf);refine kA ?_))
      refine z3j ?_;exact zb4 (zb8 ⟨(s,zhz (s.pc+4),M),⟨(by dsimp only;first|omega|decide),fun _=>⟨s.R,_,rfl,hst,fun j _ _=>z2p hs.zero j⟩⟩,hM⟩ (zkb rfl Tn (aI sM (aI sM (aI sM (aI sM (aI sM (aI sM (aI sM (aI sM (aI sM (aI sM (aI ((aI rfl (Or.inl hXc))) trivial)))))))))))))
    ·have hst:z65 ⟨33,d,a,b,imm⟩ s.pc s.R M=some (s.R,if z8k 33 (s.R d) (s.R a)=true then zhz (s.pc+4*imm) else zhz (s.pc+4),M):=rfl
     rw [← hvd, ← hva] at hst
     repeat' (first
      |(refine z23 rfl nF (fun _=>?_))
      |(refine z23 rfl (fun _=>?_) nT)
      |(refine z3i ?_;(conv=>whnf);refine kA ?_))
     refine ze2 (x:= .bool (z8k 33 vd va)) rfl zK (fun r w' hR=>z8l 33 vd va w' zO hwd hwa) ?_
     cases htk:z8k 33 vd va with
     |true=>
      rw [htk,if_pos rfl] at hst;(conv=>whnf)
      repeat' (first
       |(refine z23 rfl nF (fun _=>?_))
       |(refine z23 rfl (fun _=>?_) nT)
       |(refine z3i ?_;(conv=>whnf);refine kA ?_))
      refine z3m ?_;(conv=>whnf);erw [hX0];(conv=>whnf);refine ⟨(4*imm)%4294967296,wr32 _,?_⟩;(conv=>whnf);refine ⟨zhz (s.pc+4*imm),by rw [wr32];unfold zhz;omega,?_⟩;(conv=>whnf);exact zb4 (zb8 ⟨(s,zhz (s.pc+4*imm),M),⟨(by dsimp only;first|omega|decide),fun _=>⟨s.R,_,rfl,hst,fun j _ _=>z2p hs.zero j⟩⟩,hM⟩ (zkb rfl Tn (aI sM (aI sM (aI sM (aI sM (aI sM (aI sM (aI sM (aI sM (aI sM (aI sM (aI ((aI rfl (Or.inl hXc))) trivial)))))))))))))
     |false=>
      rw [htk,if_neg (by decide)] at hst;(conv=>whnf)
      repeat' (first
       |(refine z23 rfl nF (fun _=>?_))
       |(refine z23 rfl (fun _=>?_) nT)
       |(refine z3i ?_;(conv=>whnf);refine kA ?_))
      refine z3j ?_;exact zb4 (zb8 ⟨(s,zhz (s.pc+4),M),⟨(by dsimp only;first|omega|decide),fun _=>⟨s.R,_,rfl,hst,fun j _ _=>z2p hs.zero j⟩⟩,hM⟩ (zkb rfl Tn (aI sM (aI sM (aI sM (aI sM (aI sM (aI sM (aI sM (aI sM (aI sM (aI sM (aI ((aI rfl (Or.inl hXc))) trivial)))))))))))))
    ·have hst:z65 ⟨34,d,a,b,imm⟩ s.pc s.R M=some (s.R,if z8k 34 (s.R d) (s.R a)=true then zhz (s.pc+4*imm) else zhz (s.pc+4),M):=rfl
     rw [← hvd, ← hva] at hst
     repeat' (first
      |(refine z23 rfl nF (fun _=>?_))
      |(refine z23 rfl (fun _=>?_) nT)
      |(refine z3i ?_;(conv=>whnf);refine kA ?_))
     refine ze2 (x:= .bool (z8k 34 vd va)) rfl zK (fun r w' hR=>z8l 34 vd va w' zO hwd hwa) ?_
     cases htk:z8k 34 vd va with
     |true=>
      rw [htk,if_pos rfl] at hst;(conv=>whnf)
      repeat' (first
       |(refine z23 rfl nF (fun _=>?_))
       |(refine z23 rfl (fun _=>?_) nT)
       |(refine z3i ?_;(conv=>whnf);refine kA ?_))
      refine z3m ?_;(conv=>whnf);erw [hX0];(conv=>whnf);refine ⟨(4*imm)%4294967296,wr32 _,?_⟩;(conv=>whnf);refine ⟨zhz (s.pc+4*imm),by rw [wr32];unfold zhz;omega,?_⟩;(conv=>whnf);exact zb4 (zb8 ⟨(s,zhz (s.pc+4*imm),M),⟨(by dsimp only;first|omega|decide),fun _=>⟨s.R,_,rfl,hst,fun j _ _=>z2p hs.zero j⟩⟩,hM⟩ (zkb rfl Tn (aI sM (aI sM (aI sM (aI sM (aI sM (aI sM (aI sM (aI sM (aI sM (aI sM (aI ((aI rfl (Or.inl hXc))) trivial)))))))))))))
     |false=>
      rw [htk,if_neg (by decide)] at hst;(conv=>whnf)
      repeat' (first
       |(refine z23 rfl nF (fun _=>?_))
       |(refine z23 rfl (fun _=>?_) nT)
       |(refine z3i ?_;(conv=>whnf);refine kA ?_))
      refine z3j ?_;exact zb4 (zb8 ⟨(s,zhz (s.pc+4),M),⟨(by dsimp only;first|omega|decide),fun _=>⟨s.R,_,rfl,hst,fun j _ _=>z2p hs.zero j⟩⟩,hM⟩ (zkb rfl Tn (aI sM (aI sM (aI sM (aI sM (aI sM (aI sM (aI sM (aI sM (aI sM (aI sM (aI ((aI rfl (Or.inl hXc))) trivial)))))))))))))
    ·have hst:z65 ⟨35,d,a,b,imm⟩ s.pc s.R M=some (s.R,if z8k 35 (s.R d) (s.R a)=true then zhz (s.pc+4*imm) else zhz (s.pc+4),M):=rfl
     rw [← hvd, ← hva] at hst
     repeat' (first
      |(refine z23 rfl nF (fun _=>?_))
      |(refine z23 rfl (fun _=>?_) nT)
      |(refine z3i ?_;(conv=>whnf);refine kA ?_))
     refine ze2 (x:= .bool (z8k 35 vd va)) rfl zK (fun r w' hR=>z8l 35 vd va w' zO hwd hwa) ?_
     cases htk:z8k 35 vd va with
     |true=>
      rw [htk,if_pos rfl] at hst;(conv=>whnf)
      repeat' (first
       |(refine z23 rfl nF (fun _=>?_))
       |(refine z23 rfl (fun _=>?_) nT)
       |(refine z3i ?_;(conv=>whnf);refine kA ?_))
      refine z3m ?_;(conv=>whnf);erw [hX0];(conv=>whnf);refine ⟨(4*imm)%4294967296,wr32 _,?_⟩;(conv=>whnf);refine ⟨zhz (s.pc+4*imm),by rw [wr32];unfold zhz;omega,?_⟩;(conv=>whnf);exact zb4 (zb8 ⟨(s,zhz (s.pc+4*imm),M),⟨(by dsimp only;first|omega|decide),fun _=>⟨s.R,_,rfl,hst,fun j _ _=>z2p hs.zero j⟩⟩,hM⟩ (zkb rfl Tn (aI sM (aI sM (aI sM (aI sM (aI sM (aI sM (aI sM (aI sM (aI sM (aI sM (aI ((aI rfl (Or.inl hXc))) trivial)))))))))))))
     |false=>
      rw [htk,if_neg (by decide)] at hst;(conv=>whnf)
      repeat' (first
       |(refine z23 rfl nF (fun _=>?_))
       |(refine z23 rfl (fun _=>?_) nT)
       |(refine z3i ?_;(conv=>whnf);refine kA ?_))
      refine z3j ?_;exact zb4 (zb8 ⟨(s,zhz (s.pc+4),M),⟨(by dsimp only;first|omega|decide),fun _=>⟨s.R,_,rfl,hst,fun j _ _=>z2p hs.zero j⟩⟩,hM⟩ (zkb rfl Tn (aI sM (aI sM (aI sM (aI sM (aI sM (aI sM (aI sM (aI sM (aI sM (aI sM (aI ((aI rfl (Or.inl hXc))) trivial)))))))))))))
    ·have hst:z65 ⟨36,d,a,b,imm⟩ s.pc s.R M=some (s.R,if z8k 36 (s.R d) (s.R a)=true then zhz (s.pc+4*imm) else zhz (s.pc+4),M):=rfl
     rw [← hvd, ← hva] at hst
     repeat' (first
      |(refine z23 rfl nF (fun _=>?_))
      |(refine z23 rfl (fun _=>?_) nT)
      |(refine z3i ?_;(conv=>whnf);refine kA ?_))
     refine ze2 (x:= .bool (z8k 36 vd va)) rfl zK (fun r w' hR=>z8l 36 vd va w' zO hwd hwa) ?_
     cases htk:z8k 36 vd va with
     |true=>
      rw [htk,if_pos rfl] at hst;(conv=>whnf)
      repeat' (first
       |(refine z23 rfl nF (fun _=>?_))
       |(refine z23 rfl (fun _=>?_) nT)
       |(refine z3i ?_;(conv=>whnf);refine kA ?_))
      refine z3m ?_;(conv=>whnf);erw [hX0];(conv=>whnf);refine ⟨(4*imm)%4294967296,wr32 _,?_⟩;(conv=>whnf);refine ⟨zhz (s.pc+4*imm),by rw [wr32];unfold zhz;omega,?_⟩;(conv=>whnf);exact zb4 (zb8 ⟨(s,zhz (s.pc+4*imm),M),⟨(by dsimp only;first|omega|decide),fun _=>⟨s.R,_,rfl,hst,fun j _ _=>z2p hs.zero j⟩⟩,hM⟩ (zkb rfl Tn (aI sM (aI sM (aI sM (aI sM (aI sM (aI sM (aI sM (aI sM (aI sM (aI sM (aI ((aI rfl (Or.inl hXc))) trivial)))))))))))))
     |false=>
      rw [htk,if_neg (by decide)] at hst;(conv=>whnf)
      repeat' (first
       |(refine z23 rfl nF (fun _=>?_))
       |(refine z23 rfl (fun _=>?_) nT)
       |(refine z3i ?_;(conv=>whnf);refine kA ?_))
      refine z3j ?_;exact zb4 (zb8 ⟨(s,zhz (s.pc+4),M),⟨(by dsimp only;first|omega|decide),fun _=>⟨s.R,_,rfl,hst,fun j _ _=>z2p hs.zero j⟩⟩,hM⟩ (zkb rfl Tn (aI sM (aI sM (aI sM (aI sM (aI sM (aI sM (aI sM (aI sM (aI sM (aI sM (aI ((aI rfl (Or.inl hXc))) trivial)))))))))))))
    ·have hst:z65 ⟨37,d,a,b,imm⟩ s.pc s.R M=some (s.R,if z8k 37 (s.R d) (s.R a)=true then zhz (s.pc+4*imm) else zhz (s.pc+4),M):=rfl
     rw [← hvd, ← hva] at hst
     repeat' (first
      |(refine z23 rfl nF (fun _=>?_))
      |(refine z23 rfl (fun _=>?_) nT)
      |(refine z3i ?_;(conv=>whnf);refine kA ?_))
     refine ze2 (x:= .bool (z8k 37 vd va)) rfl zK (fun r w' hR=>z8l 37 vd va w' zO hwd hwa) ?_
     cases htk:z8k 37 vd va with
     |true=>
      rw [htk,if_pos rfl] at hst;(conv=>whnf)
      repeat' (first
       |(refine z23 rfl nF (fun _=>?_))
       |(refine z23 rfl (fun _=>?_) nT)
       |(refine z3i ?_;(conv=>whnf);refine kA ?_))
      refine z3m ?_;(conv=>whnf);erw [hX0];(conv=>whnf);refine ⟨(4*imm)%4294967296,wr32 _,?_⟩;(conv=>whnf);refine ⟨zhz (s.pc+4*imm),by rw [wr32];unfold zhz;omega,?_⟩;(conv=>whnf);exact zb4 (zb8 ⟨(s,zhz (s.pc+4*imm),M),⟨(by dsimp only;first|omega|decide),fun _=>⟨s.R,_,rfl,hst,fun j _ _=>z2p hs.zero j⟩⟩,hM⟩ (zkb rfl Tn (aI sM (aI sM (aI sM (aI sM (aI sM (aI sM (aI sM (aI sM (aI sM (aI sM (aI ((aI rfl (Or.inl hXc))) trivial)))))))))))))
     |false=>
      rw [htk,if_neg (by decide)] at hst;(conv=>whnf)
      repeat' (first
       |(refine z23 rfl nF (fun _=>?_))
       |(refine z23 rfl (fun _=>?_) nT)
       |(refine z3i ?_;(conv=>whnf);refine kA ?_))
      refine z3j ?_;exact zb4 (zb8 ⟨(s,zhz (s.pc+4),M),⟨(by dsimp only;first|omega|decide),fun _=>⟨s.R,_,rfl,hst,fun j _ _=>z2p hs.zero j⟩⟩,hM⟩ (zkb rfl Tn (aI sM (aI sM (aI sM (aI sM (aI sM (aI sM (aI sM (aI sM (aI sM (aI sM (aI ((aI rfl (Or.inl hXc))) trivial)))))))))))))
   ·have hst:z65 ⟨40,d,a,b,imm⟩ s.pc s.R M=some (updR s.R d (zhz (s.pc+4)),zhz (s.pc+4*imm),M):=rfl
    repeat' (first
     |(refine z23 rfl nF (fun _=>?_))
     |(refine z23 rfl (fun _=>?_) nT)
     |(refine z3i ?_;(conv=>whnf);refine kA ?_))
    refine ⟨⟨hid.1,hid.2⟩,?_⟩;(conv=>whnf);erw [zs4 _ hXl (m:=0+1+d.toNat*1+1) zO];(conv=>whnf);erw [zs3 _ hXl zO];(conv=>whnf)
    obtain ⟨X2,hX2⟩:∃ X2:List Value,X2=stL {s with R:=regU s.R d (zhz (s.pc+4))} []:=⟨_,rfl⟩
    have hX20:(X2.map CV.v)[0]?=some (.v (u32V s.pc)):=(by rw [hX2];rfl);refine z2z (f':=[(4,.p (.c (.ref 7 0))),(6,.p (.c (.ref 9 0))),(7,.p (.c (.ref 10 0))),(11,one (u32V (zhz (s.pc+4))))]) (S':=memL 0 n p M [.cells stT (L.map .v),.cells outT (Z.map .v),.cells fetT (F.map .v),.cells qiT ((qiL ⟨40,d,a,b,imm⟩).map .v),.cells stT (X2.map .v)]) (zkb rfl Tn (aI sM (aI sM (aI sM (aI sM (aI sM (aI sM (aI sM (aI sM (aI sM (aI sM (aI ((aI rfl (Or.inl ((z6x (s:=s) (R:=s.R) (j:=d) (zhz (s.pc+4)) hXc hid.1 hid.2).trans (by rw [hX2]))))) trivial)))))))))))) ?_;refine z3m ?_;(conv=>whnf);erw [hX20];(conv=>whnf);refine ⟨(4*imm)%4294967296,wr32 _,?_⟩;(conv=>whnf);refine ⟨zhz (s.pc+4*imm),by rw [wr32];unfold zhz;omega,?_⟩;(conv=>whnf);exact zb4 (zb8 ⟨({s with R:=regU s.R d (zhz (s.pc+4))},zhz (s.pc+4*imm),M),⟨(by dsimp only;first|omega|decide),fun _=>⟨_,_,rfl,hst,fun j _ _=>z88 hs.zero d _ j⟩⟩,hM⟩ (zkb rfl Tn (aI sM (aI sM (aI sM (aI sM (aI sM (aI sM (aI sM (aI sM (aI sM (aI sM (aI ((aI rfl (Or.inl (by rw [hX2])))) trivial)))))))))))))
   ·have hst:z65 ⟨41,d,a,b,imm⟩ s.pc s.R M=some (updR s.R d (zhz (imm*1024)),zhz (s.pc+4),M):=rfl
    repeat' (first
     |(refine z23 rfl nF (fun _=>?_))
     |(refine z23 rfl (fun _=>?_) nT)
     |(refine z3i ?_;(conv=>whnf);refine kA ?_))
    refine z3m ?_;(conv=>whnf);refine ⟨by decide,zhz (imm*1024),wr32 _,?_⟩;(conv=>whnf);refine ⟨⟨hid.1,hid.2⟩,?_⟩;(conv=>whnf);erw [zs4 _ hXl (m:=0+1+d.toNat*1+1) zO];(conv=>whnf);erw [zs3 _ hXl zO];(conv=>whnf);exact zb4 (zb8 ⟨({s with R:=regU s.R d (zhz (imm*1024))},zhz (s.pc+4),M),⟨(by dsimp only;first|omega|decide),fun _=>⟨_,_,rfl,hst,fun j _ _=>z88 hs.zero d _ j⟩⟩,hM⟩ (zkb rfl Tn (aI sM (aI sM (aI sM (aI sM (aI sM (aI sM (aI sM (aI sM (aI sM (aI sM (aI ((aI rfl (Or.inl (z6x (s:=s) (R:=s.R) (j:=d) (zhz (imm*1024)) hXc hid.1 hid.2)))) trivial)))))))))))))
   ·skip
    repeat' (first
     |(refine z23 rfl nF (fun _=>?_))
     |(refine z23 rfl (fun _=>?_) nT)
     |(refine z3i ?_;(conv=>whnf);refine kA ?_))
    erw [zh1 hSC.clen];(conv=>whnf);refine ze2 (x:= .agg (L++[intV 4,u32V imm]).toArray) (zcx L _ _ rfl rfl) zK (fun r w' hR=>z81 L hSC 4 imm w') ?_;rw [zv3];generalize hO:zxl L (.v (intV 4)) (.v (u32V imm))=O;have hOl:O.length=26:=(by rw [← hO];exact zxm hSC _ _)
    have hO1:∀ S,zwf S O=true:=fun S=>by rw [← hO];exact zxn hSC S rfl
    (conv=>whnf);erw [zdl hOl];(conv=>whnf);erw [hO1];(conv=>whnf);erw [zdz (by rw [hOl,hZl])];(conv=>whnf);erw [zs3 _ hZl zO];(conv=>whnf);erw [z32 (by rw [hOl,hZl])]
    first
     |(refine z3m ?_;(conv=>whnf);refine zco (zcg ?_) fun a w hq=>hq)
     |(refine zco (zcg ?_) fun a w hq=>hq)
    (conv=>whnf);erw [zh1 hOl];(conv=>whnf);rw [← hO]
    exact zmn (zxo L _ _) rfl (fun i o h=>z7u i o h) (zuc n p M) fun w' h1 h2=>⟨_,M,rfl,by rw [if_neg (by decide)];exact ⟨s,4,imm,by rw [hL];rfl,fun _=>⟨rfl,rfl,rfl,rfl⟩⟩,hM,h1,h2⟩
   ·skip
    repeat' (first
     |(refine z23 rfl nF (fun _=>?_))
     |(refine z23 rfl (fun _=>?_) nT)
     |(refine z3i ?_;(conv=>whnf);refine kA ?_))
    erw [zh1 hSC.clen];(conv=>whnf);refine ze2 (x:= .agg (L++[intV 3,u32V 0]).toArray) (zcx L _ _ rfl rfl) zK (fun r w' hR=>z81 L hSC 3 0 w') ?_;rw [zv3];generalize hO:zxl L (.v (intV 3)) (.v (u32V 0))=O;have hOl:O.length=26:=(by rw [← hO];exact zxm hSC _ _)
    have hO1:∀ S,zwf S O=true:=fun S=>by rw [← hO];exact zxn hSC S rfl
    (conv=>whnf);erw [zdl hOl];(conv=>whnf);erw [hO1];(conv=>whnf);erw [zdz (by rw [hOl,hZl])];(conv=>whnf);erw [zs3 _ hZl zO];(conv=>whnf);erw [z32 (by rw [hOl,hZl])]
    first
     |(refine z3m ?_;(conv=>whnf);refine zco (zcg ?_) fun a w hq=>hq)
     |(refine zco (zcg ?_) fun a w hq=>hq)
    (conv=>whnf);erw [zh1 hOl];(conv=>whnf);rw [← hO]
    exact zmn (zxo L _ _) rfl (fun i o h=>z7u i o h) (zuc n p M) fun w' h1 h2=>⟨_,M,rfl,by rw [if_neg (by decide)];exact ⟨s,3,0,by rw [hL];rfl,fun h=>absurd h (by decide)⟩,hM,h1,h2⟩
   ·skip
    repeat' (first
     |(refine z23 rfl nF (fun _=>?_))
     |(refine z23 rfl (fun _=>?_) nT)
     |(refine z3i ?_;(conv=>whnf);refine kA ?_))
    erw [zh1 hSC.clen];(conv=>whnf);refine ze2 (x:= .agg (L++[intV 2,u32V 0]).toArray) (zcx L _ _ rfl rfl) zK (fun r w' hR=>z81 L hSC 2 0 w') ?_;rw [zv3];generalize hO:zxl L (.v (intV 2)) (.v (u32V 0))=O;have hOl:O.length=26:=(by rw [← hO];exact zxm hSC _ _)
    have hO1:∀ S,zwf S O=true:=fun S=>by rw [← hO];exact zxn hSC S rfl
    (conv=>whnf);erw [zdl hOl];(conv=>whnf);erw [hO1];(conv=>whnf);erw [zdz (by rw [hOl,hZl])];(conv=>whnf);erw [zs3 _ hZl zO];(conv=>whnf);erw [z32 (by rw [hOl,hZl])]
    first
     |(refine z3m ?_;(conv=>whnf);refine zco (zcg ?_) fun a w hq=>hq)
     |(refine zco (zcg ?_) fun a w hq=>hq)
    (conv=>whnf);erw [zh1 hOl];(conv=>whnf);rw [← hO]
    exact zmn (zxo L _ _) rfl (fun i o h=>z7u i o h) (zuc n p M) fun w' h1 h2=>⟨_,M,rfl,by rw [if_neg (by decide)];exact ⟨s,2,0,by rw [hL];rfl,fun h=>absurd h (by decide)⟩,hM,h1,h2⟩
   ·skip
    have hC1:(X.map CV.v)[0+18+(1:Int).toNat*1]?=some (.v (u32V s.c1)):=by rw [hX];rfl
    repeat' (first
     |(refine z23 rfl nF (fun _=>?_))
     |(refine z23 rfl (fun _=>?_) nT)
     |(refine z3i ?_;(conv=>whnf);refine kA ?_))
    refine z3m ?_;(conv=>whnf)
    (refine ⟨⟨by omega,by omega⟩,?_⟩;(conv=>whnf))
    erw [hC1];(conv=>whnf);refine ⟨by decide,_,rfl,?_⟩;(conv=>whnf);refine ⟨_,rfl,?_⟩;(conv=>whnf);exact zb4 (zb8 ⟨(s,_,M),⟨(by dsimp only;first|omega|decide),fun h=>Bool.noConfusion (show false=true from h)⟩,hM⟩ (zkb rfl Tn (aI sM (aI sM (aI sM (aI sM (aI sM (aI sM (aI sM (aI sM (aI sM (aI sM (aI ((aI rfl (Or.inl hXc))) trivial)))))))))))))
   ·skip
    repeat' (first
     |(refine z23 rfl nF (fun _=>?_))
     |(refine z23 rfl (fun _=>?_) nT)
     |(refine z3i ?_;(conv=>whnf);refine kA ?_))
    refine ze5 (pre:=[]) (suf:=[one (u32V va)]) 0 n p M (M.syncM va) (.bool (decide (va<(n:Int)))) (fun i hi=>zt7 i hi) rfl rfl zK (fun w' g gs hk hU=>zuv M n p va w' g gs hU hM hwa) ?_
    cases hbo:decide (va<(n:Int)) with
    |false=>
     conv=>whnf
     repeat' (first
      |(refine z23 rfl nF (fun _=>?_))
      |(refine z23 rfl (fun _=>?_) nT)
      |(refine z3i ?_;(conv=>whnf);refine kA ?_))
     erw [zh1 hSC.clen];(conv=>whnf);refine ze2 (x:= .agg (L++[intV 5,u32V va]).toArray) (zcx L _ _ rfl rfl) zK (fun r w' hR=>z81 L hSC 5 va w') ?_;rw [zv3];generalize hO:zxl L (.v (intV 5)) (.v (u32V va))=O;have hOl:O.length=26:=(by rw [← hO];exact zxm hSC _ _)
     have hO1:∀ S,zwf S O=true:=fun S=>by rw [← hO];exact zxn hSC S rfl
     (conv=>whnf);erw [zdl hOl];(conv=>whnf);erw [hO1];(conv=>whnf);erw [zdz (by rw [hOl,hZl])];(conv=>whnf);erw [zs3 _ hZl zO];(conv=>whnf);erw [z32 (by rw [hOl,hZl])]
     first
      |(refine z3m ?_;(conv=>whnf);refine zco (zcg ?_) fun a w hq=>hq)
      |(refine zco (zcg ?_) fun a w hq=>hq)
     (conv=>whnf);erw [zh1 hOl];(conv=>whnf);rw [← hO]
     exact zmn (zxo L _ _) rfl (fun i o h=>z7u i o h) (zuc n p (M.syncM va)) fun w' h1 h2=>⟨_,(M.syncM va),rfl,by rw [if_neg (by decide)];exact ⟨s,5,va,by rw [hL];rfl,fun h=>absurd h (by decide)⟩,z7x hM va,h1,h2⟩
    |true=>
     conv=>whnf
     repeat' (first
      |(refine z23 rfl nF (fun _=>?_))
      |(refine z23 rfl (fun _=>?_) nT)
      |(refine z3i ?_;(conv=>whnf);refine kA ?_))
     refine z3j ?_;exact zb4 (zb8 ⟨(s,zhz (s.pc+4),M.syncM va),⟨(by dsimp only;first|omega|decide),fun h=>Bool.noConfusion (show false=true from h)⟩,z7x hM va⟩ (zkb rfl Tn (aI sM (aI sM (aI sM (aI sM (aI sM (aI sM (aI sM (aI sM (aI sM (aI sM (aI ((aI rfl (Or.inl hXc))) trivial)))))))))))))
   ·obtain ⟨hi0,hi3⟩:0≤imm∧imm≤3:=⟨himm.1,z00 hr⟩
    obtain ⟨cc,hCC⟩:∃ cc,(X.map CV.v)[0+18+imm.toNat*1]?=some (.v (u32V cc)):=by
     rw [hX];rcases (by omega:imm=0∨imm=1∨imm=2∨imm=3) with rfl|rfl|rfl|rfl
     ·exact ⟨s.c0,rfl⟩
     ·exact ⟨s.c1,rfl⟩
     ·exact ⟨s.c2,rfl⟩
     ·exact ⟨s.c3,rfl⟩
    repeat' (first
     |(refine z23 rfl nF (fun _=>?_))
     |(refine z23 rfl (fun _=>?_) nT)
     |(refine z3i ?_;(conv=>whnf);refine kA ?_))
    refine z3m ?_;refine z2t (.q 0 (.q 2 (.q 4 (.q 7 (.alt 1 (.alt 3 (.alt 5 (.alt 6 (.alt 8 (.alt 9 .done .no) .no) .no) .no) .no) (.alt 3 (.alt 1 (.alt 5 (.alt 6 (.alt 8 (.alt 9 .done .no) .no) .no) .no) (.alt 5 (.alt 1 (.alt 6 (.alt 8 (.alt 9 .done .no) .no) .no) (.alt 6 (.alt 1 (.alt 8 (.alt 9 .done .no) .no) .no) .no)) .no)) .no)))))) mixed zK zK ?_;(conv=>whnf)
    repeat' (first
     |exact zb4 (zb8 ⟨({s with R:=regU s.R d cc},zhz (s.pc+4),M),⟨(by dsimp only;first|omega|decide),fun h=>Bool.noConfusion (show false=true from h)⟩,hM⟩ (zkb rfl Tn (aI sM (aI sM (aI sM (aI sM (aI sM (aI sM (aI sM (aI sM (aI sM (aI sM (aI ((aI rfl (Or.inl (z6x (s:=s) (R:=s.R) (j:=d) cc hXc hid.1 hid.2)))) trivial)))))))))))))
     |(refine ⟨⟨hid.1,hid.2⟩,?_⟩;(conv=>whnf))
     |(refine ⟨⟨hi0,by show imm<4;omega⟩,?_⟩;(conv=>whnf))
     |(erw [hCC];(conv=>whnf))
     |(erw [zs4 _ hXl (m:=0+1+d.toNat*1+1) zO];(conv=>whnf);erw [zs3 _ hXl zO];(conv=>whnf))
     |(refine ⟨?_,trivial⟩;(conv=>whnf))
     |(refine ⟨?_,?_,trivial⟩<;>(conv=>whnf)))
   ·by_cases h4:imm=4
    ·subst h4
     repeat' (first
      |(refine z23 rfl nF (fun _=>?_))
      |(refine z23 rfl (fun _=>?_) nT)
      |(refine z3i ?_;(conv=>whnf);refine kA ?_))
     erw [zs4 _ hXl (m:=0+23+1) zO];(conv=>whnf);erw [zs3 _ hXl zO];(conv=>whnf)
     obtain ⟨X2,hX2⟩:∃ X2:List Value,X2=stL {s with due:=0} []:=⟨_,rfl⟩
     have hX2s:(X2.map CV.v)[0+22]?=some (.v (intV s.steps)):=(by rw [hX2];rfl);have hX2l:(X2.map CV.v).length=24:=(by rw [hX2];rfl);refine z2z (f':=[(4,.p (.c (.ref 7 0))),(6,.p (.c (.ref 9 0))),(7,.p (.c (.ref 10 0))),(9,one (u32V va)),(11,one (u32V (zhz (s.pc+4))))]) (S':=memL 0 n p M [.cells stT (L.map .v),.cells outT (Z.map .v),.cells fetT (F.map .v),.cells qiT ((qiL ⟨54,d,a,b,4⟩).map .v),.cells stT (X2.map .v)]) (zkb rfl Tn (aI sM (aI sM (aI sM (aI sM (aI sM (aI sM (aI sM (aI sM (aI sM (aI sM (aI ((aI rfl (Or.inl (by rw [hX2,hX];rfl)))) trivial)))))))))))) ?_;refine z3i ?_;(conv=>whnf);refine z23 rfl (fun h=>?_) (fun h=>?_)
     ·refine z3m ?_
      (conv=>whnf);erw [hX2s];(conv=>whnf);refine ⟨_,rfl,?_⟩;(conv=>whnf);refine ⟨_,rfl,?_⟩;(conv=>whnf);refine ⟨_,rfl,?_⟩;(conv=>whnf);erw [zs4 _ hX2l (m:=0+23+1) zO];(conv=>whnf);erw [zs3 _ hX2l zO];(conv=>whnf);exact zb4 (zb8 ⟨({s with due:=IntKind.i64.wrap (IntKind.i64.wrap (s.steps+1)+IntKind.i64.wrap va)},zhz (s.pc+4),M),⟨(by dsimp only;first|omega|decide),fun h=>Bool.noConfusion (show false=true from h)⟩,hM⟩ (zkb rfl Tn (aI sM (aI sM (aI sM (aI sM (aI sM (aI sM (aI sM (aI sM (aI sM (aI sM (aI ((aI rfl (Or.inl (by rw [hX2];rfl)))) trivial)))))))))))))
     ·refine z3j ?_
      exact zb4 (zb8 ⟨({s with due:=0},zhz (s.pc+4),M),⟨(by dsimp only;first|omega|decide),fun h=>Bool.noConfusion (show false=true from h)⟩,hM⟩ (zkb rfl Tn (aI sM (aI sM (aI sM (aI sM (aI sM (aI sM (aI sM (aI sM (aI sM (aI sM (aI ((aI rfl (Or.inl (by rw [hX2])))) trivial)))))))))))))
    ·skip
     repeat' (first
      |(refine z23 rfl nF (fun _=>?_))
      |(refine z23 rfl (fun _=>?_) nT)
      |(refine z3i ?_;(conv=>whnf);refine kA ?_))
     refine z23 rfl (fun h=>absurd h (by simpa using h4)) (fun _=>?_)
     repeat' (first
      |(refine z23 rfl nF (fun _=>?_))
      |(refine z23 rfl (fun _=>?_) nT)
      |(refine z3i ?_;(conv=>whnf);refine kA ?_))
     by_cases h2:imm<2
     ·refine z23 rfl (fun _=>?_) (fun h=>absurd h (by simpa using h2))
      have hi0:0≤imm:=himm.1;rcases (by omega:imm=0∨imm=1) with rfl|rfl
      ·refine z3m ?_
       (conv=>whnf);refine ⟨⟨by show (0:Int)≤0;decide,by show (0:Int)<4;decide⟩,?_⟩;(conv=>whnf);erw [zs4 _ hXl (m:=0+18+(0:Int).toNat*1+1) (by show 0+18+0*1+1≤24;omega)];(conv=>whnf);erw [zs3 _ hXl zO];(conv=>whnf);exact zb4 (zb8 ⟨({s with c0:=va},zhz (s.pc+4),M),⟨(by dsimp only;first|omega|decide),fun h=>Bool.noConfusion (show false=true from h)⟩,hM⟩ (zkb rfl Tn (aI sM (aI sM (aI sM (aI sM (aI sM (aI sM (aI sM (aI sM (aI sM (aI sM (aI ((aI rfl (Or.inl (by rw [hX];rfl)))) trivial)))))))))))))
      ·refine z3m ?_
       (conv=>whnf);refine ⟨⟨by show (0:Int)≤1;decide,by show (1:Int)<4;decide⟩,?_⟩;(conv=>whnf);erw [zs4 _ hXl (m:=0+18+(1:Int).toNat*1+1) (by show 0+18+1*1+1≤24;omega)];(conv=>whnf);erw [zs3 _ hXl zO];(conv=>whnf);exact zb4 (zb8 ⟨({s with c1:=va},zhz (s.pc+4),M),⟨(by dsimp only;first|omega|decide),fun h=>Bool.noConfusion (show false=true from h)⟩,hM⟩ (zkb rfl Tn (aI sM (aI sM (aI sM (aI sM (aI sM (aI sM (aI sM (aI sM (aI sM (aI sM (aI ((aI rfl (Or.inl (by rw [hX];rfl)))) trivial)))))))))))))
     ·refine z23 rfl (fun h=>absurd h (by simpa using h2)) (fun _=>?_)
      refine z3j ?_;exact zb4 (zb8 ⟨(s,zhz (s.pc+4),M),⟨(by dsimp only;first|omega|decide),fun h=>Bool.noConfusion (show false=true from h)⟩,hM⟩ (zkb rfl Tn (aI sM (aI sM (aI sM (aI sM (aI sM (aI sM (aI sM (aI sM (aI sM (aI sM (aI ((aI rfl (Or.inl hXc))) trivial)))))))))))))
  obtain ⟨⟨y,nx,M2⟩,hy,hM2⟩:=y;dsimp only at hy hM2⊢;clear hXl hXc hreg hX0 hX X
  obtain ⟨X,hX⟩:∃ X:List Value,X=stL y []:=⟨_,rfl⟩
  rw [← hX];have hXl:(X.map CV.v).length=24:=(by rw [hX];rfl);have hXc:X.map CV.v=stC y []:=(by rw [hX]);have sl:∀ (z:St),True:=fun _=>trivial;refine z3c (α:={X:List Value//X=stL {y with R:=regU y.R 0 0} []}) (fun _=>[(4,.p (.c (.ref 7 0))),(7,.p (.c (.ref 10 0))),(11,one (u32V nx))]) (fun x=>memL 0 n p M2 [.cells stT (L.map .v),.cells outT (Z.map .v),.cells fetT (F.map .v),.cells qiT ((qiL ⟨op,d,a,b,imm⟩).map .v),.cells stT (x.1.map .v)]) ?_ fun x=>?_
  ·refine z3m ?_
   conv=>whnf
   (refine ⟨⟨by omega,by omega⟩,?_⟩;(conv=>whnf))
   erw [zs4 _ hXl (m:=0+1+(0:Int).toNat*1+1) (by decide)];(conv=>whnf);erw [zs3 _ hXl zO];(conv=>whnf);exact zb8 ⟨_,rfl⟩ (zkb rfl Tn (aI sM (aI sM (aI sM (aI sM (aI sM (aI sM (aI sM (aI sM (aI sM (aI sM (aI ((aI rfl (Or.inl (z6x (s:=y) (R:=y.R) (j:=0) 0 hXc zO zO)))) trivial))))))))))))
  clear hXl hXc hX X;obtain ⟨X,hX⟩:=x;dsimp only;have hXl:(X.map CV.v).length=24:=(by rw [hX];rfl);refine z3c (α:={X:List Value//X=stL {y with R:=regU y.R 0 0,pc:=nx} []}) (fun _=>[(4,.p (.c (.ref 7 0))),(7,.p (.c (.ref 10 0)))]) (fun x=>memL 0 n p M2 [.cells stT (L.map .v),.cells outT (Z.map .v),.cells fetT (F.map .v),.cells qiT ((qiL ⟨op,d,a,b,imm⟩).map .v),.cells stT (x.1.map .v)]) ?_ fun x=>?_
  ·refine z3m ?_
   (conv=>whnf);erw [zs4 _ hXl (m:=0+0+1) (by decide)];(conv=>whnf);erw [zs3 _ hXl zO];(conv=>whnf);exact zb8 ⟨_,rfl⟩ (zkb rfl Tn (aI sM (aI sM (aI sM (aI sM (aI sM (aI sM (aI sM (aI sM (aI sM (aI sM (aI ((aI rfl (Or.inl (by rw [hX];rfl)))) trivial))))))))))))
  clear hXl hX X;obtain ⟨X,hX⟩:=x;dsimp only;have hXl:(X.map CV.v).length=24:=(by rw [hX];rfl);have hXs:(X.map CV.v)[0+22]?=some (.v (intV y.steps)):=(by rw [hX];rfl);refine z3c (α:={X:List Value//X=stL {y with R:=regU y.R 0 0,pc:=nx,steps:=IntKind.i64.wrap (y.steps+1)} []}) (fun _=>[(4,.p (.c (.ref 7 0))),(7,.p (.c (.ref 10 0)))]) (fun x=>memL 0 n p M2 [.cells stT (L.map .v),.cells outT (Z.map .v),.cells fetT (F.map .v),.cells qiT ((qiL ⟨op,d,a,b,imm⟩).map .v),.cells stT (x.1.map .v)]) ?_ fun x=>?_
  ·refine z3m ?_
   (conv=>whnf);erw [hXs];(conv=>whnf);refine ⟨_,rfl,?_⟩;(conv=>whnf);erw [zs4 _ hXl (m:=0+22+1) zO];(conv=>whnf);erw [zs3 _ hXl zO];(conv=>whnf);exact zb8 ⟨_,rfl⟩ (zkb rfl Tn (aI sM (aI sM (aI sM (aI sM (aI sM (aI sM (aI sM (aI sM (aI sM (aI sM (aI ((aI rfl (Or.inl (by rw [hX];rfl)))) trivial))))))))))))
  clear hXl hXs hX X;obtain ⟨X,hX⟩:=x;dsimp only;have hSX:StC X:=(by rw [hX];exact z6w _);refine z3m ?_;(conv=>whnf);erw [zh1 hSX.clen];(conv=>whnf);refine zmf (zxl X (.v (intV 0)) (.v (u32V 0))) (zmh (Z:=stC ⟨0,fun _=>0,0,0,0,0,0,0,0⟩ []) hSX rfl rfl rfl) ?_;generalize hO:zxl X (.v (intV 0)) (.v (u32V 0))=O;have hOl:O.length=26:=(by rw [← hO];exact zxm hSX _ _)
  have hO1:∀ S,zwf S O=true:=fun S=>by rw [← hO];exact zxn hSX S rfl
  (conv=>whnf);erw [zdl hOl];(conv=>whnf);erw [hO1];(conv=>whnf);erw [zdz (by rw [hOl,hZl])];(conv=>whnf);erw [zs3 _ hZl zO];(conv=>whnf);erw [z32 (by rw [hOl,hZl])];refine zcg ?_;(conv=>whnf);erw [zh1 hOl];(conv=>whnf);rw [← hO]
  refine zmn (zxo X _ _) rfl (fun i o h=>z7u i o h) (zuc n p M2) fun w' h1 h2=>⟨_,M2,rfl,?_,hM2,h1,h2⟩
  by_cases hsim:z5g op=true
  ·rw [if_pos hsim]
   obtain ⟨R1,R',hy1,hst,hrr⟩:=hy.2 hsim;rw [hst];refine ⟨?_,rfl⟩;rw [hX,hy1];have hcg:=z6y (s:={s with pc:=nx,steps:=s.steps+1}) (R:=regU R1 0 0) (R':=R') hrr [intV 0,u32V 0];have hst2:=hs.steps;show Value.agg (stL {s with pc:=nx,R:=regU R1 0 0,steps:=IntKind.i64.wrap (s.steps+1)} [intV 0,u32V 0]).toArray=_;rw [show IntKind.i64.wrap (s.steps+1)=s.steps+1 from wr64 zO];exact congrArg (fun l:List Value=>Value.agg l.toArray) hcg
  ·rw [if_neg hsim]
   exact ⟨_,0,0,by rw [hX];rfl,fun h=>absurd h hy.1⟩
end Go.Proofs.YtocafomnnkmjfaaGreat
