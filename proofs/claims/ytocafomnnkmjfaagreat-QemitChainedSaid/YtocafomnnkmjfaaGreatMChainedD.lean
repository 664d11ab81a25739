import Derived.Test.YtocafomnnkmjfaaGreatMChainedC
namespace Go.Proofs.YtocafomnnkmjfaaGreat
open Go.RowKit
def ybv (E:Em) (G n p:Nat) (F:Int→Option QI) (B:Int) (k:Nat) (l:List It) (out:Outc) (vs':List Int) (g' M1:MemP) (R:Int→Int) (M:MemP) (j:Nat):Prop:=
 ∃ it R' M',l[j]?=some it∧Ex F B k R M (k+j) R' M' l.length∧RelE E G n p 0 vs' g' M1 R' M'∧
  ((out.leaves=true∧∃ κ,it.s=some (skIn E κ out.index)∧((κ=2∧it=zq1 (skIn E 2 out.index))∨(κ=3∧zls it.i R' M')))∨
   (out.leaves=false∧(∀ v,0≤v→v<19→M'.load (cxE G v) 0 4=getV vs' v)∧(it=zq1 ⟨4,0,out.pc,0,0⟩∨(it=zq1 ⟨6,0,E.pred,0,12⟩∧out.pc=E.pred)∨(it=zq1 ⟨5,0,0,0,0⟩∧out.pc≠E.pred∧M'.load (cxE G 19) 0 4=out.pc))))
theorem yc9 {E:Em} {G n p:Nat} {g M1 M M':MemP} {R R1:Int→Int} {F:Int→Option QI} {B:Int} {k j:Nat} {l m:List It} {out:Outc} {vs':List Int} (e:Ex F B k R M (k+l.length) R1 M' l.length) (h:ybv E G n p F B (k+l.length) m out vs' g M1 R1 M' j):ybv E G n p F B k (l++m) out vs' g M1 R M (l.length+j):=by
 obtain ⟨it,R',M2,q1,q2,q3⟩:=h;refine ⟨it,R',M2,by rw [zoj];exact q1,?_,q3⟩;rw [← Nat.add_assoc,List.length_append];exact e.trans q2
theorem yb5 {l:List It} {j:Nat} {it:It} (h:l[j]?=some it):j<l.length:=(List.getElem?_eq_some_iff.1 h).1
theorem yd5 {E:Em} {k:Int} {o:BOp} (h:o.code=25):cntI 4 (zn2 E k o)=0:=by
 have e:zn2 E k o=rdE E o.a 10++([i3 1 10 (rrE E o.a 10) 0]++(svE E++([iI 25 10 15 76]++(con2 11 E.pred++[iI 33 10 11 2,zq1 ⟨6,0,E.pred,0,12⟩,zq1 ⟨5,0,0,0,0⟩])))):=by
  unfold zn2;rw [h]
  rfl
 rw [e,ycx,ycx,ycx,ycx,ycx,yc4 (zve E (E:=E) _ _),yc2 rfl,show cntI 4 (svE E)=0 from yc4 (zvf E (E:=E) 19),yc4 (zu9 (E:=E) _ _)]
 rfl
theorem yda {E:Em} {G n p:Nat} {M1:MemP} {F:Int→Option QI} {B:Int} (hA:AlOk E.a) (hB:0≤B∧B≤4000000000) (hpw:word E.pred) (hsz:E.size=256*(G:Int)) (hG:1≤G) (ats:List Int):
  ∀ (l:List BOp) (s s':Ck) (i:Int) (vs:List Int) (g:MemP) (R:Int→Int) (M:MemP) (k:Nat),l≠[]→zga s l=some s'→(∀ o∈l,o.ok∧(0≤writes o→E.written.testBit (writes o).toNat=true))→RelE E G n p s.written vs g M1 R M→Cd F B k (zgo E i l)→
  ∃ vs' j,(zkx ats l i vs g).out.vars=zpg vs'∧VarsOk vs'∧ybv E G n p F B k (zgo E i l) (zkx ats l i vs g).out vs' (zkx ats l i vs g).mem M1 R M j∧ybz E l i vs g j
 |[],_,_,_,_,_,_,_,_,h,_,_,_,_=>absurd rfl h
 |o::l,s,s',i,vs,g,R,M,k,_,hck,hall,hrel,hc=>by
  have hc':Cd F B k (zn2 E (ztx o i) o++zgo E (ztx o i) l):=hc;show ∃ vs' j,_∧_∧ybv E G n p F B k (zn2 E (ztx o i) o++zgo E (ztx o i) l) _ _ _ _ _ _ j∧_;obtain ⟨y,s1,hnx,hck⟩:=zgc hck;obtain ⟨hf,hend,hcs⟩:=zf8 hnx;obtain ⟨hook,hwr⟩:=hall o (List.mem_cons_self ..);have hall':∀ q∈l,q.ok∧(0≤writes q→E.written.testBit (writes q).toNat=true):=fun q hq=>hall q (List.mem_cons_of_mem _ hq)
  have hlne:zju o.code=false→l≠[]:=fun he hl=>by subst hl;rw [he] at hend;cases hend
  rcases hcs with ⟨c20,hw0⟩|⟨c20,hrd,hW0⟩
  ·have hap:=zbx (.inl c20) vs g
   have hev:zkx ats (o::l) i vs g=zkx ats l (ztx o i) vs g:=by
    rw [zkz zO zO (by rw [hap]),hap]
   have hfr:zn2 E (ztx o i) o=[]:=by
    unfold zn2;rw [if_neg zO,if_neg zO,if_neg zO,if_neg zO,if_neg zO,if_neg zO,if_neg zO,if_neg zO,if_neg zO,if_neg zO,if_neg zO]
   rw [hfr,List.nil_append] at hc';obtain ⟨vs',j,h1,h2,h3,h4⟩:=yda hA hB hpw hsz hG ats l s1 s' (ztx o i) vs g R M k (hlne (by unfold zju;simp;omega)) hck hall' (by rw [hw0];exact hrel.weak fun v hv=>zsy hv) hc';rw [hev,hfr,List.nil_append];refine ⟨vs',j,h1,h2,h3,?_⟩;unfold ybz;rw [if_neg zO,if_neg zO,if_pos (by rw [hap]),hfr,hap];exact ⟨j,by simp,h4⟩
  ·have hW:s1.written=zu3 s.written (writes o):=hW0
   have hoe:OpE E s.written o:=⟨hook,hf,fun v hv=>by
    have h1:=List.all_eq_true.1 hrd v hv;obtain ⟨v0,v1⟩:=z1b hf v hv;unfold z0u at h1;simp only [Bool.or_eq_true,decide_eq_true_eq] at h1
    exact ⟨v0,v1,z08 hf hv,h1⟩,hwr⟩
   have hmk:ztx o i=i:=(by unfold ztx;rw [if_neg c20]);by_cases cx:o.code=24∨(o.code=23∧getV vs o.a≠0)
   ·rw [zky cx]
    obtain ⟨j,it,R',M',q1,q2,q3,q4,q5⟩:=zn5 hrel hA hB hoe cx _ hc'.left;have hj:=yb5 q1
    have h56:∀ c:Int,(c=5∨c=6)→cntI c (zn2 E (ztx o i) o)=0:=fun c hc=>by rw [yc0 zO,if_neg zO]
    have q6:it=zq1 ⟨4,0,o.n,0,0⟩:=by
     rcases q5 with h|⟨h,_⟩|⟨h,_⟩
     ·exact h
     ·have:=yc6 (c:=6) q1 (by rw [h];rfl) rfl;have:=h56 6 (.inr rfl);omega
     ·have:=yc6 (c:=5) q1 (by rw [h];rfl) rfl;have:=h56 5 (.inl rfl);omega
    refine ⟨vs,j,rfl,hrel.vars,⟨it,R',M',by rw [List.getElem?_append_left hj];exact q1,q2.mono (by rw [List.length_append];omega),q3,.inr ⟨rfl,q4,q5⟩⟩,?_⟩;unfold ybz;rw [if_pos cx];exact ⟨it,_,q1,by rw [q6];rfl,rfl⟩
   by_cases cv:o.code=25
   ·rw [zk3 cv]
    obtain ⟨j,it,R',M',q1,q2,q3,q4,q5⟩:=zoe hrel hA hB hpw hoe cv _ hc'.left;have hj:=yb5 q1;refine ⟨vs,j,rfl,hrel.vars,⟨it,R',M',by rw [List.getElem?_append_left hj];exact q1,q2.mono (by rw [List.length_append];omega),q3,.inr ⟨rfl,q4,q5⟩⟩,?_⟩;unfold ybz;rw [if_neg cx,if_pos cv];rcases q5 with h|⟨h,h1⟩|⟨h,h1,_⟩
    ·have:=yc6 (c:=4) q1 (by rw [h];rfl) rfl
     have:=yd5 (E:=E) (k:=ztx o i) cv;omega
    ·exact ⟨it,_,q1,by rw [h];rfl,by rw [if_pos h1]⟩
    ·exact ⟨it,_,q1,by rw [h];rfl,by rw [if_neg h1]⟩
   rw [hmk] at hc'⊢
   have go:∀ (hst:(zbr o vs g).stays=true),(∃ R' M',Ex F B k R M (k+(zn2 E i o).length) R' M' (zn2 E i o).length∧RelE E G n p (zu3 s.written (writes o)) (zbr o vs g).vs (zbr o vs g).mem M1 R' M')→l≠[]→
     ∃ vs' j,(zkx ats (o::l) i vs g).out.vars=zpg vs'∧VarsOk vs'∧ybv E G n p F B k (zn2 E i o++zgo E i l) (zkx ats (o::l) i vs g).out vs' (zkx ats (o::l) i vs g).mem M1 R M j∧ybz E (o::l) i vs g j:=by
    intro hst ⟨R',M',e,r⟩ hl;rw [zkz cx cv hst,hmk];rw [← hW] at r;obtain ⟨vs',j,h1,h2,h3,h4⟩:=yda hA hB hpw hsz hG ats l s1 s' i _ _ R' M' _ hl hck hall' r hc'.right;refine ⟨vs',_,h1,h2,yc9 e h3,?_⟩;unfold ybz;rw [if_neg cx,if_neg cv,if_pos hst,hmk];exact ⟨j,rfl,h4⟩
   have lv:∀ (hst:(zbr o vs g).stays=false) (κ:Int),κ=(if 16≤o.code∧o.code≤19∧(getV vs o.a+o.n)%4294967296+szE o.code≤E.size then 3 else 2)→zah E G n p F B k (zn2 E i o) i κ s.written vs (zbr o vs g).mem M1 R M→
     ∃ vs' j,(zkx ats (o::l) i vs g).out.vars=zpg vs'∧VarsOk vs'∧ybv E G n p F B k (zn2 E i o++zgo E i l) (zkx ats (o::l) i vs g).out vs' (zkx ats (o::l) i vs g).mem M1 R M j∧ybz E (o::l) i vs g j:=by
    intro hst κ hκ ⟨j,it,R',M',q1,q2,q3,q4,q5⟩;have hj:=yb5 q1;rw [zk0 cx cv hst,hmk];refine ⟨vs,j,rfl,hrel.vars,⟨it,R',M',by rw [List.getElem?_append_left hj];exact q1,q2.mono (by rw [List.length_append];omega),q3.weak fun v hv=>zsy hv,.inl ⟨rfl,κ,q4,q5⟩⟩,?_⟩;unfold ybz;rw [if_neg cx,if_neg cv,if_neg (by rw [hst];decide),hmk];exact ⟨it,_,q1,q4,hκ⟩
   have hops:(1≤o.code∧o.code≤25):=by
    have:=(zn0.1 hf).1;unfold isOp at this;rw [decide_eq_true_eq] at this;omega
   by_cases cp:o.code≤15
   ·obtain ⟨R',M',e,r,hst,hm⟩:=zob hrel hA hB hoe ⟨hops.1,cp⟩ i hc'.left
    refine go hst ⟨R',M',e,?_⟩ (hlne (by unfold zju;simp;omega));rw [hm,(hoe.d (zpp zO)).2.2.2];exact r
   by_cases cm:o.code≤19
   ·obtain ⟨h1,h2⟩:=zn8 hrel hA hB hsz hG hoe ⟨by omega,cm⟩ i hc'.left
    cases hst:(zbr o vs g).stays with
    |true=>exact go hst (h1 hst) (hlne (by unfold zju;simp;omega))
    |false=>
     refine lv hst _ ?_ (h2 hst);rw [hsz];by_cases hle:(getV vs o.a+o.n)%4294967296+szE o.code≤256*(G:Int)
     ·rw [if_pos hle,if_pos ⟨by omega,cm,hle⟩]
     ·rw [if_neg hle,if_neg fun h=>hle h.2.2]
   have hwn:writes o= -1:=(by unfold writes;rw [show hasD o.code=false by unfold hasD;rw [decide_eq_false_iff_not];omega];rfl);have hnw:zu3 s.written (writes o)=s.written:=(by unfold zu3;rw [hwn,if_neg zO]);by_cases c21:o.code=21
   ·obtain ⟨h1,h2⟩:=zn7 hrel hA hB hoe c21 i hc'.left
    have hap:=zbu c21 vs g;by_cases hz:getV vs o.a=0
    ·refine lv (by rw [hap];simpa using hz) 2 (by rw [if_neg zO]) ?_
     rw [hap];exact h2 hz
    ·obtain ⟨R',e,r⟩:=h1 hz
     refine go (by rw [hap];simpa using hz) ⟨R',M,e,?_⟩ (hlne (by unfold zju;simp;omega));rw [hap,hnw];exact r
   by_cases c22:o.code=22
   ·have hap:zbr o vs g=⟨vs,false,g⟩:=by
     unfold zbr;rw [if_neg zO,if_neg zO,if_neg zO,if_neg zO,if_neg zO,if_pos c22]
    have hfr:zn2 E i o=[zq1 (skIn E 2 i)]:=by
     unfold zn2;rw [if_neg zO,if_neg zO,if_neg zO,if_neg zO,if_neg zO,if_neg zO,if_neg zO,if_pos c22]
    refine lv (by rw [hap]) 2 (by rw [if_neg zO]) ?_;rw [hap,hfr];exact ⟨0,zq1 (skIn E 2 i),R,M,rfl,Ex.refl.mono zO,hrel,rfl,.inl ⟨rfl,rfl⟩⟩
   have c23:o.code=23:=(by omega);have hz:getV vs o.a=0:=Decidable.byContradiction fun h=>cx (.inr ⟨c23,h⟩);have hap:=zbx (.inr c23) vs g;obtain ⟨R',e,r⟩:=zod hrel hA hB hoe c23 hz i hc'.left;refine go (by rw [hap]) ⟨R',M,e,?_⟩ (hlne (by unfold zju;simp;omega));rw [hap,hnw];exact r
def yb0 (b:Blk) (a:List Int) (G:Nat) (vs:List Int) (g:MemP) (j:Nat):Prop:=∃ q,j=(entE (emE b a (256*(G:Int)) 0) (256*(G:Int)) (lenE b)).length+q∧ybz (emE b a (256*(G:Int)) 0) b.ops 0 vs g q
theorem yer {b:Blk} {a:List Int} {G:Nat} {vs:List Int} {g:MemP} {j j':Nat} (h:yb0 b a G vs g j) (h':yb0 b a G vs g j'):j=j':=by
 obtain ⟨q,rfl,hq⟩:=h;obtain ⟨q',rfl,hq'⟩:=h';rw [yes hq hq']
theorem ydp {vs:List Int} (h:VarsOk vs):VarsOk (zpg vs):=by
 refine ⟨by unfold zpg;rw [List.length_append,List.length_take,List.length_replicate,h.len];rfl,fun x hx=>?_⟩;unfold zpg at hx;rcases List.mem_append.1 hx with hx|hx
 ·exact h.word x (List.mem_of_mem_take hx)
 ·rw [List.eq_of_mem_replicate hx];exact yap
structure RanE (b:Blk) (a:List Int) (G n p:Nat) (vs:List Int) (g:MemP) (steps limit:Int) (F:Int→Option QI) (B:Int) (R:Int→Int) (M:MemP) (k j:Nat) (it:It) (sk:Sk) (R':Int→Int) (M':MemP):Prop where
 le:k≤(yag b a (256*(G:Int)) (256*(G:Int)) 0).length
 run:zrq F k R B M=some (R',B+4*(j:Int),M')
 at_:(yag b a (256*(G:Int)) (256*(G:Int)) 0)[j]?=some it
 site:it.s=some sk
 ins:F (B+4*(j:Int))=some it.i
 stop:(it.i.op=48∧it.i.imm=0)∨(z65 it.i (B+4*(j:Int)) R' M'=none∧23≤it.i.op∧it.i.op≤26)
 kind3:(sk.kind=3→it.i.op≠48)∧(it.i.op≠48→sk.kind=3)
 mem:M'.ok n p
 reg:∀ j,0≤j→j<16→word (R' j)
 zero:R' 0=0
 fet:M'.fet=M.fet
 guest:∀ y,0≤y→y<256*(G:Int)→M'.get y=(zku b vs g).mem.get y
 count:M'.load (cxE G 28) 0 4=(steps+lenE b)%4294967296∧M'.load (cxE G 29) 0 4=limit
 live:sk.live=0∨sk.live=(ztc a 19:Nat)
 vars:∀ v:Nat,v<19→(if sk.live.toNat.testBit v=true then 0≤getV a (v:Int)∧getV a (v:Int)<9∧R' (getV a (v:Int)+1)=getV (zku b vs g).out.vars (v:Int) else M'.load (cxE G (v:Int)) 0 4=getV (zku b vs g).out.vars (v:Int))
 place:yb0 b a G vs g j
 next:¬(sk.kind=2∨sk.kind=3)→HostE G n p (zku b vs g).out.vars (zku b vs g).mem M' ((steps+lenE b)%4294967296) limit
theorem yei {b:Blk} {a:List Int} {G n p:Nat} {vs:List Int} {g M:MemP} {steps limit:Int} {F:Int→Option QI} {B:Int} {R:Int→Int} (hb:b.ok) (hv:z9g b=true) (hA:AlOk a) (hG:1≤G) (h:HostE G n p vs g M steps limit) (hB:0≤B∧B≤4000000000) (hw:∀ j,0≤j→j<16→word (R j)) (h0:R 0=0)
  (hc:Cd F B 0 (yag b a (256*(G:Int)) (256*(G:Int)) 0)) (hlim:¬limit<(steps+lenE b)%4294967296):∃ k j it sk R' M',RanE b a G n p vs g steps limit F B R M k j it sk R' M':=by
 obtain ⟨hl0,hl1⟩:=zs1 hb hv
 obtain ⟨E,hE⟩:∃ E,E=emE b a (256*(G:Int)) 0:=⟨_,rfl⟩
 have hEa:E.a=a:=(by rw [hE];rfl);have hwhole:yag b a (256*(G:Int)) (256*(G:Int)) 0=entE E (256*(G:Int)) (lenE b)++zgo E 0 b.ops:=(by rw [hE];rfl);have hc0:=hc;rw [hwhole] at hc;obtain ⟨_,q2⟩:=zka (E:=E) h (by rw [hEa];exact hA) hB hw h0 ⟨hl0,hl1⟩ hc.left;obtain ⟨R1,e1,r1⟩:=q2 hlim;obtain ⟨hh,s',hs',_⟩:=z9r.1 hv
 have hne:b.ops≠[]:=fun e=>by
  unfold zpu at hh;rw [e] at hh;simp at hh
 have hc2:=hc.right;rw [Nat.zero_add] at hc2;obtain ⟨vs',q,h1,h2,h3,h4⟩:=yda (E:=E) (by rw [hEa];exact hA) hB (by rw [hE];exact yap) (by rw [hE];rfl) hG b.at_ b.ops ⟨0,0,false⟩ s' 0 vs g R1 _ _ hne hs' (fun o ho=>⟨hb.ops o ho,fun hw=>by rw [hE];exact ybe ho hw⟩) r1 hc2;have hev:zku b vs g=zkx b.at_ b.ops 0 vs g:=(by unfold zku;rw [if_pos hv]);rw [← hev] at h1 h3;have e1':Ex F B 0 R M (0+(entE E (256*(G:Int)) (lenE b)).length) R1 (MemP.store (cxE G 28) 0 4 ((steps+lenE b)%4294967296) M) (entE E (256*(G:Int)) (lenE b)).length:=(by rw [Nat.zero_add];exact e1);obtain ⟨it,R',M',g1,⟨k,hk,hit⟩,hrel,hcase⟩:=yc9 e1' (by rw [Nat.zero_add];exact h3);rw [← hwhole] at g1 hk;generalize hj:(entE E (256*(G:Int)) (lenE b)).length+q=j at*;have hp0:pcE B 0=B:=(by unfold pcE;omega);rw [hp0,Nat.zero_add] at hit
 have hpl:yb0 b a G vs g j:=⟨q,by rw [← hE];exact hj.symm,by rw [← hE];exact h4⟩
 have hins:F (B+4*(j:Int))=some it.i:=by
  have:=hc0.2 j it g1;rw [Nat.zero_add] at this;exact this
 have hMk:=h.mem;have hnp:=hMk.np;have hnn:=hMk.pmax;have hgp:=h.gp;have hSw:word ((steps+lenE b)%4294967296):=yau _;generalize hS:(steps+lenE b)%4294967296=S at*;have hcx28:0≤cxE G 28∧cxE G 28+4≤(n:Int):=(by unfold cxE;omega);have hst:=fun y hy=>z7o hcx28.1 zO 0 4 S hMk hSw.1 zO y hy
 have hcount:M'.load (cxE G 28) 0 4=S∧M'.load (cxE G 29) 0 4=limit:=by
  constructor
  ·rw [ztj (N:=MemP.store (cxE G 28) 0 4 S M) hcx28.1 0 4 (by unfold cxE;omega) fun y h3 h4=>hrel.keep y (by unfold cxE at h3;omega)]
   exact ztm hMk zO hcx28.1 hcx28.2 hSw
  ·rw [← h.wl]
   refine ztj (by unfold cxE;omega) 0 4 (by unfold cxE;omega) fun y h3 h4=>?_;rw [hrel.keep y (by unfold cxE at h3;omega),hst y (by unfold cxE at h3;omega),if_neg (by unfold cxE at*;omega)]
 have hfet:M'.fet=M.fet:=by
  rw [hrel.fet];obtain ⟨k1,k2,k3⟩:=z7p (cxE G 28) 0 4 S M;exact zl0 k1 k2 k3
 have hvar:∀ v:Nat,v<19→getV (zku b vs g).out.vars (v:Int)=getV vs' (v:Int):=fun v hv19=>by rw [h1,zpj h2 hv19]
 rcases hcase with ⟨hlv,κ,hs2,hκ⟩|⟨hlv,hwords,hx⟩
 ·have hkap:κ=2∨κ=3:=hκ.imp (fun h=>h.1) fun h=>h.1
  refine ⟨k,j,it,skIn E κ (zku b vs g).out.index,R',M',hk,hit,g1,hs2,hins,?_,?_,hrel.mem,hrel.reg,hrel.zero,hfet,hrel.guest,by rw [hS];exact hcount,.inr (by rw [hE];rfl),fun v hv19=>?_,hpl,fun hn=>absurd hkap hn⟩
  ·rcases hκ with ⟨_,rfl⟩|⟨_,hf⟩
   ·exact .inl z7c
   ·exact .inr ⟨zlt hf _,hf.1,hf.2.1⟩
  ·rcases hκ with ⟨h2,rfl⟩|⟨h3,hf⟩
   ·exact ⟨fun h=>by have h:κ=3:=h;omega,fun h=>absurd z7c.1 h⟩
   ·exact ⟨fun _=>by have:=hf.2.1;omega,fun _=>h3⟩
  ·have hkn:zsw 0 (v:Int):=⟨by omega,by omega,by omega,.inl zO⟩
   rw [hvar v hv19,show (skIn E κ (zku b vs g).out.index).live.toNat=ztc a 19 by rw [hE];exact Int.toNat_natCast _];by_cases hbit:0≤getV a (v:Int)
   ·have h9:=(hA.lo (v:Int) zO zO).2
    rw [if_pos ((ztf a 19 v).2 ⟨hv19,hbit⟩)];have:=hrel.inR (v:Int) hkn (by rw [hEa];exact hbit);rw [hEa] at this;exact ⟨hbit,h9,this⟩
   ·rw [if_neg fun h=>hbit ((ztf a 19 v).1 h).2]
    exact hrel.inM (v:Int) hkn (by rw [hEa];omega)
 ·obtain ⟨sk,rfl,hl0,hk23⟩:∃ sk,it=zq1 sk∧sk.live=0∧¬(sk.kind=2∨sk.kind=3):=by
   rcases hx with rfl|⟨rfl,_⟩|⟨rfl,_,_⟩
   ·exact ⟨_,rfl,rfl,(by decide:¬((4:Int)=2∨(4:Int)=3))⟩
   ·exact ⟨_,rfl,rfl,(by decide:¬((6:Int)=2∨(6:Int)=3))⟩
   ·exact ⟨_,rfl,rfl,(by decide:¬((5:Int)=2∨(5:Int)=3))⟩
  have hvw:VarsOk (zku b vs g).out.vars:=by rw [h1];exact ydp h2
  refine ⟨k,j,zq1 sk,sk,R',M',hk,hit,g1,rfl,hins,.inl z7c,⟨fun h=>absurd (.inr h) hk23,fun h=>absurd z7c.1 h⟩,hrel.mem,hrel.reg,hrel.zero,hfet,hrel.guest,by rw [hS];exact hcount,.inl hl0,fun v hv19=>?_,hpl,fun _=>?_⟩
  ·rw [hvar v hv19,hl0,if_neg (by rw [show (0:Int).toNat=0 from rfl,Nat.zero_testBit];decide)]
   exact hwords (v:Int) zO zO
  ·refine ⟨hvw,hrel.mem,hrel.gok,hrel.gp,fun v v0 v1=>?_,by rw [hS];exact hcount.1,hcount.2,hrel.guest,hrel.grr,hrel.crr⟩
   have:=hvar v.toNat zO;rw [show ((v.toNat:Nat):Int)=v by omega] at this;rw [this];exact hwords v v0 v1
theorem yeg (x:Int):(putL x).length=4:=zzb _ _
structure SiteGood (b:Blk) (a:List Int) (tx:List Int) (x:SiteP):Prop where
 kind:1≤x.kind∧x.kind≤6
 live:x.live=0∨x.live=(ztc a 19:Nat)
 index:0≤x.index∧x.index<(b.at_.length:Int)
 outer:¬(x.kind=2∨x.kind=3)→x.live=0∧x.index=0
 target:x.kind≠4→x.kind≠6→x.target=0
 word:word x.target
 con0:x.kind≠6→x.const=0
 at_:∃ k:Nat,x.off=((4*k:Nat):Int)∧4*k+4≤tx.length∧(x.kind≠3→(tx.drop (4*k)).take 4=unL)∧(x.kind=3→∃ i:QI,z9h i=true∧i.ok∧23≤i.op∧i.op≤26∧(tx.drop (4*k)).take 4=putL (yas i))
 con:x.kind=6→x.target=0∧∃ k:Nat,x.const=((4*k:Nat):Int)∧4*k+8≤tx.length∧(tx.drop (4*k)).take 8=z8p (zg3 11 0)
theorem yeq {i:QI} (h:i.op=48) (a:Int) (R:Int→Int) (M:MemP):z65 i a R M=none:=by
 unfold z65;rw [if_neg fun hx=>by omega,if_neg (by rw [h];decide),if_neg zO,if_neg zO,if_neg zO,if_neg zO,if_neg zO,if_neg zO,if_neg zO,if_neg zO]
theorem ydu {F0 F1:Int→Option QI} {pc1:Int} {s:QI} (hs:F0 pc1=some s) (hst:∀ R M,z65 s pc1 R M=none) (hF:∀ a,a≠pc1→F0 a=F1 a):∀ (k:Nat) (R:Int→Int) (pc:Int) (M:MemP) (y:(Int→Int)×Int×MemP),zrq F0 k R pc M=some y→zrq F1 k R pc M=some y
 |0,_,_,_,_,h=>h
 |k+1,R,pc,M,y,h=>by
  rw [zrr] at h⊢;by_cases hp:pc=pc1
  ·subst hp
   rw [show qAt F0 pc=s by unfold qAt;rw [hs];rfl,hst] at h
   cases h
  ·rw [show qAt F1 pc=qAt F0 pc by unfold qAt;rw [hF pc hp]]
   cases hq:z65 (qAt F0 pc) pc R M with
   |none=>rw [hq] at h;cases h
   |some z=>rw [hq] at h;exact ydu hs hst hF k _ _ _ y h
theorem yci {F:Int→Option QI} {B:Int} {k:Nat} {l:List It} (h:Cd F B k l):Cd F (B+4*(k:Int)) 0 l:=⟨by have:=h.1;omega,fun j it hj=>by
 have:=h.2 j it hj;rw [show pcE (B+4*(k:Int)) (0+j)=pcE B (k+j) by unfold pcE;push_cast;omega]
 exact this⟩
theorem ye6 (R:Int→Int) (x:Int):updR R 0 x=R:=by funext q;unfold updR;rw [if_pos rfl]
theorem ydv {a b:Int} (ha:word a) (hb:word b) (h4:(b-a)%4294967296%4=0) (R:Int→Int) (M:MemP):z65 (yck a b) a R M=some (R,b,M):=by
 unfold z65;rw [if_neg (fun h=>absurd h.1 (by show ¬(40:Int)=10;decide)),if_neg (by show ¬zzu 40≠0;decide),if_neg (by show ¬(40:Int)=41;decide),if_neg (by show ¬(40:Int)=23;decide),if_neg (by show ¬(40:Int)=24;decide),if_neg (by show ¬(40:Int)=25;decide),if_neg (by show ¬(40:Int)=26;decide),if_neg (by show ¬(40:Int)=27;decide),if_pos (show (yck a b).op=40 from rfl)];have h:=ycp ha hb h4;have hu:updR R (yck a b).d (zhz (a+4))=R:=ye6 R _;rw [hu,show zhz (a+4*(yck a b).imm)=b by unfold zhz;omega]
theorem ycq {b c:Blk} {a z:List Int} {G n p:Nat} {vs:List Int} {gm Mp:MemP} {limit:Int} {F:Int→Option QI} {B:Int} {R:Int→Int} (hb:b.ok) (hv:z9g b=true) (hA:AlOk a) (hc:c.ok) (hvc:z9g c=true) (hZ:AlOk z) (hG:1≤G) (h:HostE G n p vs gm Mp 0 limit) (hB:0≤B∧B≤1000000000) (hw:∀ j,0≤j→j<16→word (R j)) (h0:R 0=0)
  {j1:Nat} {it1:It} {sk1:Sk} (hat:(yag b a (256*(G:Int)) (256*(G:Int)) 0)[j1]?=some it1) (hsk:it1.s=some sk1) (hk:¬(sk1.kind=2∨sk1.kind=3)) (hop:it1.i.op=48) (hpl:yb0 b a G vs gm j1)
  (hcd:Cd F B 0 ((yag b a (256*(G:Int)) (256*(G:Int)) 0).set j1 ⟨yck (B+4*(j1:Int)) (B+4*((yag b a (256*(G:Int)) (256*(G:Int)) 0).length:Int)),none⟩++yag c z (256*(G:Int)) (256*(G:Int)) 0))
  (hlim:¬limit<(0+lenE b)%4294967296) (hlim2:¬limit<((0+lenE b)%4294967296+lenE c)%4294967296) {j2:Nat} (hpl2:yb0 c z G (zku b vs gm).out.vars (zku b vs gm).mem j2):
  ∃ (k k2:Nat) (it2:It) (sk2:Sk) (R1 R2:Int→Int) (M1 M2:MemP),k≤(yag b a (256*(G:Int)) (256*(G:Int)) 0).length+1+(yag c z (256*(G:Int)) (256*(G:Int)) 0).length∧
   zrq F k R B Mp=some (R2,B+4*((yag b a (256*(G:Int)) (256*(G:Int)) 0).length:Int)+4*(j2:Int),M2)∧
   RanE c z G n p (zku b vs gm).out.vars (zku b vs gm).mem ((0+lenE b)%4294967296) limit F (B+4*((yag b a (256*(G:Int)) (256*(G:Int)) 0).length:Int)) R1 M1 k2 j2 it2 sk2 R2 M2:=by
 generalize hL:yag b a (256*(G:Int)) (256*(G:Int)) 0=lc at*
 have hj1:j1<lc.length:=yb5 hat
 have hlen:lc.length≤60000:=by have:=hcd.1;rw [List.length_append,List.length_set] at this;omega
 obtain ⟨B1,hB1⟩:∃ B1,B1=B+4*(j1:Int):=⟨_,rfl⟩
 obtain ⟨B2,hB2⟩:∃ B2,B2=B+4*(lc.length:Int):=⟨_,rfl⟩
 rw [← hB1, ← hB2] at hcd;rw [← hB2]
 obtain ⟨F0,hF0⟩:∃ F0:Int→Option QI,F0=fun x=>if x=B1 then some it1.i else F x:=⟨_,rfl⟩
 have hc0:Cd F0 B 0 lc:=⟨by omega,fun j it hj=>by
  have hjl:=yb5 hj;rw [hF0];show (if pcE B (0+j)=B1 then some it1.i else F (pcE B (0+j)))=some it.i;by_cases e:j=j1
  ·subst e
   rw [hat] at hj;injection hj with hj;rw [if_pos (by unfold pcE;rw [hB1];push_cast;omega),hj]
  ·rw [if_neg (by unfold pcE;rw [hB1];push_cast;omega)]
   refine hcd.left.2 j it ?_
   rw [List.getElem?_set_ne zO];exact hj⟩
 rw [← hL] at hc0;obtain ⟨k1,j1',it1',sk1',R1,M1,r1⟩:=yei hb hv hA hG h zO hw h0 hc0 hlim;obtain rfl:j1'=j1:=yer r1.place hpl;have hat':=r1.at_;rw [hL,hat] at hat';injection hat' with hat';subst hat';have hsk':=r1.site;rw [hsk] at hsk';injection hsk' with hsk';subst hsk';have hrun:=r1.run;rw [← hB1] at hrun;have hrun:=ydu (F1:=F) (pc1:=B1) (s:=it1.i) (by rw [hF0];exact if_pos rfl) (fun R M=>yeq hop _ R M) (fun x hx=>by rw [hF0];exact if_neg hx) k1 R B Mp _ hrun
 have hjmp:F B1=some (yck B1 B2):=by
  have:=hcd.left.2 j1' ⟨yck B1 B2,none⟩ (by rw [List.getElem?_set_self hj1]);rw [show pcE B (0+j1')=B1 by unfold pcE;rw [hB1];push_cast;omega] at this;exact this
 have hstep:=ydv (a:=B1) (b:=B2) (by unfold word;omega) (by unfold word;omega) zO R1 M1
 have hrun2:zrq F 1 R1 B1 M1=some (R1,B2,M1):=by
  rw [zrr,show qAt F B1=yck B1 B2 by unfold qAt;rw [hjmp];rfl,hstep]
  rfl
 have hcd2:=yci hcd.right;rw [List.length_set,Nat.zero_add, ← hB2] at hcd2;obtain ⟨k2,j2',it2,sk2,R2,M2,r2⟩:=yei hc hvc hZ hG (r1.next hk) zO r1.reg r1.zero hcd2 hlim2;obtain rfl:j2'=j2:=yer r2.place hpl2;refine ⟨k1+1+k2,k2,it2,sk2,R1,R2,M1,M2,?_,?_,r2⟩
 ·have h1:=r1.le
  have h2:=r2.le;rw [hL] at h1;omega
 ·rw [zrs,zrs,hrun]
  show (zrq F 1 R1 B1 M1).bind (fun y=>zrq F k2 y.1 y.2.1 y.2.2)=_;rw [hrun2];exact r2.run
theorem yfd (l m:List Int):yax (l++m)=yax l++yax m:=by unfold yax;rw [List.flatMap_append]
theorem ye4 {l:List It} {j:Nat} {it:It} (h:l[j]?=some it) (x:It):z8n (l.set j x)=z8n (l.take j)++(putL (yas x.i)++z8n (l.drop (j+1))):=by
 have hj:=yb5 h;have e:l.set j x=l.take j++(x::l.drop (j+1)):=(by rw [List.set_eq_take_append_cons_drop,if_pos hj]);rw [e];unfold z8n;rw [List.map_append,yfd,List.map_cons]
 rfl
theorem ye2 {l m:List It} {j:Nat} (hj:j<l.length) {x:It} {q:Nat} (hq:q<4):(z8n (l.set j x++m))[4*j+q]?=(putL (yas x.i))[q]?:=by
 have h1:(z8n (l.take j)).length=4*j:=by rw [z8o,List.length_take];omega
 have h2:(z8n (l.set j x)).length=4*l.length:=by rw [z8o,List.length_set]
 have e:z8n (l.set j x++m)=z8n (l.set j x)++z8n m:=by unfold z8n;rw [List.map_append,yfd]
 rw [e,List.getElem?_append_left zO,ye4 (List.getElem?_eq_getElem hj),List.getElem?_append_right zO,h1,show 4*j+q-4*j=q by omega,List.getElem?_append_left (by rw [yeg];omega)]
theorem yet {t u v r:List Int} (h:u.length=v.length) {q:Nat} (hq:q<t.length∨t.length+u.length≤q):(t++(u++r))[q]?=(t++(v++r))[q]?:=by
 rcases hq with h1|h1
 ·rw [List.getElem?_append_left h1,List.getElem?_append_left h1]
 ·have e:∀ z:List Int,z.length=u.length→(t++(z++r))[q]?=r[q-t.length-u.length]?:=fun z hz=>by
   rw [List.getElem?_append_right zO,List.getElem?_append_right zO,hz]
  rw [e u rfl,e v h.symm]
theorem ye3 {l m:List It} {j:Nat} (hj:j<l.length) {x:It} {q:Nat} (hq:q<4*j∨4*j+4≤q):(z8n (l.set j x++m))[q]?=(z8n (l++m))[q]?:=by
 have h1:(z8n (l.take j)).length=4*j:=by rw [z8o,List.length_take];omega
 have e:∀ k:List It,z8n (k++m)=z8n k++z8n m:=fun k=>by unfold z8n;rw [List.map_append,yfd]
 have h2:z8n l=z8n (l.set j l[j]):=(by rw [List.set_getElem_self]);rw [e,e,h2,ye4 (List.getElem?_eq_getElem hj),ye4 (List.getElem?_eq_getElem hj)];rw [List.append_assoc,List.append_assoc,List.append_assoc,List.append_assoc];exact yet (by rw [yeg,yeg]) (by rw [h1,yeg];exact hq)
def ybu (M:MemP) (base:Nat) (code:List Int):Prop:=∀ j:Nat,j<code.length→M.get ((base+j:Nat):Int)=(code[j]?).getD 0
theorem ydr {g:MemP} {G P base:Nat} {ws code:List Int} (hg:g.ok (256*G) G) (hGP:G<P) (hP:P≤4096) (hc:∀ x∈code,0≤x∧x<256) (hb2:base+code.length≤256*P):ybu (zqd g G P base ws code) base code:=by
 have hz:(MemP.zero P).ok (256*P) P:=zuw (p:=P) hP;have k1:=zqa hg hz G (Nat.le_refl _);unfold zqd;generalize zp8 g G (MemP.zero P)=M1 at k1⊢;have k2:=zyy k1 ((256*G:Nat):Int) (yaz ws) (yax ws).length (Nat.le_refl _);generalize M1.pokeAt ((256*G:Nat):Int) (yax ws) (yax ws).length=M2 at k2⊢;have k3:=zy4 k2 G (x:=3) (by decide);generalize M2.protect G 3=M3 at k3⊢;have k4:=zyy k3 (base:Int) hc code.length (Nat.le_refl _);have g4:=fun y (hy:0≤y)=>zyw k3 base code hc hb2 hy;generalize M3.pokeAt (base:Int) code code.length=M4 at k4 g4⊢;obtain ⟨d5,_,_⟩:=zqo (G+1) k4 (P-(G+1)) zO;generalize zqn (G+1) (P-(G+1)) M4=M5 at d5⊢;obtain ⟨d6,_⟩:=zqf (G+1) 4 M5 (P-(G+1));generalize zqe (G+1) 4 (P-(G+1)) M5=M6 at d6⊢;intro j hj
 have hget:∀ y,M6.get y=M4.get y:=fun y=>by unfold MemP.get;rw [d6,d5]
 rw [hget,g4 _ zO,if_pos zO,show (((base+j:Nat):Int)-(base:Int)).toNat=j by omega]
theorem yed {g M:MemP} {G P base:Nat} {ws code:List Int} (h:HostIs g M G P base ws code) (hD:ybu M base code) (hw:ws.length=64) (hGP:G<P) (off:Nat) (l:List Int) (hl:∀ x∈l,0≤x∧x<256) (ho:off+l.length≤code.length) (hb1:256*(G+1)≤base) (hb2:base+code.length≤256*P)
  (code':List Int) (hlen:code'.length=code.length) (hin:∀ j:Nat,j<l.length→code'[off+j]?=l[j]?) (hout:∀ j:Nat,j<off∨off+l.length≤j→code'[j]?=code[j]?):
  HostIs g (zqn (G+1) (P-(G+1)) (M.pokeAt ((base:Int)+(off:Int)) l l.length)) G P base ws code':=by
 have k4:=zyy h.ok ((base+off:Nat):Int) hl l.length (Nat.le_refl _);have g4:=fun y (hy:0≤y)=>zyw h.ok (base+off) l hl zO hy;obtain ⟨_,q4,_⟩:=zyx M ((base+off:Nat):Int) l l.length;rw [show (base:Int)+(off:Int)=((base+off:Nat):Int) by omega];generalize M.pokeAt ((base+off:Nat):Int) l l.length=M4 at k4 g4 q4⊢;have k5:=zqp (G+1) k4 (P-(G+1));obtain ⟨d5,q5,i5⟩:=zqo (G+1) k4 (P-(G+1)) zO;generalize zqn (G+1) (P-(G+1)) M4=M5 at k5 d5 q5 i5⊢
 have hget:∀ y,M5.get y=M4.get y:=fun y=>by unfold MemP.get;rw [d5]
 refine ⟨k5,fun y y0 y1=>?_,fun k x hk hx=>?_,fun q hq=>?_,?_,fun q q0 q1=>?_,fun j hj=>?_⟩
 ·rw [hget,g4 y y0,if_neg zO];exact h.guest y y0 y1
 ·have hk64:k<64:=by
   rcases Nat.lt_or_ge k ws.length with h|h
   ·omega
   ·rw [List.getElem?_eq_none h] at hk;cases hk
  rw [← h.ctx k x hk hx];have hn:=h.ok.np;have hpm:=h.ok.pmax;refine ztj (by unfold cxE;omega) 0 4 (by unfold cxE;omega) fun y h3 h4=>?_;rw [hget,g4 y (by unfold cxE at h3;omega),if_neg (by unfold cxE at*;omega)]
 ·rw [q5,q4];exact h.grr q hq
 ·rw [q5,q4];exact h.crr
 ·rw [q5,q4];exact h.rest q q0 q1
 ·rw [i5 (base+j) zO zO]
  have h1:M4.data[base+j]?=some (M4.get ((base+j:Nat):Int)):=by
   unfold MemP.get;rw [Int.toNat_natCast,List.getElem?_eq_getElem (by rw [k4.ld];omega)]
   rfl
  have h2:code'[j]?=some ((code'[j]?).getD 0):=by rw [List.getElem?_eq_getElem hj];rfl
  rw [h1,h2,g4 _ zO]
  congr 1
  by_cases c:off≤j∧j<off+l.length
  ·rw [if_pos zO,show (((base+j:Nat):Int)-((base+off:Nat):Int)).toNat=j-off by omega, ← hin (j-off) zO,show off+(j-off)=j by omega]
  ·rw [if_neg zO,hD j zO,hout j zO]
theorem ye1 (l m:List It):z8n (l++m)=z8n l++z8n m:=by unfold z8n;rw [List.map_append];unfold yax;rw [List.flatMap_append]
end Go.Proofs.YtocafomnnkmjfaaGreat
