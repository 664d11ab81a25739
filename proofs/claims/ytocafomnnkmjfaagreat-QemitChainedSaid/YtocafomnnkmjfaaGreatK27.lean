import Derived.Test.YtocafomnnkmjfaaGreatK26
set_option maxRecDepth 100000
set_option maxHeartbeats 1000000
namespace Go.Proofs.YtocafomnnkmjfaaGreat
open Go.RowKit
section
variable {E:Em} {G n p W:Nat} {vs:List Int} {g M1:MemP} {R:Int→Int} {M:MemP} {F:Int→Option QI} {B:Int} {k:Nat}
def ExitAt (E:Em) (G n p:Nat) (F:Int→Option QI) (B:Int) (k:Nat) (l:List It) (pc:Int) (vs:List Int) (g M1:MemP) (R:Int→Int) (M:MemP):Prop:=
 ∃ j it R' M',l[j]?=some it∧Ex F B k R M (k+j) R' M' l.length∧RelE E G n p 0 vs g M1 R' M'∧(∀ v,0≤v→v<19→M'.load (cxE G v) 0 4=getV vs v)∧
  (it=zq1 ⟨4,0,pc,0,0⟩∨(it=zq1 ⟨6,0,E.pred,0,12⟩∧pc=E.pred)∨(it=zq1 ⟨5,0,0,0,0⟩∧pc≠E.pred∧M'.load (cxE G 19) 0 4=pc))
theorem zsy {W:Nat} {v:Int} (h:zsw 0 v):zsw W v:=⟨h.1,h.2.1,h.2.2.1,by
 rcases h.2.2.2 with h|h
 ·exact .inl h
 ·rw [Nat.zero_testBit] at h;cases h⟩
theorem zn7 (h:RelE E G n p W vs g M1 R M) (hA:AlOk E.a) (hB:0≤B∧B≤4000000000) {o:BOp} (ho:OpE E W o) (hp:o.code=21) (i:Int) (hc:Cd F B k (zn2 E i o)):
  (getV vs o.a≠0→∃ R',Ex F B k R M (k+(zn2 E i o).length) R' M (zn2 E i o).length∧RelE E G n p W vs g M1 R' M)∧(getV vs o.a=0→zah E G n p F B k (zn2 E i o) i 2 W vs g M1 R M):=by
 have hfr:zn2 E i o=rdE E o.a 10++[iI 33 (rrE E o.a 10) 0 2,zq1 (skIn E 2 i)]:=by
  unfold zn2;rw [if_neg zO,if_neg zO,if_neg zO,if_neg zO,if_neg zO,if_neg zO,if_pos hp]
 rw [hfr] at hc⊢;have ha:=ho.a (by unfold hasA;rw [decide_eq_true_eq];omega);obtain ⟨R1,e1,r1,v1,_⟩:=h.read hA hB ha (.inl rfl) hc.left;have e2:=zk8 (R:=R1) (M:=M) hB (e:=2) hc.right (.inr (.inl rfl)) (by have:=hc.right.1;simp at this;omega);rw [v1,r1.zero] at e2
 constructor
 ·intro hz
  rw [if_pos (by show brE 33 (getV vs o.a) 0=true;unfold brE;simp [hz])] at e2;refine ⟨R1,?_,r1⟩;have e:=e1.trans e2;simp only [List.length_append,List.length_cons,List.length_nil, ← Nat.add_assoc] at e⊢;exact e.mono zO
 ·intro hz
  rw [if_neg (by show ¬brE 33 (getV vs o.a) 0=true;unfold brE;simp [hz])] at e2;refine ⟨(rdE E o.a 10).length+1,zq1 (skIn E 2 i),R1,M,by rw [zoj];rfl,?_,r1,rfl,.inl ⟨rfl,rfl⟩⟩;rw [← Nat.add_assoc];exact (e1.trans e2).mono (by simp only [List.length_append,List.length_cons,List.length_nil];omega)
theorem zn6 (h:RelE E G n p W vs g M1 R M) (hA:AlOk E.a) (hB:0≤B∧B≤4000000000) (x:Int) (hc:Cd F B k (exE E x)):ExitAt E G n p F B k (exE E x) x vs g M1 R M:=by
 obtain ⟨M',e,r,s,_⟩:=RelE.saves hA hB 19 (Nat.le_refl _) h hc.left;refine ⟨(svE E).length,zq1 ⟨4,0,x,0,0⟩,R,M',?_,e.mono ?_,r.weak fun v hv=>zsy hv,fun v h0 h1=>s v h0 zO,.inl rfl⟩
 ·unfold exE
  rw [show (svE E).length=(svE E).length+0 by omega,zoj];rfl
 ·unfold exE svE;simp
theorem ExitAt.pre {l m:List It} {pc:Int} {R1:Int→Int} {N:Nat} (hN:N≤l.length) (e:Ex F B k R M (k+l.length) R1 M N) (h:ExitAt E G n p F B (k+l.length) m pc vs g M1 R1 M):ExitAt E G n p F B k (l++m) pc vs g M1 R M:=by
 obtain ⟨j,it,R',M',h1,h2,h3⟩:=h;refine ⟨l.length+j,it,R',M',by rw [zoj];exact h1,?_,h3⟩;rw [← Nat.add_assoc,List.length_append];exact (e.trans h2).mono zO
theorem zn5 (h:RelE E G n p W vs g M1 R M) (hA:AlOk E.a) (hB:0≤B∧B≤4000000000) {o:BOp} (ho:OpE E W o) (hp:o.code=24∨(o.code=23∧getV vs o.a≠0)) (i:Int) (hc:Cd F B k (zn2 E i o)):ExitAt E G n p F B k (zn2 E i o) o.n vs g M1 R M:=by
 rcases hp with hp|⟨hp,hz⟩
 ·have hfr:zn2 E i o=exE E o.n:=by
   unfold zn2;rw [if_neg zO,if_neg zO,if_neg zO,if_neg zO,if_neg zO,if_neg zO,if_neg zO,if_neg zO,if_neg zO,if_pos hp]
  rw [hfr] at hc⊢;exact zn6 h hA hB o.n hc
 ·have hfr:zn2 E i o=rdE E o.a 10++([iI 32 (rrE E o.a 10) 0 (1+(exE E o.n).length)]++exE E o.n):=by
   unfold zn2;rw [if_neg zO,if_neg zO,if_neg zO,if_neg zO,if_neg zO,if_neg zO,if_neg zO,if_neg zO,if_pos hp]
  rw [hfr] at hc⊢;have ha:=ho.a (by unfold hasA;rw [decide_eq_true_eq];omega);obtain ⟨R1,e1,r1,v1,_⟩:=h.read hA hB ha (.inl rfl) hc.left;have hcr:=hc.right;have he:(1:Int)+((exE E o.n).length:Int)=((1+(exE E o.n).length:Nat):Int):=(by push_cast;rfl);rw [he] at hcr;have e2:=zk8 (R:=R1) (M:=M) hB (e:=1+(exE E o.n).length) hcr.left (.inl rfl) (by have:=hcr.1;simp at this;omega);rw [v1,r1.zero,if_neg (by show ¬brE 32 (getV vs o.a) 0=true;unfold brE;simp [hz])] at e2;have h3:=zn6 r1 hA hB o.n hcr.right;exact ExitAt.pre (Nat.le_refl _) e1 (ExitAt.pre zS e2 h3)
theorem zod (h:RelE E G n p W vs g M1 R M) (hA:AlOk E.a) (hB:0≤B∧B≤4000000000) {o:BOp} (ho:OpE E W o) (hp:o.code=23) (hz:getV vs o.a=0) (i:Int) (hc:Cd F B k (zn2 E i o)):∃ R',Ex F B k R M (k+(zn2 E i o).length) R' M (zn2 E i o).length∧RelE E G n p W vs g M1 R' M:=by
 have hfr:zn2 E i o=rdE E o.a 10++([iI 32 (rrE E o.a 10) 0 (1+(exE E o.n).length)]++exE E o.n):=by
  unfold zn2;rw [if_neg zO,if_neg zO,if_neg zO,if_neg zO,if_neg zO,if_neg zO,if_neg zO,if_neg zO,if_pos hp]
 rw [hfr] at hc⊢;have ha:=ho.a (by unfold hasA;rw [decide_eq_true_eq];omega);obtain ⟨R1,e1,r1,v1,_⟩:=h.read hA hB ha (.inl rfl) hc.left;have hcr:=hc.right;have he:(1:Int)+((exE E o.n).length:Int)=((1+(exE E o.n).length:Nat):Int):=(by push_cast;rfl);rw [he] at hcr;have e2:=zk8 (R:=R1) (M:=M) hB (e:=1+(exE E o.n).length) hcr.left (.inl rfl) (by have:=hcr.1;simp at this;omega);rw [v1,r1.zero,if_pos (by show brE 32 (getV vs o.a) 0=true;unfold brE;simp [hz])] at e2;refine ⟨R1,?_,r1⟩;have e:=e1.trans e2;simp only [List.length_append,List.length_cons,List.length_nil, ← Nat.add_assoc] at e⊢;exact e.mono zO
theorem RelE.pcst (h:RelE E G n p W vs g M1 R M) {x:Int} (hx:word x):RelE E G n p W vs g M1 R (MemP.store (cxE G 19) 0 4 x M):=by
 obtain ⟨s1,s2,s3,s4,s5,s6⟩:=h.cxst (v:=19) zO hx;refine ⟨h.vars,s1,h.gok,h.gp,h.reg,h.zero,h.base,h.inR,fun u hu hua=>?_,fun u h0 h1 h2 h3=>?_,fun y h0 h1=>?_,fun y r h0 h1 hr=>?_,fun y h0 h1 r hr=>?_,fun y hy=>?_,s6.trans h.fet⟩
 ·rw [s3 u hu.1 (by have:=hu.2.1;omega) hu.2.2.1];exact h.inM u hu hua
 ·rw [s3 u h0 zO zO];exact h.old u h0 h1 h2 h3
 ·rw [s4 y h0 (.inl (by unfold cxE;omega))];exact h.guest y h0 h1
 ·rw [s5];exact h.grr y r h0 h1 hr
 ·rw [s5];exact h.crr y h0 h1 r hr
 ·rw [s4 y zO (.inr (by unfold cxE;omega))];exact h.keep y hy
theorem zoe (h:RelE E G n p W vs g M1 R M) (hA:AlOk E.a) (hB:0≤B∧B≤4000000000) (hpw:word E.pred) {o:BOp} (ho:OpE E W o) (hp:o.code=25) (i:Int) (hc:Cd F B k (zn2 E i o)):ExitAt E G n p F B k (zn2 E i o) (getV vs o.a) vs g M1 R M:=by
 have hfr:zn2 E i o=rdE E o.a 10++([i3 1 10 (rrE E o.a 10) 0]++(svE E++([iI 25 10 15 76]++(con2 11 E.pred++[iI 33 10 11 2,zq1 ⟨6,0,E.pred,0,12⟩,zq1 ⟨5,0,0,0,0⟩])))):=by
  unfold zn2;rw [if_neg zO,if_neg zO,if_neg zO,if_neg zO,if_neg zO,if_neg zO,if_neg zO,if_neg zO,if_neg zO,if_neg zO,if_pos hp]
 rw [hfr] at hc⊢;have hwa:=zop h.vars o.a;have ha:=ho.a (by unfold hasA;rw [decide_eq_true_eq];omega);obtain ⟨R1,e1,r1,v1,_⟩:=h.read hA hB ha (.inl rfl) hc.left;have e2:=zli (R:=R1) (M:=M) hB hc.right.left zO (fun h=>by omega)
 have hx:yaq (zzu 1) (R1 (rrE E o.a 10)) (R1 0)=getV vs o.a:=by
  rw [v1,r1.zero];show (getV vs o.a+0)%4294967296=_;unfold word at hwa;omega
 rw [hx] at e2;have r2:=r1.upd hA (d:=10) zO hwa;have v2:updR R1 10 (getV vs o.a) 10=getV vs o.a:=z86 zO;generalize updR R1 10 (getV vs o.a)=R2 at e2 r2 v2;have hc2:=hc.right.right;obtain ⟨M2,e3,r3,s3,_⟩:=RelE.saves hA hB 19 (Nat.le_refl _) r2 hc2.left;have hc3:=hc2.right;have e4:=zlh (R:=R2) (M:=M2) hB hc3.left (by rw [show (76:Int)=4*19 by decide,r3.cxw zO];exact r3.cxbad zO (.inr rfl));rw [show (76:Int)=4*19 by decide,r3.cxw zO,v2] at e4;obtain ⟨c1,c2,c3,c4,c5,c6⟩:=r3.cxst (v:=19) zO hwa;have r4:=r3.pcst hwa;generalize MemP.store (cxE G 19) 0 4 (getV vs o.a) M2=M3 at e4 c1 c2 c3 c4 c5 c6 r4;have hc4:=hc3.right;have e5:=zla (R:=R2) (M:=M3) hB hc4.left (by decide) hpw;have r5:=r4.upd hA (d:=11) zO hpw;have v5:updR R2 11 E.pred 10=getV vs o.a:=(z87 (by decide)).trans v2
 have w5:updR R2 11 E.pred 11=E.pred:=z86 (by decide)
 generalize updR R2 11 E.pred=R5 at e5 r5 v5 w5;have hc5:=hc4.right;have e6:=zk8 (R:=R5) (M:=M3) hB (e:=2) hc5 (.inr (.inl rfl)) (by have:=hc5.1;simp only [List.length_cons,List.length_nil] at this⊢;omega);rw [v5,w5] at e6
 have hwords:∀ v,0≤v→v<19→M3.load (cxE G v) 0 4=getV vs v:=fun v h0 h1=>by rw [c3 v h0 zO zO];exact s3 v h0 zO
 have e:=((((e1.trans e2).trans e3).trans e4).trans e5).trans e6;by_cases hz:getV vs o.a=E.pred
 ·rw [if_neg (by show ¬brE 33 (getV vs o.a) E.pred=true;unfold brE;simp [hz])] at e
  refine ⟨(rdE E o.a 10).length+([i3 1 10 (rrE E o.a 10) 0].length+((svE E).length+([iI 25 10 15 76].length+((con2 11 E.pred).length+1)))),zq1 ⟨6,0,E.pred,0,12⟩,R5,M3,by rw [zoj,zoj,zoj,zoj,zoj];rfl,?_,r5.weak fun v hv=>zsy hv,hwords,.inr (.inl ⟨rfl,hz⟩)⟩;have hl2:(con2 11 E.pred).length=2:=rfl;unfold svE at e⊢;simp only [List.length_append,List.length_cons,List.length_nil, ← Nat.add_assoc,hl2] at e⊢;exact e.mono zO
 ·rw [if_pos (by show brE 33 (getV vs o.a) E.pred=true;unfold brE;simp [hz])] at e
  refine ⟨(rdE E o.a 10).length+([i3 1 10 (rrE E o.a 10) 0].length+((svE E).length+([iI 25 10 15 76].length+((con2 11 E.pred).length+2)))),zq1 ⟨5,0,0,0,0⟩,R5,M3,by rw [zoj,zoj,zoj,zoj,zoj];rfl,?_,r5.weak fun v hv=>zsy hv,hwords,.inr (.inr ⟨rfl,hz,c2⟩)⟩;have hl2:(con2 11 E.pred).length=2:=rfl;unfold svE at e⊢;simp only [List.length_append,List.length_cons,List.length_nil, ← Nat.add_assoc,hl2] at e⊢;exact e.mono zO
end
def zad (E:Em) (G n p:Nat) (F:Int→Option QI) (B:Int) (k:Nat) (l:List It) (out:Outc) (vs':List Int) (g' M1:MemP) (R:Int→Int) (M:MemP):Prop:=
 out.vars=zpg vs'∧VarsOk vs'∧(if out.leaves=true then ∃ κ,zah E G n p F B k l out.index κ 0 vs' g' M1 R M else ExitAt E G n p F B k l out.pc vs' g' M1 R M)
theorem zoa {E:Em} {G n p:Nat} {g M1 M M':MemP} {R R1:Int→Int} {F:Int→Option QI} {B:Int} {k:Nat} {l m:List It} {out:Outc} {vs':List Int} (e:Ex F B k R M (k+l.length) R1 M' l.length) (h:zad E G n p F B (k+l.length) m out vs' g M1 R1 M'):zad E G n p F B k (l++m) out vs' g M1 R M:=by
 obtain ⟨h1,h2,h3⟩:=h;refine ⟨h1,h2,?_⟩
 split
 ·rename_i hl
  rw [if_pos hl] at h3;obtain ⟨κ,j,it,R',M2,q1,q2,q3⟩:=h3;refine ⟨κ,l.length+j,it,R',M2,by rw [zoj];exact q1,?_,q3⟩;rw [← Nat.add_assoc,List.length_append];exact e.trans q2
 ·rename_i hl
  rw [if_neg hl] at h3;obtain ⟨j,it,R',M2,q1,q2,q3⟩:=h3;refine ⟨l.length+j,it,R',M2,by rw [zoj];exact q1,?_,q3⟩;rw [← Nat.add_assoc,List.length_append];exact e.trans q2
theorem zs0 {E:Em} {G n p W:Nat} {vs:List Int} {g M1 M:MemP} {R:Int→Int} {F:Int→Option QI} {B:Int} {k:Nat} {l:List It} (m:List It) {i κ:Int} (h:zah E G n p F B k l i κ W vs g M1 R M):zah E G n p F B k (l++m) i κ 0 vs g M1 R M:=by
 obtain ⟨j,it,R',M',h1,h2,h3,h4⟩:=h
 have hj:j<l.length:=by
  rcases Nat.lt_or_ge j l.length with h5|h5
  ·exact h5
  ·rw [List.getElem?_eq_none h5] at h1;cases h1
 exact ⟨j,it,R',M',by rw [List.getElem?_append_left hj];exact h1,h2.mono (by rw [List.length_append];omega),h3.weak fun v hv=>zsy hv,h4⟩
theorem zlp {E:Em} {G n p:Nat} {vs:List Int} {g M1 M:MemP} {R:Int→Int} {F:Int→Option QI} {B:Int} {k:Nat} {l:List It} (m:List It) {pc:Int} (h:ExitAt E G n p F B k l pc vs g M1 R M):ExitAt E G n p F B k (l++m) pc vs g M1 R M:=by
 obtain ⟨j,it,R',M',h1,h2,h4⟩:=h
 have hj:j<l.length:=by
  rcases Nat.lt_or_ge j l.length with h5|h5
  ·exact h5
  ·rw [List.getElem?_eq_none h5] at h1;cases h1
 exact ⟨j,it,R',M',by rw [List.getElem?_append_left hj];exact h1,h2.mono (by rw [List.length_append];omega),h4⟩
theorem z08 {o:BOp} (hf:znt o=true) {v:Int} (hv:v∈reads o):v≠19:=by
 intro e;subst e;rcases zur.1 hv with ⟨h1,h2⟩|⟨h1,h2,_⟩
 ·have h:=(zn0.1 hf).2.2.1
  rw [h1, ← h2] at h;exact absurd h (by decide)
 ·have h:=(zn0.1 hf).2.2.2.1
  rw [h1, ← h2] at h;exact absurd h (by decide)
theorem zgc {s s':Ck} {o:BOp} {l:List BOp} (h:zga s (o::l)=some s'):∃ y s1,zf3 s o l.isEmpty y=some s1∧zga s1 l=some s':=by
 unfold zga at h
 split at h
 ·rename_i s1 hn;exact ⟨_,s1,hn,h⟩
 ·cases h
theorem zf8 {s s1:Ck} {o:BOp} {x y:Bool} (h:zf3 s o x y=some s1):znt o=true∧zju o.code=x∧((o.code=20∧s1.written=0)∨(o.code≠20∧(reads o).all (z0u s)=true∧s1.written=if 20≤writes o then s.written|||2^(writes o).toNat else s.written)):=by
 refine ⟨?_,zf5 h,?_⟩
 ·by_cases hc:(znt o&&zyp s o x y)=true
  ·simp only [Bool.and_eq_true] at hc;exact hc.1
  ·unfold zf3 at h;rw [if_neg hc] at h;cases h
 ·unfold zf3 at h
  by_cases hc:(znt o&&zyp s o x y)=true
  ·rw [if_pos hc] at h
   by_cases c20:o.code=20
   ·rw [if_pos (by simpa using c20)] at h
    by_cases hm:(o.n==(s.marks:Int))=true
    ·rw [if_pos hm] at h;injection h with h;exact .inl ⟨c20,by rw [← h]⟩
    ·rw [if_neg hm] at h;cases h
   ·rw [if_neg (by simpa using c20)] at h
    by_cases hr:(reads o).all (z0u s)=true
    ·rw [if_pos hr] at h;injection h with h;exact .inr ⟨c20,hr,by rw [← h]⟩
    ·rw [if_neg hr] at h;cases h
  ·rw [if_neg hc] at h;cases h
theorem zgt {E:Em} {G n p:Nat} {M1:MemP} {F:Int→Option QI} {B:Int} (hA:AlOk E.a) (hB:0≤B∧B≤4000000000) (hpw:word E.pred) (hsz:E.size=256*(G:Int)) (hG:1≤G) (ats:List Int):
  ∀ (l:List BOp) (s s':Ck) (i:Int) (vs:List Int) (g:MemP) (R:Int→Int) (M:MemP) (k:Nat),l≠[]→zga s l=some s'→(∀ o∈l,o.ok∧(0≤writes o→E.written.testBit (writes o).toNat=true))→RelE E G n p s.written vs g M1 R M→Cd F B k (zgo E i l)→
  ∃ vs',zad E G n p F B k (zgo E i l) (zkx ats l i vs g).out vs' (zkx ats l i vs g).mem M1 R M∧((zkx ats l i vs g).out.leaves=false→(zkx ats l i vs g).out.done=ats.length)
 |[],_,_,_,_,_,_,_,_,h,_,_,_,_=>absurd rfl h
 |o::l,s,s',i,vs,g,R,M,k,_,hck,hall,hrel,hc=>by
  have hc':Cd F B k (zn2 E (ztx o i) o++zgo E (ztx o i) l):=hc;show ∃ vs',zad E G n p F B k (zn2 E (ztx o i) o++zgo E (ztx o i) l) _ _ _ _ _ _∧_;obtain ⟨y,s1,hnx,hck⟩:=zgc hck;obtain ⟨hf,hend,hcs⟩:=zf8 hnx;obtain ⟨hook,hwr⟩:=hall o (List.mem_cons_self ..);have hall':∀ q∈l,q.ok∧(0≤writes q→E.written.testBit (writes q).toNat=true):=fun q hq=>hall q (List.mem_cons_of_mem _ hq)
  have hlne:zju o.code=false→l≠[]:=fun he hl=>by subst hl;rw [he] at hend;cases hend
  rcases hcs with ⟨c20,hw0⟩|⟨c20,hrd,hW0⟩
  ·have hev:zkx ats (o::l) i vs g=zkx ats l (ztx o i) vs g:=by
    have hap:=zbx (.inl c20) vs g;rw [zkz zO zO (by rw [hap]),hap]
   have hfr:zn2 E (ztx o i) o=[]:=by
    unfold zn2;rw [if_neg zO,if_neg zO,if_neg zO,if_neg zO,if_neg zO,if_neg zO,if_neg zO,if_neg zO,if_neg zO,if_neg zO,if_neg zO]
   rw [hev,hfr,List.nil_append];rw [hfr,List.nil_append] at hc';refine zgt hA hB hpw hsz hG ats l s1 s' (ztx o i) vs g R M k (hlne (by unfold zju;simp;omega)) hck hall' ?_ hc';rw [hw0];exact hrel.weak fun v hv=>zsy hv
  ·have hW:s1.written=zu3 s.written (writes o):=hW0
   have hoe:OpE E s.written o:=⟨hook,hf,fun v hv=>by
    have h1:=List.all_eq_true.1 hrd v hv;obtain ⟨v0,v1⟩:=z1b hf v hv;unfold z0u at h1;simp only [Bool.or_eq_true,decide_eq_true_eq] at h1
    exact ⟨v0,v1,z08 hf hv,h1⟩,hwr⟩
   by_cases cx:o.code=24∨(o.code=23∧getV vs o.a≠0)
   ·rw [zky cx]
    exact ⟨vs,⟨rfl,hrel.vars,zlp _ (zn5 hrel hA hB hoe cx _ hc'.left)⟩,fun _=>rfl⟩
   by_cases cv:o.code=25
   ·rw [zk3 cv]
    exact ⟨vs,⟨rfl,hrel.vars,zlp _ (zoe hrel hA hB hpw hoe cv _ hc'.left)⟩,fun _=>rfl⟩
   have hmk:ztx o i=i:=(by unfold ztx;rw [if_neg c20]);rw [hmk] at hc'⊢
   have go:∀ (hst:(zbr o vs g).stays=true),(∃ R' M',Ex F B k R M (k+(zn2 E i o).length) R' M' (zn2 E i o).length∧RelE E G n p (zu3 s.written (writes o)) (zbr o vs g).vs (zbr o vs g).mem M1 R' M')→l≠[]→
     ∃ vs',zad E G n p F B k (zn2 E i o++zgo E i l) (zkx ats (o::l) i vs g).out vs' (zkx ats (o::l) i vs g).mem M1 R M∧((zkx ats (o::l) i vs g).out.leaves=false→(zkx ats (o::l) i vs g).out.done=ats.length):=by
    intro hst ⟨R',M',e,r⟩ hl;rw [zkz cx cv hst,hmk];rw [← hW] at r;obtain ⟨vs',h1,h2⟩:=zgt hA hB hpw hsz hG ats l s1 s' i _ _ R' M' _ hl hck hall' r hc'.right;exact ⟨vs',zoa e h1,h2⟩
   have lv:∀ (hst:(zbr o vs g).stays=false) (κ:Int),(zbr o vs g).mem=(zbr o vs g).mem→zah E G n p F B k (zn2 E i o) i κ s.written vs (zbr o vs g).mem M1 R M→
     ∃ vs',zad E G n p F B k (zn2 E i o++zgo E i l) (zkx ats (o::l) i vs g).out vs' (zkx ats (o::l) i vs g).mem M1 R M∧((zkx ats (o::l) i vs g).out.leaves=false→(zkx ats (o::l) i vs g).out.done=ats.length):=by
    intro hst κ _ h1;rw [zk0 cx cv hst,hmk];exact ⟨vs,⟨rfl,hrel.vars,⟨κ,zs0 _ h1⟩⟩,fun h=>by cases h⟩
   have hops:(1≤o.code∧o.code≤25):=by
    have:=(zn0.1 hf).1;unfold isOp at this;rw [decide_eq_true_eq] at this;omega
   by_cases cp:o.code≤15
   ·obtain ⟨R',M',e,r,hst,hm⟩:=zob hrel hA hB hoe ⟨hops.1,cp⟩ i hc'.left
    refine go hst ⟨R',M',e,?_⟩ (hlne (by unfold zju;simp;omega));rw [hm,(hoe.d (zpp zO)).2.2.2];exact r
   by_cases cm:o.code≤19
   ·obtain ⟨h1,h2⟩:=zn8 hrel hA hB hsz hG hoe ⟨by omega,cm⟩ i hc'.left
    cases hst:(zbr o vs g).stays with
    |true=>exact go hst (h1 hst) (hlne (by unfold zju;simp;omega))
    |false=>exact lv hst _ rfl (h2 hst)
   have hwn:writes o= -1:=(by unfold writes;rw [show hasD o.code=false by unfold hasD;rw [decide_eq_false_iff_not];omega];rfl);have hnw:zu3 s.written (writes o)=s.written:=(by unfold zu3;rw [hwn,if_neg zO]);by_cases c21:o.code=21
   ·obtain ⟨h1,h2⟩:=zn7 hrel hA hB hoe c21 i hc'.left
    have hap:=zbu c21 vs g;by_cases hz:getV vs o.a=0
    ·refine lv (by rw [hap];simpa using hz) 2 rfl ?_
     rw [hap];exact h2 hz
    ·obtain ⟨R',e,r⟩:=h1 hz
     refine go (by rw [hap];simpa using hz) ⟨R',M,e,?_⟩ (hlne (by unfold zju;simp;omega));rw [hap,hnw];exact r
   by_cases c22:o.code=22
   ·have hap:zbr o vs g=⟨vs,false,g⟩:=by
     unfold zbr;rw [if_neg zO,if_neg zO,if_neg zO,if_neg zO,if_neg zO,if_pos c22]
    have hfr:zn2 E i o=[zq1 (skIn E 2 i)]:=by
     unfold zn2;rw [if_neg zO,if_neg zO,if_neg zO,if_neg zO,if_neg zO,if_neg zO,if_neg zO,if_pos c22]
    refine lv (by rw [hap]) 2 rfl ?_;rw [hap,hfr];exact ⟨0,zq1 (skIn E 2 i),R,M,rfl,Ex.refl.mono zO,hrel,rfl,.inl ⟨rfl,rfl⟩⟩
   have c23:o.code=23:=(by omega);have hz:getV vs o.a=0:=Decidable.byContradiction fun h=>cx (.inr ⟨c23,h⟩);have hap:=zbx (.inr c23) vs g;obtain ⟨R',e,r⟩:=zod hrel hA hB hoe c23 hz i hc'.left;refine go (by rw [hap]) ⟨R',M,e,?_⟩ (hlne (by unfold zju;simp;omega));rw [hap,hnw];exact r
theorem z8g {a:List Int} (h:AlOk a):∀ j:Nat,j≤28→∃ m,z8d a j=some m∧∀ r:Nat,m.testBit r=true→∃ v:Int,0≤v∧v<(j:Int)∧getV a v=(r:Int)
 |0,_=>⟨0,rfl,fun r hr=>by rw [Nat.zero_testBit] at hr;cases hr⟩
 |j+1,hj=>by
  obtain ⟨m,hm,ih⟩:=z8g h j zO;have hlo:=h.lo (j:Int) zO zO
  have hpc:(j:Int)=19→getV a (j:Int)= -1:=fun e=>by rw [e];exact h.pc
  show ∃ m',(z8d a j).bind _=some m'∧_;rw [hm];show ∃ m',(if getV a (j:Int)< -1∨9≤getV a (j:Int)∨((j:Int)=19∧getV a (j:Int)≠ -1) then none else if 0≤getV a (j:Int) then (if m.testBit (getV a (j:Int)).toNat=true then none else some (m|||2^(getV a (j:Int)).toNat)) else some m)=some m'∧_;rw [if_neg (by rintro (h1|h1|⟨h1,h2⟩);omega;omega;exact h2 (hpc h1))];by_cases h0:0≤getV a (j:Int)
  ·have hno:¬m.testBit (getV a (j:Int)).toNat=true:=fun hb=>by
    obtain ⟨v,v0,v1,hv⟩:=ih _ hb;have:=h.inj v (j:Int) v0 zO zO zO zO (by rw [hv];omega);omega
   rw [if_pos h0,if_neg hno];refine ⟨_,rfl,fun r hr=>?_⟩;rw [Nat.testBit_or,Bool.or_eq_true] at hr;rcases hr with hr|hr
   ·obtain ⟨v,v0,v1,hv⟩:=ih r hr
    exact ⟨v,v0,by omega,hv⟩
   ·have:(getV a (j:Int)).toNat=r:=Classical.byContradiction fun hne=>by rw [Nat.testBit_two_pow_of_ne hne] at hr;cases hr
    exact ⟨(j:Int),by omega,by omega,by omega⟩
  ·rw [if_neg h0]
   refine ⟨_,rfl,fun r hr=>?_⟩;obtain ⟨v,v0,v1,hv⟩:=ih r hr;exact ⟨v,v0,by omega,hv⟩
theorem za4 {a:List Int} (h:AlOk a):za2 a=true:=by
 obtain ⟨m,hm,_⟩:=z8g h 28 (Nat.le_refl _);unfold za2;rw [hm];rfl
structure AlR (a:List Int) (r:Nat):Prop where
 len:a.length=28
 lo:∀ v,0≤v→v<28→ -1≤getV a v∧getV a v<(r:Int)
 pc:getV a 19= -1
 inj:∀ u v,0≤u→u<28→0≤v→v<28→0≤getV a u→getV a u=getV a v→u=v
theorem zvq {v:Int} (h:0≤v∧v<28):getV zvk v= -1:=by
 unfold getV zvk;rw [List.getElem?_replicate,if_pos zO];rfl
theorem zvp:AlR zvk 0:=⟨rfl,fun v h0 h1=>by rw [zvq ⟨h0,h1⟩];omega,rfl,fun u v u0 u1 v0 v1 h=>by rw [zvq ⟨u0,u1⟩] at h;omega⟩
theorem AlR.up {a:List Int} {r s:Nat} (h:AlR a r) (hrs:r≤s):AlR a s:=⟨h.len,fun v h0 h1=>by have:=h.lo v h0 h1;omega,h.pc,h.inj⟩
theorem AlR.ok {a:List Int} {r:Nat} (h:AlR a r) (hr:r≤9):AlOk a:=⟨h.len,fun v h0 h1=>by have:=h.lo v h0 h1;omega,h.pc,h.inj⟩
theorem AlR.range {a:List Int} {r:Nat} (h:AlR a r) (hr:r≤9):∀ v,0≤v→v<28→ -1000≤getV a v∧getV a v≤1000:=fun v h0 h1=>by have:=h.lo v h0 h1;omega
section
variable {w:World} {g:Nat} {vC vS:Value} {X:EmX} {E:Em} {k:Int}
theorem zlr {n:Nat} (hp:EmP E k n X):z5h X 2=z5l X.code.length (skIn E 2 k):=z5i hp.ok (.inl rfl)
theorem zo8 (h:EmAt w g vC vS X) (hp:EmP E k 0 X) (o:BOp) (ho:OpF o):
  Calls Tryz.prog 125 #[pV g,opV o] w fun e w'=>e= .returned (.tuple #[])∧EmTo w w' g vC vS (X.app (rdE E o.a 10++[iI 33 (rrE E o.a 10) 0 2,zq1 (skIn E 2 k)])):=by
 refine zfh [pV g,opV o] Tryz.func125 Tryz.ntmps125 rfl zS ?_;refine z3i ?_;(conv=>whnf);refine z3f fun r w1 hR=>?_;obtain ⟨pb,us,e1,e2,e3⟩:=hR.own 0 _ rfl;obtain rfl:=ziw (us:=opC o) e3;have hB1:=hR.toBelow;have hpb:=zoh h (zoi hR e1);have h1:=h.later hB1;refine ⟨z6d [(0,pV g),(3,pV pb)],fun a' hf=>z6m ⟨z6k hf rfl,z6i hf 3 rfl e1,trivial⟩,?_⟩;clear hR e3;refine z25 (z3h (emG g vC vS) (fun w=>EmTo w1 w g vC vS X) (fun w hB=>EmTo.refl h1 hB) ?_);(conv=>whnf);refine ⟨_,zp3 e2 hpb (k:=0+2) (x:= .int .i64 o.a) rfl,?_⟩;(conv=>whnf);refine zr4 hp (by decide) o.a 10 ho.a fun hp=>?_;(conv=>whnf);refine zrz hp (by decide) 33 (rrE E o.a 10) 0 2 fun hp=>?_;(conv=>whnf);intro w2 _ hl;refine zcd ?_;refine z26 1 rfl rfl rfl ?_;(conv=>whnf);refine zsk hl hp (by decide) 2 (by decide) (skIn E 2 k) (zlr hp) fun hp w2 hl=>?_;(conv=>whnf);refine zb5 ?_;(conv=>whnf)
 exact zmp rfl fun w4 hB=>⟨rfl,by simp only [zbj,List.append_assoc,List.cons_append,List.nil_append] at hl;exact (hl.early hB1).later hB⟩
theorem z6n (h:EmAt w g vC vS X) (hp:EmP E k 0 X) (o:BOp):
  Calls Tryz.prog 126 #[pV g,opV o] w fun e w'=>e= .returned (.tuple #[])∧EmTo w w' g vC vS (X.app [zq1 (skIn E 2 k)]):=by
 refine zfh [pV g,opV o] Tryz.func126 Tryz.ntmps126 rfl zS ?_;refine z3i ?_;(conv=>whnf);refine z3f fun r w1 hR=>?_;have hB1:=hR.toBelow;have h1:=h.later hB1;refine ⟨z6d [(0,pV g)],fun a' hf=>z6m ⟨z6k hf rfl,trivial⟩,?_⟩;clear hR;refine z26 1 rfl rfl rfl ?_;(conv=>whnf);refine zsk (EmTo.refl h1 (Below.refl _ _)) hp (by decide) 2 (by decide) (skIn E 2 k) (zlr hp) fun hp w2 hl=>?_;(conv=>whnf);refine zb5 ?_;(conv=>whnf)
 exact zmp rfl fun w4 hB=>⟨rfl,(hl.early hB1).later hB⟩
theorem z3p {wr v:Nat} {x:Int} (hx:((wr:Nat):Int)=x):andI (x/2^v) 1=(if wr.testBit v=true then 1 else 0):=by
 subst hx
 have e:((wr:Nat):Int)/2^v=((wr/2^v:Nat):Int):=by
  rw [Int.natCast_ediv,Int.natCast_pow];rfl
 rw [e,show (1:Int)=2^1-1 by decide,zbe 1 (Int.natCast_nonneg _)];rw [Nat.testBit_eq_decide_div_mod_eq];by_cases h1:wr/2^v%2=1
 ·rw [if_pos (decide_eq_true h1)];omega
 ·rw [if_neg (by simpa using h1)];omega
theorem z3o (h:EmAt w g vC vS X) {n:Nat} (hp:EmP E k n X) (hn:n≤900) (hw:word X.written):
  Calls Tryz.prog 171 #[pV g] w fun e w'=>e= .returned (.tuple #[])∧EmTo w w' g vC vS (X.app (svE E)):=by
 refine zfh [pV g] Tryz.func171 Tryz.ntmps171 rfl zS ?_;refine z3i ?_;(conv=>whnf);refine z21 ?_;refine z3b (fun j:{j:Nat//j≤19}=>[(0,one (pV g)),(3,one (.int .i64 (j.1:Int)))]) (fun j w'=>EmTo w w' g vC vS (X.app (svTo E j.1))) (fun j=>19-j.1) ⟨0,by omega⟩ Tn (fun r w' hR=>by show EmTo w w' g vC vS (X.app []);rw [zbn];exact EmTo.refl h hR.toBelow) (fun j w' hJ=>?_);obtain ⟨j,hj⟩:=j;dsimp only at hJ⊢;have hpj:=hp.app (svTo E j) (z7v j);refine z3i ?_;(conv=>whnf);refine z3i ?_;(conv=>whnf);refine ⟨fun hc=>?_,fun hc=>?_⟩
 ·have hlt:j<19:=by simp at hc;omega
  conv=>whnf
  refine z3d (α:=Unit) (fun _=>[(0,one (pV g)),(3,one (.int .i64 (j:Int)))]) (fun _ w2=>EmTo w w2 g vC vS (X.app (svTo E (j+1)))) ?_ fun _ w2 hl=>?_
  ·refine z21 ?_
   obtain ⟨vC1,vS1,h2,k2⟩:=hJ.now;refine z3i ?_;(conv=>whnf);refine z3i ?_;(conv=>whnf);refine zz9 (size:=1) g 0 28 (j:Int) rfl rfl rfl rfl rfl rfl zO zO ?_;(conv=>whnf);refine ⟨_,zji h2 zO,?_⟩;(conv=>whnf)
   have hno:¬(0≤getV E.a (j:Int)∧E.written.testBit j=true)→EmTo w w' g vC vS (X.app (svTo E (j+1))):=fun hn=>by
    show EmTo w w' g vC vS (X.app (svTo E j++sv1 E j));unfold sv1;rw [if_neg hn,List.append_nil];exact hJ
   refine ⟨fun ha=>?_,fun ha=>?_⟩
   ·have h0:0≤getV E.a (j:Int):=by rw [hp.ok.a];exact of_decide_eq_true ha
    refine kB ?_;refine ⟨_,zjj h2 (k:=5) (x:= .int .u32 X.written) rfl,?_⟩;refine kB ?_;refine ⟨by omega,X.written/2^j,by rw [Int.fdiv_eq_ediv_of_nonneg _ (Int.le_of_lt (Int.pow_pos (by decide))),Int.toNat_natCast,Nat.min_eq_left (by show j≤32;omega)],?_⟩;refine kB ?_
    have hwv:word (X.written/2^j):=by
     unfold word at hw⊢;exact ⟨Int.ediv_nonneg hw.1 (Int.le_of_lt (Int.pow_pos (by decide))),Int.lt_of_le_of_lt (Int.ediv_le_self _ hw.1) hw.2⟩
    refine ⟨_,z83 hwv (by unfold word;omega),?_⟩;refine kB ?_;rw [z3p (v:=j) (hp.ok.written)];by_cases hb:E.written.testBit j=true
    ·rw [if_pos hb]
     refine kB ?_;refine z23 rfl (fun _=>?_) (fun hc=>Bool.noConfusion (show true=false from hc));refine z26 11 rfl rfl rfl ?_;(conv=>whnf);refine zz9 (size:=1) g 0 28 (j:Int) rfl rfl rfl rfl rfl rfl zO zO ?_;(conv=>whnf);refine ⟨_,zji h2 zO,?_⟩;(conv=>whnf);refine ze2 rfl zK (fun r w' hR=>z1g (getV X.a j) w' (hp.ok.al j zO zO)) ?_;(conv=>whnf);refine ⟨4*(j:Int),wr64 zO,?_⟩;(conv=>whnf);refine ⟨4*(j:Int),by rw [wr32];omega,?_⟩;(conv=>whnf);refine zsf hJ hpj zO 25 (regE (getV X.a j)) 15 (4*(j:Int)) fun _ w2 hl=>?_;(conv=>whnf);refine zb4 (zca () Tn fun r w3 hR=>?_)
     have:EmTo w w2 g vC vS (X.app (svTo E j++sv1 E j)):=by
      unfold sv1;rw [if_pos ⟨h0,hb⟩,hp.ok.a, ← zbj];exact hl
     exact this.later hR.toBelow
    ·rw [if_neg hb]
     refine kB ?_;refine z23 rfl (fun hc=>Bool.noConfusion (show false=true from hc)) (fun _=>z3j (zb4 (zca () Tn fun r w2 hR=>(hno fun hh=>hb hh.2).later hR.toBelow)))
   ·have h0:¬0≤getV E.a (j:Int):=by rw [hp.ok.a];exact of_decide_eq_false ha
    refine kB ?_;refine z23 rfl (fun hc=>Bool.noConfusion (show false=true from hc)) (fun _=>z3j (zb4 (zca () Tn fun r w2 hR=>(hno fun hh=>h0 hh.1).later hR.toBelow)))
  ·refine z3m ?_
   (conv=>whnf);refine ⟨((j+1:Nat):Int),by rw [show (j:Int)+1=((j+1:Nat):Int) by omega];exact wr64 zO,?_⟩;(conv=>whnf);exact zcc ⟨j+1,by omega⟩ Tn (fun r w3 hR=>hl.later hR.toBelow) (by show 19-(j+1)<19-j;omega)
 ·conv=>whnf
  refine zcf (zb6 (zb5 ?_));(conv=>whnf);have:j=19:=(by simp at hc;omega);subst this
  exact zmp rfl fun w2 hB=>⟨rfl,hJ.later hB⟩
end
theorem z55 {w:World} {pb:Nat} {us:List Value} {t:TypeId} {G:Gs} (hb:w.heap[pb]?=some (.cells us.toArray t (0,0))) (hn:pb∉G):zao w G (some ⟨pb,0,none⟩) us:=fun j u hj=>
 ⟨pb,0,rfl,zpz hb,hn,by simp [World.cell?,hb,hj]⟩
section
variable {w0 w:World} {g:Nat} {vC vS:Value} {X1:EmX} {E:Em} {k:Int} {n:Nat} {S:List Ow} {K:Value→World→Prop}
theorem zsl (h:EmTo w0 w g vC vS X1) (hp:EmP E k n X1) (hn:n≤1000) (kind:Int) (hk:kind=4∨kind=6) (fid pb:Nat) (us:List Value) (t:TypeId) (post:SiteP→SiteP) (hok:fnOk Tryz.prog fid=true) (hb:w0.heap[pb]?=some (.cells us.toArray t (0,0))) (hpb:pb∉emG g vC vS) (hcl:∀ w1 b s,zao w1 ⟨[b],[]⟩ (some ⟨pb,0,none⟩) us→w1.heap[b]?=some (.cells (z5k s).toArray siT (0,0))→Calls Tryz.prog fid #[pV b,pV pb] w1 fun e w'=>e= .returned (.tuple #[])∧w'.heap[b]?=some (.cells (z5k (post s)).toArray siT (0,0))∧w1.grownBy w' (some b)) (s:Sk) (hs:post (z5h X1 kind)=z5l X1.code.length s) (hK:EmP E k (n+1) (X1.app [zq1 s])→∀ w',EmTo w0 w' g vC vS (X1.app [zq1 s])→K (.tuple #[]) w'):Jmp Tryz.prog w Gs.nil 117 [one (pV g),one (.int .i64 kind),.p (.c (.clo (.func fid) [.v (pV pb)]))] S K:=by
 refine ⟨by kernel_rfl,fun r w1 us' hR hd=>?_⟩;obtain ⟨u1,l1,rfl,d1,u2,l2,rfl,d2,u3,l3,rfl,d3,d4⟩:=hd;obtain rfl:=zi6 d1;obtain rfl:=zi6 d2;obtain rfl:l3=[]:=d4;obtain ⟨cs,rfl,c1,l4,rfl,d5,d6⟩:=zi0 d3;obtain rfl:l4=[]:=d6;obtain rfl:c1=pV pb:=d5;have hB:=hR.toBelow;have h1:=h.later hB;obtain ⟨vC1,vS1,k1,k2,k3⟩:=h1.now2;have hb1:=h1.blkO hb hpb;have hn1:=k2 pb (zpz hb) hpb
 exact (z7d k1 kind hk fid pb us post hok (z55 hb1 fun hm=>hn1 (zui.1 hm)) hcl (hp.c8 hn) (hp.s8 hn) s hs).mono fun e w2 ⟨he,hl⟩=>⟨_,he,hK (hp.app _ (Nat.le_refl 1)) w2 (k3 _ _ hl)⟩
theorem zsi (h:EmTo w0 w g vC vS X1) (hp:EmP E k n X1) (hn:n≤900) (hw:word X1.written) (hK:EmP E k (n+19) (X1.app (svE E))→∀ w',EmTo w0 w' g vC vS (X1.app (svE E))→K (.tuple #[]) w'):Jmp Tryz.prog w Gs.nil 171 [one (pV g)] S K:=
 zsd _ h (us:=[]) rfl zK (fun w vC1 vS1 k1=>z3o k1 hp hn hw) (hK (hp.app _ (z7v 19)))
end
section
variable {w:World} {g:Nat} {vC vS:Value} {X:EmX} {E:Em} {k:Int}
theorem zlq (h:EmAt w g vC vS X) {n:Nat} (hp:EmP E k n X) (hn:n≤800) (hw:word X.written) (o:BOp):
  Calls Tryz.prog 128 #[pV g,opV o] w fun e w'=>e= .returned (.tuple #[])∧EmTo w w' g vC vS (X.app (exE E o.n)):=by
 refine zfh [pV g,opV o] Tryz.func128 Tryz.ntmps128 rfl zS ?_;refine z3i ?_;(conv=>whnf);refine z3f fun r w1 hR=>?_;obtain ⟨pb,us,e1,e2,e3⟩:=hR.own 0 _ rfl;obtain rfl:=ziw (us:=opC o) e3;have hB1:=hR.toBelow;have hpb:=zoh h (zoi hR e1);have h1:=h.later hB1;refine ⟨z6d [(0,pV g),(3,pV pb)],fun a' hf=>z6m ⟨z6k hf rfl,z6i hf 3 rfl e1,trivial⟩,?_⟩;clear hR e3;refine z25 (z26 1 rfl rfl rfl ?_);(conv=>whnf);refine zsi (EmTo.refl h1 (Below.refl _ _)) hp zO hw fun hp w2 hl=>?_;(conv=>whnf);refine zcd ?_;refine z26 2 rfl rfl rfl ?_;(conv=>whnf);refine zsl hl hp zO 4 (.inl rfl) 172 pb (opC o) _ (fun s=>{s with target:=o.n}) zK e2 hpb (fun w1 b s h1 h2=>zlj o w1 b pb s h1 h2) ⟨4,0,o.n,0,0⟩ (by rw [z5j (by decide)];rfl) fun hp w2 hl=>?_;(conv=>whnf);refine zb5 ?_;(conv=>whnf)
 exact zmp rfl fun w4 hB=>⟨rfl,by rw [zbj] at hl;exact (hl.early hB1).later hB⟩
end
section
variable {w w':World} {g:Nat} {vC vS:Value} {X':EmX} {B:Nat}
theorem zjk (hl:EmTo w w' g vC vS X') (hG:∀ b∈emG g vC vS,B≤b) (hB:B≤w.heap.size):∀ p:Addr,p.block<B→w'.cell? p=w.cell? p:=fun p hp=>
 World.cell?_of_block (hl.blk zO fun hm=>by have:=hG _ hm;omega)
theorem zjm {A:Option Addr} {xs:List Value} (hl:EmTo w w' g vC vS X') (hG:∀ b∈emG g vC vS,B≤b) (hB:B≤w.heap.size) (h:SlAt w B A xs):SlAt w' w'.heap.size A xs:=
 (h.keep (zjk hl hG hB)).more (Nat.le_trans hB hl.held.size)
end
section
variable {w0 w:World} {g:Nat} {vC vS:Value} {X1:EmX} {S:List Ow} {K:Value→World→Prop}
theorem zsg (h:EmTo w0 w g vC vS X1) (hn:X1.code.length≤100000000) (op d a x:Int) (hK:∀ w',EmTo w0 w' g vC vS (X1.app [iI op d a x])→K (.tuple #[]) w'):Jmp Tryz.prog w Gs.nil 116 [one (pV g),one (.int .i64 op),one (.int .i64 d),one (.int .i64 a),one (.int .u32 x)] S K:=
 zsd _ h (us:=[.int .i64 op,.int .i64 d,.int .i64 a,.int .u32 x]) rfl zK (fun w vC1 vS1 k1=>zq5 k1 op d a x hn) hK
end
theorem ybg:∀ (l:List BOp) (o:BOp),ybd (l++[o])=if 0≤writes o then ybd l|||2^(writes o).toNat else ybd l
 |[],o=>by
  show (if 0≤writes o then 2^(writes o).toNat|||0 else 0)=if 0≤writes o then 0|||2^(writes o).toNat else 0
  split
  ·rw [Nat.or_zero,Nat.zero_or]
  ·rfl
 |p::l,o=>by
  have ih:=ybg l o
  show (if 0≤writes p then 2^(writes p).toNat|||ybd (l++[o]) else ybd (l++[o]))=if 0≤writes o then (if 0≤writes p then 2^(writes p).toNat|||ybd l else ybd l)|||2^(writes o).toNat else (if 0≤writes p then 2^(writes p).toNat|||ybd l else ybd l)
  rw [ih];by_cases h1:0≤writes o
  ·rw [if_pos h1,if_pos h1]
   by_cases h2:0≤writes p
   ·rw [if_pos h2,if_pos h2,Nat.or_assoc]
   ·rw [if_neg h2,if_neg h2]
  ·rw [if_neg h1,if_neg h1]
theorem zfn {w:World} {G:Gs} {b off k:Nat} {us:List Value} {x:Value} (h:zac w G b off us) (hx:us[k]?=some x):zac w G b (off+k) [x]:=
 zfu h.1 h.2.1 (h.2.2 k x hx)
theorem le8 (n:Nat) (h:Nat.ble n 100000000=true):n≤100000000:=Nat.le_of_ble_eq_true h
theorem ztd (a:List Int):∀ j,j≤32→ztc a j<2^32
 |0,_=>by show 0<2^32;decide
 |j+1,h=>by
  have ih:=ztd a j zO;show (if _ then _ else _)<_
  split
  ·exact Nat.or_lt_two_pow ih (Nat.pow_lt_pow_right (by decide) zO)
  ·exact ih
theorem zte (X:EmX) (l m:List It) (v v2:Int):({({X.app l with live:=v}:EmX).app m with live:=v2}:EmX)={X.app (l++m) with live:=v2}:=by
 rw [← zbj];rfl
theorem zdu (j:Nat) (hj:j<32):IntKind.u32.wrap (1*2^min ((j:Int)).toNat IntKind.u32.bits)=((2^j:Nat):Int):=by
 have h1:2^j<2^32:=Nat.pow_lt_pow_right (by decide) hj;have h2:(2:Int)^j=((2^j:Nat):Int):=(by rw [Int.natCast_pow];rfl);rw [Int.toNat_natCast,Nat.min_eq_left (by show j≤32;omega),Int.one_mul,h2,wr32];generalize 2^j=z at h1 h2⊢;omega
theorem zxa (n:Nat) (hn:n<2^32) (j:Nat) (hj:j<32):bits .or .u32 (n:Int) ((2^j:Nat):Int)=((n|||2^j:Nat):Int):=by
 have h1:2^j<2^32:=Nat.pow_lt_pow_right (by decide) hj;rw [z84 (by unfold word;omega) (by unfold word;generalize 2^j=z at h1⊢;omega)]
 rfl
theorem ybf:∀ l:List BOp,(∀ o∈l,writes o<28)→ybd l<2^32
 |[],_=>by show 0<2^32;decide
 |o::l,h=>by
  have ih:=ybf l fun p hp=>h p (List.mem_cons_of_mem _ hp);have h1:=h o (List.mem_cons_self ..);show (if 0≤writes o then 2^(writes o).toNat|||ybd l else ybd l)<_
  split
  ·exact Nat.or_lt_two_pow (Nat.pow_lt_pow_right (by decide) zO) ih
  ·exact ih
abbrev emX0 (a:List Int) (size:Int):EmX:=⟨a,size,[],[],0,0,0⟩
abbrev entP (ctx n:Int):List It:=con2 15 ctx++[iI 23 10 15 112,iI 23 11 15 116,iI 16 10 10 n,iI 35 11 10 2,zq1 ⟨1,0,0,0,0⟩,iI 25 10 15 112]
theorem zbg (a:List Int) (size:Int) (l:List It):((emX0 a size).app l).code.length=l.length:=by
 show ([]++l.map (fun it:It=>it.i)).length=_;rw [List.nil_append,List.length_map]
theorem zbh (a:List Int) (size:Int) (l:List It):((emX0 a size).app l).sites.length≤l.length:=by
 show ([]++z5q 0 l).length≤_;rw [List.nil_append];exact z5u 0 l
section
variable {w:World} {g:Nat} {vC vS:Value}
theorem zkd (E:Em) (a:List Int) (size:Int) (B:Nat) (hG:∀ x∈emG g vC vS,B≤x) (hBw:B≤w.heap.size) (h:EmAt w g vC vS (emX0 a size)) (hA:∀ v,0≤v→v<28→ -1000≤getV a v∧getV a v≤1000) (hE:E.a=a) (b:Blk) (A1 A2 A3:Option Addr) (c1 c2 c3:Nat) (ctx:Int) (hctx:word ctx) (hops:OpsAt w B A3 b.ops) (hne:b.ops≠[]) (hlo:b.ops.length≤1000000) (hla:b.at_.length≤1000000) (hn:0≤lenE b) (hbo:∀ o∈b.ops,writes o<28):
  Calls Tryz.prog 68 #[pV g,.agg #[.slice A1 b.at_.length c1,.slice A2 b.pages.length c2,.slice A3 b.ops.length c3],.int .u32 ctx] w fun e w'=>e= .returned (.tuple #[])∧EmTo w w' g vC vS {(emX0 a size).app (entE E ctx (lenE b)) with live:=(ztc a 19:Nat),written:=(ybd b.ops:Nat)}:=by
 refine zfh [pV g,.agg #[.slice A1 b.at_.length c1,.slice A2 b.pages.length c2,.slice A3 b.ops.length c3],.int .u32 ctx] Tryz.func68 Tryz.ntmps68 rfl zS ?_;refine z3i ?_;(conv=>whnf);refine z3f fun r w1 hR=>?_;obtain ⟨pb,us,e1,e2,e3⟩:=hR.own 0 _ rfl;obtain rfl:=ziw (us:=[.slice A1 b.at_.length c1,.slice A2 b.pages.length c2,.slice A3 b.ops.length c3]) e3;have hB1:=hR.toBelow;have hpb:=zoh h (zoi hR e1);have h1:=h.later hB1;refine ⟨z6d [(0,pV g),(2,.int .u32 ctx),(4,pV pb)],fun a' hf=>z6m ⟨z6k hf rfl,z6k hf rfl,z6i hf 4 rfl e1,trivial⟩,?_⟩;clear hR e3;have hl1:EmTo w w1 g vC vS (emX0 a size):=EmTo.refl h hB1;have hBw1:B≤w1.heap.size:=Nat.le_trans hBw hB1.size;have ho1:=zjm hl1 hG hBw hops;have hops1:OpsAt w1 B A3 b.ops:=hops.keep (zjk hl1 hG hBw);have hpos:0<b.ops.length:=List.length_pos_iff.2 hne;refine z3i ?_;(conv=>whnf);refine ⟨_,zd1 (off:=0+0) e2 rfl,?_⟩;(conv=>whnf);refine z3d (α:=Unit) (fun _=>[(0,one (pV g)),(2,one (.int .u32 ctx)),(4,one (pV pb)),(6,one (.int .i64 (lenE b)))]) (fun _ w2=>EmTo w1 w2 g vC vS (emX0 a size)) ?_ fun _ w2 hl=>?_
 ·obtain ⟨bb,off,rfl,hcell⟩:∃ bb off,A3=some ⟨bb,off,none⟩∧∀ (k:Nat) o,b.ops[k]?=some o→zac w1 Gs.nil bb (off+(k:Int).toNat*5) (opC o):=by
   obtain ⟨bb,off,rfl,_⟩:=OpsAt.open_ ho1 hpos;exact ⟨bb,off,rfl,fun k o hk=>zfv ho1 (fun hm=>by rcases hm with hm|hm<;>cases hm) hk⟩
  obtain ⟨o,ho⟩:∃ o,b.ops[b.ops.length-1]?=some o:=⟨_,List.getElem?_eq_getElem zO⟩
  have hlast:b.ops.getLast?=some o:=by rw [List.getLast?_eq_getElem?];exact ho
  have hlen:lenE b=(b.at_.length:Int)-(if o.code=22 then 1 else 0):=by
   unfold lenE;rw [hlast];simp
  have hcell:=zfn (k:=0) (hcell _ _ ho) rfl;refine z3i ?_;(conv=>whnf);refine ⟨_,zd1 (off:=0+2) e2 rfl,?_⟩;(conv=>whnf);refine ⟨_,zd1 (off:=0+2) e2 rfl,?_⟩;(conv=>whnf);refine ⟨((b.ops.length-1:Nat):Int),by rw [show (b.ops.length:Int)-1=((b.ops.length-1:Nat):Int) by omega];exact wr64 zO,?_⟩;(conv=>whnf)
  (refine ⟨⟨by omega,by omega⟩,?_⟩;(conv=>whnf))
  refine ⟨_,hcell,?_⟩;(conv=>whnf);refine z23 rfl (fun hc=>?_) (fun hc=>?_)
  ·have hc:o.code=22:=by simpa using hc
   refine z3m ?_;(conv=>whnf);refine ⟨(b.at_.length:Int)-1,wr64 zO,?_⟩;(conv=>whnf);rw [hlen,if_pos hc];exact zca () Tn fun r w3 hR=>EmTo.refl h1 hR.toBelow
  ·have hc:¬o.code=22:=by simpa using hc
   rw [hlen,if_neg hc,Int.sub_zero];exact z3j (zca () Tn fun r w3 hR=>EmTo.refl h1 hR.toBelow)
 have hn2:lenE b≤1000000:=(by unfold lenE;split<;>omega);obtain ⟨vC1,vS1,h2,k2⟩:=hl.now;refine z3i ?_;(conv=>whnf);refine ze2 rfl zK (fun r w' hR=>zg4 15 ctx w' hctx) ?_;(conv=>whnf);refine z25 (z26 2 rfl rfl rfl ?_);(conv=>whnf);refine zwq (z0h 0 0 2 rfl rfl rfl rfl ?_) rfl;(conv=>whnf);refine zse h2 (zg3 15 ctx) 0 2 rfl rfl (Nat.le_of_ble_eq_true rfl) fun w3 hl3=>?_;(conv=>whnf);refine zcd ?_;have hl4:EmTo w1 w3 g vC vS ((emX0 a size).app (con2 15 ctx)):=(by rw [zgz,zbl];exact k2 _ _ hl3);clear hl3 h2 k2;refine z25 (z26 1 rfl rfl rfl ?_);(conv=>whnf);refine zsg hl4 (by rw [zbg];exact le8 _ rfl) 23 10 15 112 fun w4 hl=>?_;rw [zbj] at hl;(conv=>whnf);refine zcd ?_;refine z25 (z26 1 rfl rfl rfl ?_);(conv=>whnf);refine zsg hl (by rw [zbg];exact le8 _ rfl) 23 11 15 116 fun w4 hl=>?_;rw [zbj] at hl;(conv=>whnf);refine zcd ?_;refine z25 (z26 3 rfl rfl rfl ?_);(conv=>whnf);refine ⟨lenE b,by rw [wr32];omega,?_⟩;(conv=>whnf);refine zsg hl (by rw [zbg];exact le8 _ rfl) 16 10 10 (lenE b) fun w4 hl=>?_;rw [zbj] at hl;(conv=>whnf);refine zcd ?_;refine z25 (z26 1 rfl rfl rfl ?_);(conv=>whnf);refine zsg hl (by rw [zbg];exact le8 _ rfl) 35 11 10 2 fun w4 hl=>?_;rw [zbj] at hl;(conv=>whnf);refine zcd ?_;refine z25 (z26 1 rfl rfl rfl ?_);(conv=>whnf);refine zsd (.tuple #[]) hl (us:=[.int .i64 1,.nilFunc]) rfl zK (fun w vC1 vS1 k1=>z7f k1 1 (by decide) (by rw [zbg];exact le8 _ rfl) (Nat.le_trans (zbh _ _ _) (le8 _ rfl)) ⟨1,0,0,0,0⟩ (by rw [z5j (by decide)])) fun w4 hl=>?_;rw [zbj] at hl;(conv=>whnf);refine zcd ?_;refine z25 (z26 1 rfl rfl rfl ?_);(conv=>whnf);refine zsg hl (by rw [zbg];exact le8 _ rfl) 25 10 15 112 fun w4 hl=>?_;rw [zbj] at hl;(conv=>whnf);refine zcd ?_;simp only [List.append_assoc,List.cons_append,List.nil_append] at hl;have hl:EmTo w1 w4 g vC vS ((emX0 a size).app (entP ctx (lenE b))):=hl;refine z3d (α:=Unit) (fun _=>[(0,one (pV g)),(4,one (pV pb))]) (fun _ w2=>EmTo w1 w2 g vC vS {(emX0 a size).app (entE E ctx (lenE b)) with live:=(ztc a 19:Nat)}) ?_ fun _ w5 hl=>?_
 ·refine z3i ?_
  (conv=>whnf);refine z21 ?_;refine z3b (fun j:{j:Nat//j≤19}=>[(0,one (pV g)),(4,one (pV pb)),(46,one (.int .i64 (j.1:Int)))]) (fun j w'=>EmTo w1 w' g vC vS {(emX0 a size).app (entP ctx (lenE b)++zjz E j.1) with live:=(ztc a j.1:Nat)}) (fun j=>19-j.1) ⟨0,by omega⟩ Tn (fun r w' hR=>by rw [show zjz E 0=[] from rfl,List.append_nil];exact hl.later hR.toBelow) (fun j w' hJ=>?_);obtain ⟨j,hj⟩:=j;dsimp only at hJ⊢;refine z3i ?_;(conv=>whnf);refine z3i ?_;(conv=>whnf);refine ⟨fun hc=>?_,fun hc=>?_⟩
  ·have hlt:j<19:=by simp at hc;omega
   (conv=>whnf);refine z3d (α:=Unit) (fun _=>[(0,one (pV g)),(4,one (pV pb)),(46,one (.int .i64 (j:Int)))]) (fun _ w2=>EmTo w1 w2 g vC vS {(emX0 a size).app (entP ctx (lenE b)++zjz E (j+1)) with live:=(ztc a (j+1):Nat)}) ?_ fun _ w2 hl=>?_
   ·refine z21 ?_
    obtain ⟨vC1,vS1,h2,k2⟩:=hJ.now;refine z3i ?_;(conv=>whnf);refine z3i ?_;(conv=>whnf);refine zz9 (size:=1) g 0 28 (j:Int) rfl rfl rfl rfl rfl rfl zO zO ?_;(conv=>whnf);refine ⟨_,zji h2 zO,?_⟩;(conv=>whnf);refine z23 rfl (fun ha=>?_) (fun ha=>?_)
    ·have h0:0≤getV a (j:Int):=of_decide_eq_true ha
     refine z25 (z26 11 rfl rfl rfl ?_);(conv=>whnf);refine zz9 (size:=1) g 0 28 (j:Int) rfl rfl rfl rfl rfl rfl zO zO ?_;(conv=>whnf);refine ⟨_,zji h2 zO,?_⟩;(conv=>whnf);refine ze2 rfl zK (fun r w' hR=>z1g (getV a j) w' (hA j zO zO)) ?_;(conv=>whnf);refine ⟨4*(j:Int),wr64 zO,?_⟩;(conv=>whnf);refine ⟨4*(j:Int),by rw [wr32];omega,?_⟩;(conv=>whnf);refine zsg hJ (by show ((emX0 a size).app (entP ctx (lenE b)++zjz E j)).code.length≤_;rw [zbg,List.length_append];have:=zj0 (E:=E) j;have:(entP ctx (lenE b)).length=8:=rfl;omega) 23 (regE (getV a j)) 15 (4*(j:Int)) fun w5 hl=>?_;(conv=>whnf);refine zcd ?_;obtain ⟨vC3,vS3,h5,k5⟩:=hl.now
     have hfin:({({(emX0 a size).app (entP ctx (lenE b)++zjz E j) with live:=(ztc a j:Nat)}:EmX).app [iI 23 (regE (getV a j)) 15 (4*(j:Int))] with live:=((ztc a j|||2^j:Nat):Int)}:EmX)={(emX0 a size).app (entP ctx (lenE b)++zjz E (j+1)) with live:=(ztc a (j+1):Nat)}:=by
      rw [show zjz E (j+1)=zjz E j++[iI 23 (regE (getV a j)) 15 (4*(j:Int))] by show zjz E j++ent1 E j=_;unfold ent1;rw [hE,if_pos h0],show ztc a (j+1)=ztc a j|||2^j by show (if _ then _ else _)=_;rw [if_pos h0], ← List.append_assoc];exact zte _ _ _ _ _
     have hlv:(({(emX0 a size).app (entP ctx (lenE b)++zjz E j) with live:=(ztc a j:Nat)}:EmX).app [iI 23 (regE (getV a j)) 15 (4*(j:Int))]).live=((ztc a j:Nat):Int):=rfl;have hlb:ztc a j<2^32:=ztd a j zO;generalize ({(emX0 a size).app (entP ctx (lenE b)++zjz E j) with live:=(ztc a j:Nat)}:EmX).app [iI 23 (regE (getV a j)) 15 (4*(j:Int))]=X3 at hl h5 k5 hfin hlv;refine z3n 0 0 g rfl (emGs g vC3 vS3) (emU X3) fun r2 w6 hR2=>?_;have hB2:=hR2.toBelow;have h6:=h5.later hB2;refine ⟨_,z1m h6,rfl,?_⟩;have hal:=h6.al;clear h5 hR2;obtain ⟨A,sz,code,sites,live,index,written⟩:=X3;dsimp only at hal hfin hlv;subst hlv;obtain ⟨x0,x1,x2,x3,x4,x5,x6,x7,x8,x9,x10,x11,x12,x13,x14,x15,x16,x17,x18,x19,x20,x21,x22,x23,x24,x25,x26,x27,rfl⟩:=zs9 hal;refine z3l (z2x 9 mixed zK ?_);(conv=>whnf);refine ⟨by omega,((2^j:Nat):Int),zdu j zO,?_⟩;(conv=>whnf);refine ⟨((ztc a j|||2^j:Nat):Int),zxa _ hlb j zO,?_⟩;(conv=>whnf);refine zcn 0 0 g rfl (fun r w hR=>hR.first 0 g rfl) fun r w7 hR=>?_;refine zb4 (zca () Tn fun r3 w8 hR3=>?_);have hem:=zjl (X':=⟨[x0,x1,x2,x3,x4,x5,x6,x7,x8,x9,x10,x11,x12,x13,x14,x15,x16,x17,x18,x19,x20,x21,x22,x23,x24,x25,x26,x27],sz,code,sites,((ztc a j|||2^j:Nat):Int),index,written⟩) (i1:=1) (i2:=2) hR rfl rfl rfl rfl (by decide);rw [hfin] at hem;exact (k5 _ _ (hem.early hB2)).later hR3.toBelow
    ·have h0:¬0≤getV a (j:Int):=of_decide_eq_false ha
     refine z3j (zb4 (zca () Tn fun r w3 hR=>?_));rw [show zjz E (j+1)=zjz E j by show zjz E j++ent1 E j=_;unfold ent1;rw [hE,if_neg h0,List.append_nil],show ztc a (j+1)=ztc a j by show (if _ then _ else _)=_;rw [if_neg h0]];exact hJ.later hR.toBelow
   ·refine z3m ?_
    (conv=>whnf);refine ⟨((j+1:Nat):Int),by rw [show (j:Int)+1=((j+1:Nat):Int) by omega];exact wr64 zO,?_⟩;(conv=>whnf);exact zcc ⟨j+1,by omega⟩ Tn (fun r w3 hR=>hl.later hR.toBelow) (by show 19-(j+1)<19-j;omega)
  ·conv=>whnf
   have:j=19:=(by simp at hc;omega);subst this;refine zcf (zb6 (zca () Tn fun r w3 hR=>?_));rw [show entE E ctx (lenE b)=entP ctx (lenE b)++zjz E 19 by unfold entE;rw [← List.append_assoc]];exact hJ.later hR.toBelow
 have e5:=hl.blkO e2 hpb;have hX5:({(emX0 a size).app (entE E ctx (lenE b)) with live:=(ztc a 19:Nat)}:EmX)={(emX0 a size).app (entE E ctx (lenE b)) with live:=(ztc a 19:Nat),written:=((ybd (b.ops.take 0):Nat):Int)}:=rfl;rw [hX5] at hl;clear hX5;refine z3i ?_;(conv=>whnf);refine ⟨_,zd1 (off:=0+2) e5 rfl,?_⟩;(conv=>whnf);refine z21 ?_;refine z3b (fun j:{j:Nat//j≤b.ops.length}=>[(0,one (pV g)),(79,one (.slice A3 b.ops.length c3)),(80,one (.int .i64 (b.ops.length:Int))),(81,one (.int .i64 (j.1:Int)))]) (fun j w'=>EmTo w1 w' g vC vS {(emX0 a size).app (entE E ctx (lenE b)) with live:=(ztc a 19:Nat),written:=((ybd (b.ops.take j.1):Nat):Int)}) (fun j=>b.ops.length-j.1) ⟨0,by omega⟩ Tn (fun r w' hR=>hl.later hR.toBelow) (fun j w' hJ=>?_);obtain ⟨j,hj⟩:=j;dsimp only at hJ⊢;refine z3i ?_;(conv=>whnf);refine z3i ?_;(conv=>whnf);refine ⟨fun hc=>?_,fun hc=>?_⟩
 ·have hlt:j<b.ops.length:=by simpa using hc
  obtain ⟨o,ho⟩:∃ o,b.ops[j]?=some o:=⟨_,List.getElem?_eq_getElem hlt⟩
  have hom:=List.mem_of_getElem? ho;have ho2:=zjm hJ hG hBw1 hops1;(conv=>whnf);refine z3d (α:=Unit) (fun _=>[(0,one (pV g)),(79,one (.slice A3 b.ops.length c3)),(80,one (.int .i64 (b.ops.length:Int))),(81,one (.int .i64 (j:Int)))]) (fun _ w2=>EmTo w1 w2 g vC vS {(emX0 a size).app (entE E ctx (lenE b)) with live:=(ztc a 19:Nat),written:=((ybd (b.ops.take (j+1)):Nat):Int)}) ?_ fun _ w2 hl=>?_
  ·refine z21 ?_
   have htk:b.ops.take (j+1)=b.ops.take j++[o]:=by
    rw [List.take_add_one,ho];rfl
   have hwr:=ybg (b.ops.take j) o;rw [← htk] at hwr
   have hcl:∃ bb off,A3=some ⟨bb,off,none⟩∧zac w' Gs.nil bb (off+(j:Int).toNat*5) (opC o):=by
    obtain ⟨bb,off,rfl,_⟩:=OpsAt.open_ ho2 hpos;exact ⟨bb,off,rfl,zfv ho2 (fun hm=>by rcases hm with hm|hm<;>cases hm) ho⟩
   obtain ⟨bb,off,hA3,hcl⟩:=hcl;rw [hA3];obtain ⟨vC3,vS3,h5,k5⟩:=hJ.now;refine z3i ?_;(conv=>whnf)
   (refine ⟨⟨by omega,by omega⟩,?_⟩;(conv=>whnf))
   refine ⟨opC o,hcl,rfl,?_⟩;(conv=>whnf);refine z3i ?_;(conv=>whnf);refine ze2 rfl zK (fun r w' hR=>ybi o w') ?_;(conv=>whnf);refine z3i ?_;(conv=>whnf);refine z23 rfl (fun hc=>?_) (fun hc=>?_)
   ·have hc:0≤writes o:=of_decide_eq_true hc
    rw [if_pos hc] at hwr;have hwb:=hbo o hom;have hlb:ybd (b.ops.take j)<2^32:=ybf _ fun p hp=>hbo p (List.mem_of_mem_take hp);have hwn:writes o=((writes o).toNat:Int):=(by omega);generalize (writes o).toNat=d at hwn hwr;rw [hwn];rw [hwr];have hlv:({(emX0 a size).app (entE E ctx (lenE b)) with live:=(ztc a 19:Nat),written:=((ybd (b.ops.take j):Nat):Int)}:EmX).written=((ybd (b.ops.take j):Nat):Int):=rfl;have hfin:({({(emX0 a size).app (entE E ctx (lenE b)) with live:=(ztc a 19:Nat),written:=((ybd (b.ops.take j):Nat):Int)}:EmX) with written:=((ybd (b.ops.take j)|||2^d:Nat):Int)}:EmX)={(emX0 a size).app (entE E ctx (lenE b)) with live:=(ztc a 19:Nat),written:=((ybd (b.ops.take j)|||2^d:Nat):Int)}:=rfl;generalize ({(emX0 a size).app (entE E ctx (lenE b)) with live:=(ztc a 19:Nat),written:=((ybd (b.ops.take j):Nat):Int)}:EmX)=X3 at h5 k5 hfin hlv;refine z3n 0 0 g rfl (emGs g vC3 vS3) (emU X3) fun r2 w6 hR2=>?_;have hB2:=hR2.toBelow;have h6:=h5.later hB2;refine ⟨_,z1m h6,rfl,?_⟩;have hal:=h6.al;clear h5 hR2;obtain ⟨A,sz,code,sites,live,index,written⟩:=X3;dsimp only at hal hfin hlv;subst hlv;obtain ⟨x0,x1,x2,x3,x4,x5,x6,x7,x8,x9,x10,x11,x12,x13,x14,x15,x16,x17,x18,x19,x20,x21,x22,x23,x24,x25,x26,x27,rfl⟩:=zs9 hal;refine z3l (z2x 9 mixed zK ?_);(conv=>whnf);refine ⟨by omega,((2^d:Nat):Int),zdu d zO,?_⟩;(conv=>whnf);refine ⟨((ybd (b.ops.take j)|||2^d:Nat):Int),zxa _ hlb d zO,?_⟩;(conv=>whnf);refine zcn 0 0 g rfl (fun r w hR=>hR.first 0 g rfl) fun r w7 hR=>?_;refine zb4 (zca () Tn fun r3 w8 hR3=>?_);have hem:=zjl (X':=⟨[x0,x1,x2,x3,x4,x5,x6,x7,x8,x9,x10,x11,x12,x13,x14,x15,x16,x17,x18,x19,x20,x21,x22,x23,x24,x25,x26,x27],sz,code,sites,live,index,((ybd (b.ops.take j)|||2^d:Nat):Int)⟩) (i1:=1) (i2:=2) hR rfl rfl rfl rfl (by decide);rw [hfin] at hem;exact (k5 _ _ (hem.early hB2)).later hR3.toBelow
   ·have hc:¬0≤writes o:=of_decide_eq_false hc
    rw [if_neg hc] at hwr;rw [hwr];exact z3j (zb4 (zca () Tn fun r3 w8 hR3=>hJ.later hR3.toBelow))
  ·refine z3m ?_
   (conv=>whnf);refine ⟨((j+1:Nat):Int),by rw [show (j:Int)+1=((j+1:Nat):Int) by omega];exact wr64 zO,?_⟩;(conv=>whnf);exact zcc ⟨j+1,by omega⟩ Tn (fun r w3 hR=>hl.later hR.toBelow) (by show b.ops.length-(j+1)<b.ops.length-j;omega)
 ·have hj:j=b.ops.length:=by simp at hc;omega
  subst hj;rw [List.take_length] at hJ;(conv=>whnf);refine zcf (zb6 (zb5 ?_));(conv=>whnf)
  exact zmp rfl fun w9 hB=>⟨rfl,(hJ.early hB1).later hB⟩
end
end Go.Proofs.YtocafomnnkmjfaaGreat
