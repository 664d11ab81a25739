import Derived.Test.YtocafomnnkmjfaaGreatK25
set_option maxRecDepth 100000
namespace Go.Proofs.YtocafomnnkmjfaaGreat
open Go.RowKit
theorem zc8 {M N:MemP} {a r:Int}:∀ {i k:Nat},(∀ j,i≤j→j<i+k→M.right ((a+j)%4294967296) r=N.right ((a+j)%4294967296) r)→M.bad a r i k=N.bad a r i k
 |i,0,_=>rfl
 |i,k+1,h=>by
  unfold MemP.bad;rw [h i (Nat.le_refl _) zO,zc8 (i:=i+1) (k:=k) fun j h1 h2=>h j zO zO]
theorem z1z {M:MemP} {n p:Nat} (hM:M.ok n p) {y r:Int} (h:M.right y r=true):y<n:=by
 unfold MemP.right at h;simp only [Bool.and_eq_true,decide_eq_true_eq] at h;have:=h.1;rw [hM.ld] at this;exact this
def zls (i:QI) (R:Int→Int) (M:MemP):Prop:=23≤i.op∧i.op≤26∧M.bad ((R i.a+i.imm)%4294967296) (if i.op≤24 then 1 else 2) 0 (if i.op=23∨i.op=25 then 4 else 1)≠none
section
variable {E:Em} {G n p W:Nat} {vs:List Int} {g M1:MemP} {R:Int→Int} {M:MemP} {F:Int→Option QI} {B:Int} {k:Nat}
theorem RelE.rng (h:RelE E G n p W vs g M1 R M) {A r:Int} (hA:word A) (hr:r=1∨r=2) {m:Nat} (hm:1≤m∧m≤4):(A+m≤256*(G:Int)→M.bad A r 0 m=g.bad A r 0 m)∧(¬A+m≤256*(G:Int)→g.bad A r 0 m≠none):=by
 have hs:=h.size;unfold word at hA
 constructor
 ·intro hle
  refine zc8 fun j _ hj=>?_;have e:(A+j)%4294967296=A+j:=(by omega);rw [e];exact h.grr _ r zO zO hr
 ·intro hle hn
  have hb:=zc9.1 hn;have h0:=z1z h.gok (hb 0 (Nat.le_refl _) zO);have h1:=z1z h.gok (hb (m-1) zO zO);omega
theorem RelE.gst (h:RelE E G n p W vs g M1 R M) {A x:Int} (hA:0≤A) {m:Nat} (hle:A+m≤256*(G:Int)) (hx:word x):RelE E G n p W vs (MemP.store A 0 m x g) M1 R (MemP.store A 0 m x M):=by
 have hs:=h.size;have hg:=fun y hy=>z7o hA zO 0 m x h.mem hx.1 zO y hy;have hg2:=fun y hy=>z7o hA zO 0 m x h.gok hx.1 zO y hy;obtain ⟨k1,k2,k3⟩:=z7p A 0 m x M;obtain ⟨j1,j2,j3⟩:=z7p A 0 m x g
 have hr:∀ y r,(MemP.store A 0 m x M).right y r=M.right y r:=fun y r=>by unfold MemP.right;rw [k2,k3]
 have hr2:∀ y r,(MemP.store A 0 m x g).right y r=g.right y r:=fun y r=>by unfold MemP.right;rw [j2,j3]
 have hl:∀ v,0≤v→v<64→(MemP.store A 0 m x M).load (cxE G v) 0 4=M.load (cxE G v) 0 4:=fun v h0 h1=>by
  refine ztj (by unfold cxE;omega) 0 4 (by unfold cxE;omega) fun y h2 h3=>?_;rw [hg y (by unfold cxE at h2;omega),if_neg (by unfold cxE at*;omega)]
 refine ⟨h.vars,z7q A 0 m x h.mem hx.1,z7q A 0 m x h.gok hx.1,h.gp,h.reg,h.zero,h.base,h.inR,fun v hv hva=>?_,fun v h0 h1 h2 h3=>?_,fun y h0 h1=>?_,fun y r h0 h1 h2=>?_,fun y h0 h1 r h2=>?_,fun y hy=>?_,(zl0 k1 k2 k3).trans h.fet⟩
 ·rw [hl v hv.1 (by have:=hv.2.1;omega)];exact h.inM v hv hva
 ·rw [hl v h0 zO];exact h.old v h0 h1 h2 h3
 ·rw [hg y h0,hg2 y h0,h.guest y h0 h1]
 ·rw [hr,hr2];exact h.grr y r h0 h1 h2
 ·rw [hr];exact h.crr y h0 h1 r h2
 ·rw [hg y zO,if_neg zO];exact h.keep y hy
def zah (E:Em) (G n p:Nat) (F:Int→Option QI) (B:Int) (k:Nat) (l:List It) (i κ:Int) (W:Nat) (vs:List Int) (g M1:MemP) (R:Int→Int) (M:MemP):Prop:=
 ∃ j it R' M',l[j]?=some it∧Ex F B k R M (k+j) R' M' l.length∧RelE E G n p W vs g M1 R' M'∧it.s=some (skIn E κ i)∧((κ=2∧it=zq1 (skIn E 2 i))∨(κ=3∧zls it.i R' M'))
theorem zas (h:RelE E G n p W vs g M1 R M) (hA:AlOk E.a) (hB:0≤B∧B≤4000000000) (hsz:E.size=256*(G:Int)) (hG:1≤G) {o:BOp} (ha:zsw W o.a) (hn:word o.n) {m:Int} (hm:1≤m∧m≤4) {st:It} {l:List It} (hc:Cd F B k (rdE E o.a 10++(adE E o++(conE 13 (E.size-m)++([iI 35 13 12 2,st]++l))))):
  ∃ R',RelE E G n p W vs g M1 R' M∧R' 12=(getV vs o.a+o.n)%4294967296∧Ex F B k R M (k+(rdE E o.a 10).length+(adE E o).length+(conE 13 (E.size-m)).length+if (getV vs o.a+o.n)%4294967296+m≤256*(G:Int) then 2 else 1) R' M ((rdE E o.a 10).length+(adE E o).length+(conE 13 (E.size-m)).length+1):=by
 have hs:=h.size;have hwa:=zop h.vars o.a
 obtain ⟨A,hAe⟩:∃ A,A=(getV vs o.a+o.n)%4294967296:=⟨_,rfl⟩
 have hAw:word A:=(by rw [hAe];exact yau _);rw [← hAe];obtain ⟨R1,e1,r1,v1,_⟩:=h.read hA hB ha (.inl rfl) hc.left;have hc1:=hc.right
 have k2:∃ R2,Ex F B (k+(rdE E o.a 10).length) R1 M (k+(rdE E o.a 10).length+(adE E o).length) R2 M (adE E o).length∧RelE E G n p W vs g M1 R2 M∧R2 12=A:=by
  have hc2:=hc1.left;unfold adE at hc2⊢;by_cases hf:zm1 o.n=true
  ·rw [if_pos hf] at hc2⊢
   have e2:=zk7 (R:=R1) (M:=M) hB hc2;rw [v1, ← hAe] at e2;exact ⟨_,e2,r1.upd hA zO hAw,z86 zO⟩
  ·rw [if_neg hf] at hc2⊢
   have e2:=zla (R:=R1) (M:=M) hB hc2.left (by decide) hn;have r2:=r1.upd hA (d:=13) zO hn;have e3:=zli (R:=updR R1 13 o.n) (M:=M) hB hc2.right zO (fun h=>by omega)
   have hx:yaq (zzu 1) (updR R1 13 o.n (rrE E o.a 10)) (updR R1 13 o.n 13)=A:=by
    rw [z87 (z16 _ zO),v1,z86 (by decide),hAe];rfl
   rw [hx] at e3;exact ⟨_,e2.trans e3,r2.upd hA zO hAw,z86 zO⟩
 obtain ⟨R2,e2,r2,v2⟩:=k2;have hc3:=hc1.right;have hcw:word (E.size-m):=(by unfold word;omega);have e3:=zk9 (R:=R2) (M:=M) hB hc3.left (by decide) hcw r2.zero;have r3:=r2.upd hA (d:=13) zO hcw;have hc4:=hc3.right;have e4:=zk8 (R:=updR R2 13 (E.size-m)) (M:=M) hB (e:=2) hc4 (.inr (.inr rfl)) (by have:=hc4.1;simp at this;omega)
 have hbr:brE 35 (updR R2 13 (E.size-m) 13) (updR R2 13 (E.size-m) 12)=decide (A+m≤256*(G:Int)):=by
  rw [z86 (by decide),z87 (by decide),v2];show decide (¬E.size-m<A)=_;exact decide_eq_decide.2 (by rw [hsz];omega)
 rw [hbr] at e4;refine ⟨_,r3,(z87 (by decide)).trans v2,?_⟩;have e:=((e1.trans e2).trans e3).trans e4;by_cases hle:A+m≤256*(G:Int)
 ·rw [if_pos (by simpa using hle)] at e
  rw [if_pos hle];exact e
 ·rw [if_neg (by simpa using hle)] at e
  rw [if_neg hle];exact e
theorem zoj {α:Type} {l m:List α} {j:Nat}:(l++m)[l.length+j]?=m[j]?:=by rw [List.getElem?_append_right zO,Nat.add_sub_cancel_left]
theorem zn8 (h:RelE E G n p W vs g M1 R M) (hA:AlOk E.a) (hB:0≤B∧B≤4000000000) (hsz:E.size=256*(G:Int)) (hG:1≤G) {o:BOp} (ho:OpE E W o) (hp:16≤o.code∧o.code≤19) (i:Int) (hc:Cd F B k (zn2 E i o)):
  ((zbr o vs g).stays=true→∃ R' M',Ex F B k R M (k+(zn2 E i o).length) R' M' (zn2 E i o).length∧RelE E G n p (zu3 W (writes o)) (zbr o vs g).vs (zbr o vs g).mem M1 R' M')∧
  ((zbr o vs g).stays=false→zah E G n p F B k (zn2 E i o) i (if (getV vs o.a+o.n)%4294967296+szE o.code≤256*(G:Int) then 3 else 2) W vs (zbr o vs g).mem M1 R M):=by
 have hs:=h.size
 obtain ⟨A,hAe⟩:∃ A,A=(getV vs o.a+o.n)%4294967296:=⟨_,rfl⟩
 have hAw:word A:=by rw [hAe];exact yau _
 have hm:szE o.code=1∨szE o.code=4:=by unfold szE;split<;>simp
 have hszN:((szN o.code:Nat):Int)=szE o.code:=by unfold szE szN;split<;>rfl
 have hmN:1≤szN o.code∧szN o.code≤4:=by omega
 have hfr:zn2 E i o=rdE E o.a 10++(adE E o++(conE 13 (E.size-szE o.code)++([iI 35 13 12 2,zq1 (skIn E 2 i)]++
   (if 18≤o.code then rdE E o.b 11++[⟨⟨ldE o.code+2,rrE E o.b 11,12,0,0⟩,some (skIn E 3 i)⟩]
    else [⟨⟨ldE o.code,tgE E o.d,12,0,0⟩,some (skIn E 3 i)⟩]++dnE E o.d)))):=by
  unfold zn2;rw [if_neg zO,if_neg zO,if_neg zO,if_neg zO,if_neg zO,if_pos hp];unfold accE;rw [if_neg zO]
 rw [hfr] at hc⊢;have ha:=ho.a (zpn zO);obtain ⟨R1,r1,v1,e1⟩:=zas h hA hB hsz hG ha ho.ok.n (m:=szE o.code) zO hc;rw [← hAe] at v1 e1⊢
 obtain ⟨P,hP⟩:∃ P,P=(rdE E o.a 10).length+(adE E o).length+(conE 13 (E.size-szE o.code)).length:=⟨_,rfl⟩
 have hcr:=hc.right.right.right.right
 have slow:¬A+szE o.code≤256*(G:Int)→zah E G n p F B k (rdE E o.a 10++(adE E o++(conE 13 (E.size-szE o.code)++([iI 35 13 12 2,zq1 (skIn E 2 i)]++
   (if 18≤o.code then rdE E o.b 11++[⟨⟨ldE o.code+2,rrE E o.b 11,12,0,0⟩,some (skIn E 3 i)⟩]
    else [⟨⟨ldE o.code,tgE E o.d,12,0,0⟩,some (skIn E 3 i)⟩]++dnE E o.d))))) i 2 W vs g M1 R M:=fun hle=>by
  rw [if_neg hle] at e1;refine ⟨P+1,zq1 (skIn E 2 i),R1,M,?_,?_,r1,rfl,.inl ⟨rfl,rfl⟩⟩
  ·rw [hP,Nat.add_assoc,Nat.add_assoc,zoj,zoj,zoj];rfl
  ·rw [show k+(P+1)=k+(rdE E o.a 10).length+(adE E o).length+(conE 13 (E.size-szE o.code)).length+1 by omega]
   exact e1.mono (by simp only [List.length_append,List.length_cons,List.length_nil];omega)
 by_cases hst:18≤o.code
 ·rw [if_pos hst] at hc hcr slow⊢
  have hb:=ho.b (zpn zO) (by unfold hasB;rw [decide_eq_true_eq];omega);have hwb:=zop h.vars o.b
  have hap:zbr o vs g=⟨vs,(g.bad A 2 0 (szN o.code)).isNone,g.storeM A (szN o.code) (getV vs o.b)⟩:=by
   unfold zbr;rw [if_neg zO,if_neg zO,if_neg zO,if_pos zO,hAe]
  have hwr:zu3 W (writes o)=W:=by
   have:writes o= -1:=(by unfold writes;rw [show hasD o.code=false by unfold hasD;rw [decide_eq_false_iff_not];omega];rfl);unfold zu3;rw [this,if_neg zO]
  rw [hap,hwr];obtain ⟨q1,q2⟩:=r1.rng hAw (r:=2) (.inr rfl) hmN;rw [hszN] at q1 q2
  have hop:ldE o.code+2=25∧szN o.code=4∨ldE o.code+2=26∧szN o.code=1:=by
   unfold ldE szN;by_cases hx:o.code=17∨o.code=19
   ·rw [if_pos hx,if_pos hx];exact .inr ⟨rfl,rfl⟩
   ·rw [if_neg hx,if_neg hx];exact .inl ⟨rfl,rfl⟩
  by_cases hle:A+szE o.code≤256*(G:Int)
  ·rw [if_pos hle] at e1⊢
   obtain ⟨R2,e2,r2,v2,s2⟩:=r1.read hA hB hb (.inr rfl) hcr.left;have v12:R2 12=A:=(s2 12 zO).trans v1;have hadr:(R2 12+0)%4294967296=A:=(by rw [v12];unfold word at hAw;omega);have hpl:k+(rdE E o.a 10).length+(adE E o).length+(conE 13 (E.size-szE o.code)).length+[iI 35 13 12 2,zq1 (skIn E 2 i)].length=k+(rdE E o.a 10).length+(adE E o).length+(conE 13 (E.size-szE o.code)).length+2:=rfl;rw [hpl] at e2
   constructor
   ·intro hbn
    have hbn':g.bad A 2 0 (szN o.code)=none:=(by simpa using hbn);have hbM:=(q1 hle).trans hbn'
    have e3:Ex F B (k+(rdE E o.a 10).length+(adE E o).length+(conE 13 (E.size-szE o.code)).length+2+(rdE E o.b 11).length) R2 M (k+(rdE E o.a 10).length+(adE E o).length+(conE 13 (E.size-szE o.code)).length+2+(rdE E o.b 11).length+1) R2 (MemP.store A 0 (szN o.code) (getV vs o.b) M) 1:=by
     have hc3:=hcr.right;rcases hop with ⟨h1,h2⟩|⟨h1,h2⟩
     ·rw [h1] at hc3
      have:=zlh (R:=R2) (M:=M) hB hc3 (by rw [hadr, ← h2];exact hbM);rw [hadr,v2] at this;rw [h2];exact this
     ·rw [h1] at hc3
      have:=zlg (R:=R2) (M:=M) hB hc3 (by rw [hadr, ← h2];exact hbM);rw [hadr,v2] at this;rw [h2];exact this
    have hsm:g.storeM A (szN o.code) (getV vs o.b)=MemP.store A 0 (szN o.code) (getV vs o.b) g:=(by unfold MemP.storeM;rw [hbn']);rw [hsm];refine ⟨R2,_,?_,r2.gst hAw.1 (by rw [hszN];exact hle) hwb⟩;have e:=(e1.trans e2).trans e3;simp only [List.length_append,List.length_cons,List.length_nil, ← Nat.add_assoc] at e⊢;exact e.mono zO
   ·intro hbn
    have hbn':g.bad A 2 0 (szN o.code)≠none:=fun e=>by rw [e] at hbn;cases hbn
    have hbM:M.bad A 2 0 (szN o.code)≠none:=by rw [q1 hle];exact hbn'
    have hsm:g.storeM A (szN o.code) (getV vs o.b)=g:=by
     unfold MemP.storeM
     cases hq:g.bad A 2 0 (szN o.code) with
     |none=>exact absurd hq hbn'
     |some y=>rfl
    rw [hsm];refine ⟨P+2+(rdE E o.b 11).length,⟨⟨ldE o.code+2,rrE E o.b 11,12,0,0⟩,some (skIn E 3 i)⟩,R2,M,?_,?_,r2,rfl,.inr ⟨rfl,?_⟩⟩
    ·rw [show P+2+(rdE E o.b 11).length=(rdE E o.a 10).length+((adE E o).length+((conE 13 (E.size-szE o.code)).length+([iI 35 13 12 2,zq1 (skIn E 2 i)].length+((rdE E o.b 11).length+0)))) by rw [hP];simp only [List.length_cons,List.length_nil];omega,zoj,zoj,zoj,zoj,zoj]
     rfl
    ·rw [show k+(P+2+(rdE E o.b 11).length)=k+(rdE E o.a 10).length+(adE E o).length+(conE 13 (E.size-szE o.code)).length+2+(rdE E o.b 11).length by omega]
     exact (e1.trans e2).mono (by simp only [List.length_append,List.length_cons,List.length_nil];omega)
    ·refine ⟨by show 23≤ldE o.code+2;omega,by show ldE o.code+2≤26;omega,?_⟩
     show M.bad ((R2 12+0)%4294967296) (if ldE o.code+2≤24 then 1 else 2) 0 (if ldE o.code+2=23∨ldE o.code+2=25 then 4 else 1)≠none;rw [hadr,if_neg zO];rcases hop with ⟨h1,h2⟩|⟨h1,h2⟩
     ·rw [if_pos zO, ← h2];exact hbM
     ·rw [if_neg zO, ← h2];exact hbM
  ·rw [if_neg hle]
   have hbn:=q2 hle
   have hsm:g.storeM A (szN o.code) (getV vs o.b)=g:=by
    unfold MemP.storeM
    cases hq:g.bad A 2 0 (szN o.code) with
    |none=>exact absurd hq hbn
    |some y=>rfl
   constructor
   ·intro hx
    exact absurd (by simpa using hx) hbn
   ·intro _
    rw [hsm];exact slow hle
 ·rw [if_neg hst] at hc hcr slow⊢
  obtain ⟨hd,h19,hwr,hwd⟩:=ho.d (zpp zO);rw [hwd]
  have hap:zbr o vs g=(match g.bad A 1 0 (szN o.code) with
    |none=>⟨vs.set o.d.toNat (g.load A 0 (szN o.code)),true,g⟩
    |some _=>⟨vs,false,g⟩):=by
   unfold zbr;rw [if_neg zO,if_neg zO,if_pos zO,hAe]
   cases g.bad ((getV vs o.a+o.n)%4294967296) 1 0 (szN o.code)<;>rfl
  obtain ⟨q1,q2⟩:=r1.rng hAw (r:=1) (.inl rfl) hmN;rw [hszN] at q1 q2
  have hop:ldE o.code=23∧szN o.code=4∨ldE o.code=24∧szN o.code=1:=by
   unfold ldE szN;by_cases hx:o.code=17∨o.code=19
   ·rw [if_pos hx,if_pos hx];exact .inr ⟨rfl,rfl⟩
   ·rw [if_neg hx,if_neg hx];exact .inl ⟨rfl,rfl⟩
  have hadr:(R1 12+0)%4294967296=A:=by rw [v1];unfold word at hAw;omega
  by_cases hle:A+szE o.code≤256*(G:Int)
  ·rw [if_pos hle] at e1⊢
   cases hbg:g.bad A 1 0 (szN o.code) with
   |none=>
    rw [hbg] at hap;rw [hap];refine ⟨fun _=>?_,fun h=>by cases h⟩;have hbM:=(q1 hle).trans hbg;have hld:M.load A 0 (szN o.code)=g.load A 0 (szN o.code):=ztj hAw.1 0 _ (by push_cast;omega) fun y h1 h2=>r1.guest y (by unfold word at hAw;push_cast at h1;omega) (by push_cast at h2;omega)
    have e3:Ex F B (k+(rdE E o.a 10).length+(adE E o).length+(conE 13 (E.size-szE o.code)).length+2) R1 M (k+(rdE E o.a 10).length+(adE E o).length+(conE 13 (E.size-szE o.code)).length+2+1) (updR R1 (tgE E o.d) (g.load A 0 (szN o.code))) M 1:=by
     have hc3:=hcr.left;rcases hop with ⟨h1,h2⟩|⟨h1,h2⟩
     ·rw [h1] at hc3
      have:=zlc (R:=R1) (M:=M) hB hc3 (by rw [hadr, ← h2];exact hbM);rw [hadr] at this;rw [← hld,h2];exact this
     ·rw [h1] at hc3
      have:=zlb (R:=R1) (M:=M) hB hc3 (by rw [hadr, ← h2];exact hbM);rw [hadr] at this;rw [← hld,h2];exact this
    obtain ⟨R',M',e,r⟩:=r1.fin hA hB hd h19 (zto g A 0 (szN o.code)) hwr (e1.trans e3) hcr.right;refine ⟨R',M',?_,r⟩;simp only [List.length_append,List.length_cons,List.length_nil, ← Nat.add_assoc] at e⊢;exact e.mono zO
   |some y=>
    rw [hbg] at hap;rw [hap];refine ⟨(fun h=>by cases h),fun _=>?_⟩
    have hbM:M.bad A 1 0 (szN o.code)≠none:=by rw [q1 hle,hbg];exact fun h=>by cases h
    refine ⟨P+2,⟨⟨ldE o.code,tgE E o.d,12,0,0⟩,some (skIn E 3 i)⟩,R1,M,?_,?_,r1,rfl,.inr ⟨rfl,?_⟩⟩
    ·rw [show P+2=(rdE E o.a 10).length+((adE E o).length+((conE 13 (E.size-szE o.code)).length+([iI 35 13 12 2,zq1 (skIn E 2 i)].length+0))) by rw [hP];simp only [List.length_cons,List.length_nil];omega,zoj,zoj,zoj,zoj]
     rfl
    ·rw [show k+(P+2)=k+(rdE E o.a 10).length+(adE E o).length+(conE 13 (E.size-szE o.code)).length+2 by omega]
     exact e1.mono (by simp only [List.length_append,List.length_cons,List.length_nil];omega)
    ·refine ⟨by show 23≤ldE o.code;omega,by show ldE o.code≤26;omega,?_⟩
     show M.bad ((R1 12+0)%4294967296) (if ldE o.code≤24 then 1 else 2) 0 (if ldE o.code=23∨ldE o.code=25 then 4 else 1)≠none;rw [hadr,if_pos zO];rcases hop with ⟨h1,h2⟩|⟨h1,h2⟩
     ·rw [if_pos zO, ← h2];exact hbM
     ·rw [if_neg zO, ← h2];exact hbM
  ·rw [if_neg hle]
   have hbn:=q2 hle
   cases hbg:g.bad A 1 0 (szN o.code) with
   |none=>exact absurd hbg hbn
   |some y=>
    rw [hbg] at hap;rw [hap];exact ⟨(fun h=>by cases h),fun _=>slow hle⟩
end
theorem zyw {M:MemP} {n p:Nat} (hM:M.ok n p) (a:Nat) (l:List Int) (hb:∀ x∈l,0≤x∧x<256) (ha:a+l.length≤n) {y:Int} (hy:0≤y):(M.pokeAt (a:Int) l l.length).get y=if (a:Int)≤y∧y<(a:Int)+l.length then (l[(y-a).toNat]?).getD 0 else M.get y:=by
 have hn:n<4294967296:=by have:=hM.np;have:=hM.pmax;omega
 have h:=zyv hM hn a l hb ha l.length (Nat.le_refl _) y.toNat
 unfold MemP.get;rw [h];by_cases c:a≤y.toNat∧y.toNat<a+l.length
 ·rw [if_pos c,if_pos zO,show y.toNat-a=(y-a).toNat by omega]
 ·rw [if_neg c,if_neg zO]
theorem zyx (M:MemP) (a:Int) (l:List Int):∀ j,(M.pokeAt a l j).image=M.image∧(M.pokeAt a l j).rights=M.rights∧(M.pokeAt a l j).data.length=M.data.length
 |0=>⟨rfl,rfl,rfl⟩
 |j+1=>by
  obtain ⟨h1,h2,h3⟩:=zyx M a l j
  cases h:l[j]? with
  |none=>
   have:l.take (j+1)=l.take j:=by
    have hj:l.length≤j:=List.getElem?_eq_none_iff.1 h;rw [List.take_of_length_le zO,List.take_of_length_le hj]
   unfold MemP.pokeAt at h1 h2 h3⊢;rw [this];exact ⟨h1,h2,h3⟩
  |some b=>
   rw [zyz M a l h]
   split
   ·exact ⟨h1,h2,by show (List.set _ _ _).length=_;rw [List.length_set];exact h3⟩
   ·exact ⟨h1,h2,h3⟩
theorem zti {M:MemP} {n p:Nat} (hM:M.ok n p) {a x:Int} (ha:0≤a) (h:a+4≤4294967296) (hx:word x) (hb:∀ b:Nat,b<4→M.get (a+b)=zei x b):M.load a 0 4=x:=by
 have h0:=hb 0 zO;have h1:=hb 1 zO;have h2:=hb 2 zO;have h3:=hb 3 zO;rw [show a+((0:Nat):Int)=a by omega] at h0;rw [show a+((1:Nat):Int)=a+1 by omega] at h1;rw [show a+((2:Nat):Int)=a+2 by omega] at h2;rw [show a+((3:Nat):Int)=a+3 by omega] at h3;rw [ztk hM ha h,h0,h1,h2,h3];have e0:zei x 0=x/1%256:=rfl;have e1:zei x 1=x/256%256:=rfl;have e2:zei x 2=x/65536%256:=rfl;have e3:zei x 3=x/16777216%256:=rfl;unfold word at hx;omega
def yax (ws:List Int):List Int:=ws.flatMap putL
theorem ya0:∀ ws:List Int,(yax ws).length=4*ws.length
 |[]=>rfl
 |x::ws=>by
  show (putL x++yax ws).length=_;rw [List.length_append,ya0 ws,show (putL x).length=4 from zzb _ _,List.length_cons];omega
theorem yaz (ws:List Int):∀ x∈yax ws,0≤x∧x<256:=fun x hx=>by
 obtain ⟨y,_,hy⟩:=List.mem_flatMap.1 hx;exact zza y 4 x hy
theorem yay:∀ {ws:List Int} {k:Nat} {x:Int},ws[k]?=some x→∀ b,b<4→(yax ws)[4*k+b]?=some (zei x b)
 |[],k,x,h,_,_=>by simp at h
 |y::ws,0,x,h,b,hb=>by
  simp at h;subst h;show (putL y++yax ws)[4*0+b]?=_;rw [List.getElem?_append_left (by rw [show (putL y).length=4 from zzb _ _];omega)];unfold putL zy9;rw [List.getElem?_map,show 4*0+b=b by omega,List.getElem?_range hb];rfl
 |y::ws,k+1,x,h,b,hb=>by
  show (putL y++yax ws)[4*(k+1)+b]?=_;have hl:(putL y).length=4:=zzb _ _;rw [List.getElem?_append_right (by rw [hl];omega),hl,show 4*(k+1)+b-4=4*k+b by omega];exact yay (by simpa using h) b hb
def zp8 (g:MemP):Nat→MemP→MemP
 |0,M=>M
 |j+1,M=>(((zp8 g j M).pokeAt ((256*j:Nat):Int) (g.page j) (g.page j).length).protect j (g.rightsAt j%4))
def zqn (from_:Nat):Nat→MemP→MemP
 |0,M=>M
 |j+1,M=>(zqn from_ j M).syncM ((256*(from_+j):Nat):Int)
def zqe (from_:Nat) (x:Int):Nat→MemP→MemP
 |0,M=>M
 |j+1,M=>(zqe from_ x j M).protect (from_+j) x
def zqd (g:MemP) (G P base:Nat) (ws code:List Int):MemP:=
 zqe (G+1) 4 (P-(G+1)) (zqn (G+1) (P-(G+1)) ((((zp8 g G (MemP.zero P)).pokeAt ((256*G:Nat):Int) (yax ws) (yax ws).length).protect G 3).pokeAt (base:Int) code code.length))
theorem zx3 {g:MemP} {n p:Nat} (hg:g.ok n p) (j:Nat):∀ x∈g.page j,0≤x∧x<256:=fun x hx=>hg.db x (List.mem_of_mem_drop (List.mem_of_mem_take hx))
theorem zx2 {g:MemP} (j:Nat) {i:Nat} (hi:i<256):(g.page j)[i]?=g.data[256*j+i]?:=by
 unfold MemP.page;rw [List.getElem?_take,if_pos hi,List.getElem?_drop]
theorem zqa {g:MemP} {G n p:Nat} (hg:g.ok (256*G) G) {M:MemP} (hM:M.ok n p):∀ j,j≤G→(zp8 g j M).ok n p
 |0,_=>hM
 |j+1,h=>zy4 (zyy (zqa hg hM j zO) _ (zx3 hg j) _ (Nat.le_refl _)) j (by have:=z11 hg j;omega)
theorem zp9 {g:MemP} {G n p:Nat} (hg:g.ok (256*G) G) (hG:G≤p) {M:MemP} (hM:M.ok n p):∀ j,j≤G→∀ y,0≤y→(zp8 g j M).get y=if y<256*(j:Int) then g.get y else M.get y
 |0,_,y,hy=>by rw [if_neg zO];rfl
 |j+1,h,y,hy=>by
  have hk:=zqa hg hM j zO;have hl:=zx5 hg (q:=j) zO;show ((zp8 g j M).pokeAt ((256*j:Nat):Int) (g.page j) (g.page j).length).get y=_;rw [zyw hk (256*j) (g.page j) (zx3 hg j) (by rw [hl,hM.np];omega) hy,hl,zp9 hg hG hM j zO y hy];by_cases c:((256*j:Nat):Int)≤y∧y<((256*j:Nat):Int)+((256:Nat):Int)
  ·rw [if_pos c,if_pos zO,zx2 j zO]
   unfold MemP.get;rw [show 256*j+(y-((256*j:Nat):Int)).toNat=y.toNat by omega]
  ·rw [if_neg c]
   by_cases c2:y<256*(j:Int)
   ·rw [if_pos c2,if_pos zO]
   ·rw [if_neg c2,if_neg zO]
theorem zqb {g:MemP} {G n p:Nat} (hg:g.ok (256*G) G) {M:MemP} (hM:M.ok n p) (hG:G≤p):∀ j,j≤G→∀ q,(zp8 g j M).rights[q]?=if q<j then some (g.rightsAt q%4) else M.rights[q]?
 |0,_,q=>by rw [if_neg zO];rfl
 |j+1,h,q=>by
  have hk:=zqa hg hM j zO;obtain ⟨_,h2,_⟩:=zyx (zp8 g j M) ((256*j:Nat):Int) (g.page j) (g.page j).length;show (List.set ((zp8 g j M).pokeAt ((256*j:Nat):Int) (g.page j) (g.page j).length).rights j (g.rightsAt j%4))[q]?=_;rw [h2,List.getElem?_set];by_cases c:j=q
  ·subst c
   rw [if_pos rfl,if_pos (by rw [hk.lr];omega),if_pos zO]
  ·rw [if_neg c,zqb hg hM hG j zO q]
   by_cases c2:q<j
   ·rw [if_pos c2,if_pos zO]
   ·rw [if_neg c2,if_neg zO]
theorem zqp {n p:Nat} (f:Nat) {M:MemP} (hM:M.ok n p):∀ j,(zqn f j M).ok n p
 |0=>hM
 |j+1=>z7x (zqp f hM j) _
theorem zqo {n p:Nat} (f:Nat) {M:MemP} (hM:M.ok n p):∀ j,f+j≤p→(zqn f j M).data=M.data∧(zqn f j M).rights=M.rights∧∀ x,256*f≤x→x<256*(f+j)→(zqn f j M).image[x]?=M.data[x]?
 |0,_=>⟨rfl,rfl,fun x h1 h2=>by omega⟩
 |j+1,h=>by
  obtain ⟨h1,h2,h3⟩:=zqo f hM j zO;have hk:=zqp f hM j
  have e:(zqn f j M).syncM ((256*(f+j):Nat):Int)=(zqn f j M).syncTo (256*(f+j)) 256:=by
   unfold MemP.syncM;rw [if_pos (by rw [hk.ld,hM.np];omega),show (((256*(f+j):Nat):Int)/256*256).toNat=256*(f+j) by omega]
  obtain ⟨d1,d2,_⟩:=z7y (zqn f j M) (256*(f+j)) 256;show ((zqn f j M).syncM ((256*(f+j):Nat):Int)).data=_∧((zqn f j M).syncM ((256*(f+j):Nat):Int)).rights=_∧∀ x,_→_→((zqn f j M).syncM ((256*(f+j):Nat):Int)).image[x]?=_;rw [e];refine ⟨d1.trans h1,d2.trans h2,fun x hx1 hx2=>?_⟩;rw [z7z hk (256*(f+j)) 256 (by rw [hM.np];omega) x];by_cases c:256*(f+j)≤x∧x<256*(f+j)+256
  ·rw [if_pos c,h1]
  ·rw [if_neg c];exact h3 x hx1 zO
theorem zqg {n p:Nat} (f:Nat) {x:Int} (hx:0≤x∧x<8) {M:MemP} (hM:M.ok n p):∀ j,(zqe f x j M).ok n p
 |0=>hM
 |j+1=>zy4 (zqg f hx hM j) _ hx
theorem zqf (f:Nat) (x:Int) (M:MemP):∀ j,(zqe f x j M).data=M.data∧(zqe f x j M).image=M.image
 |0=>⟨rfl,rfl⟩
 |j+1=>zqf f x M j
theorem zqh {n p:Nat} (f:Nat) {x:Int} (hx:0≤x∧x<8) {M:MemP} (hM:M.ok n p):∀ j,f+j≤p→∀ q,(zqe f x j M).rights[q]?=if f≤q∧q<f+j then some x else M.rights[q]?
 |0,_,q=>by rw [if_neg zO];rfl
 |j+1,h,q=>by
  have hk:=zqg f hx hM j;show (List.set (zqe f x j M).rights (f+j) x)[q]?=_;rw [List.getElem?_set];by_cases c:f+j=q
  ·rw [if_pos c,if_pos (by rw [hk.lr];omega),if_pos zO]
  ·rw [if_neg c,zqh f hx hM j zO q]
   by_cases c2:f≤q∧q<f+j
   ·rw [if_pos c2,if_pos zO]
   ·rw [if_neg c2,if_neg zO]
structure HostIs (g M:MemP) (G P base:Nat) (ws code:List Int):Prop where
 ok:M.ok (256*P) P
 guest:∀ y,0≤y→y<256*(G:Int)→M.get y=g.get y
 ctx:∀ (k:Nat) (x:Int),ws[k]?=some x→word x→M.load (cxE G (k:Int)) 0 4=x
 grr:∀ q,q<G→M.rights[q]?=some (g.rightsAt q%4)
 crr:M.rights[G]?=some 3
 rest:∀ q,G<q→q<P→M.rights[q]?=some 4
 code:∀ j:Nat,j<code.length→M.image[base+j]?=code[j]?
theorem zqy {g:MemP} {G P base:Nat} {ws code:List Int} (hg:g.ok (256*G) G) (hGP:G<P) (hP:P≤4096) (hw:ws.length=64) (hc:∀ x∈code,0≤x∧x<256) (hb1:256*(G+1)≤base) (hb2:base+code.length≤256*P):HostIs g (zqd g G P base ws code) G P base ws code:=by
 have hwl:=ya0 ws;have hz:(MemP.zero P).ok (256*P) P:=zuw (p:=P) hP;have k1:=zqa hg hz G (Nat.le_refl _);have g1:=zp9 hg zO hz G (Nat.le_refl _);have r1:=zqb hg hz zO G (Nat.le_refl _);unfold zqd;generalize zp8 g G (MemP.zero P)=M1 at k1 g1 r1⊢;have k2:=zyy k1 ((256*G:Nat):Int) (yaz ws) (yax ws).length (Nat.le_refl _);have g2:=fun y (hy:0≤y)=>zyw k1 (256*G) (yax ws) (yaz ws) zO hy;obtain ⟨i2,q2,_⟩:=zyx M1 ((256*G:Nat):Int) (yax ws) (yax ws).length;generalize M1.pokeAt ((256*G:Nat):Int) (yax ws) (yax ws).length=M2 at k2 g2 i2 q2⊢;have k3:=zy4 k2 G (x:=3) (by decide);have g3:∀ y,(M2.protect G 3).get y=M2.get y:=fun y=>rfl
 have r3:∀ q,(M2.protect G 3).rights[q]?=if G=q then some 3 else M1.rights[q]?:=fun q=>by
  show (List.set M2.rights G 3)[q]?=_;rw [List.getElem?_set,q2];by_cases c:G=q
  ·rw [if_pos c,if_pos (by rw [k1.lr];omega),if_pos c]
  ·rw [if_neg c,if_neg c]
 generalize M2.protect G 3=M3 at k3 g3 r3⊢;have k4:=zyy k3 (base:Int) hc code.length (Nat.le_refl _);have g4:=fun y (hy:0≤y)=>zyw k3 base code hc hb2 hy;obtain ⟨_,q4,_⟩:=zyx M3 (base:Int) code code.length;generalize M3.pokeAt (base:Int) code code.length=M4 at k4 g4 q4⊢;have k5:=zqp (G+1) k4 (P-(G+1));obtain ⟨d5,q5,i5⟩:=zqo (G+1) k4 (P-(G+1)) zO;generalize zqn (G+1) (P-(G+1)) M4=M5 at k5 d5 q5 i5⊢;have k6:=zqg (G+1) (x:=4) (by decide) k5 (P-(G+1));obtain ⟨d6,i6⟩:=zqf (G+1) 4 M5 (P-(G+1));have r6:=zqh (G+1) (x:=4) (by decide) k5 (P-(G+1)) zO;generalize zqe (G+1) 4 (P-(G+1)) M5=M6 at k6 d6 i6 r6⊢
 have hget:∀ y,M6.get y=M4.get y:=fun y=>by unfold MemP.get;rw [d6,d5]
 refine ⟨k6,fun y y0 y1=>?_,fun k x hk hx=>?_,fun q hq=>?_,?_,fun q q0 q1=>?_,fun j hj=>?_⟩
 ·rw [hget,g4 y y0,if_neg zO,g3,g2 y y0,if_neg zO,g1 y y0,if_pos y1]
 ·have hk64:k<64:=by
   rcases Nat.lt_or_ge k ws.length with h|h
   ·omega
   ·rw [List.getElem?_eq_none h] at hk;cases hk
  refine zti k6 (by unfold cxE;omega) (by unfold cxE;omega) hx fun b hb=>?_;have hy:0≤cxE G (k:Int)+(b:Int):=(by unfold cxE;omega);rw [hget,g4 _ hy,if_neg (by unfold cxE;omega),g3,g2 _ hy,if_pos (by unfold cxE;omega),show (cxE G (k:Int)+(b:Int)-((256*G:Nat):Int)).toNat=4*k+b by unfold cxE;omega,yay hk b hb]
  rfl
 ·rw [r6,if_neg zO,q5,q4,r3,if_neg zO,r1,if_pos hq]
 ·rw [r6,if_neg zO,q5,q4,r3,if_pos rfl]
 ·rw [r6,if_pos zO]
 ·rw [i6,i5 (base+j) zO zO]
  have:=g4 ((base+j:Nat):Int) zO;rw [if_pos zO] at this;unfold MemP.get at this;rw [show (((base+j:Nat):Int)-(base:Int)).toNat=j by omega,Int.toNat_natCast] at this;rw [List.getElem?_eq_getElem (l:=M4.data) (by rw [k4.ld];omega),List.getElem?_eq_getElem hj] at this⊢
  simpa using this
def z8n (l:List It):List Int:=yax (l.map fun it=>yas it.i)
theorem z8o (l:List It):(z8n l).length=4*l.length:=by unfold z8n;rw [ya0,List.length_map]
theorem zqz {g M:MemP} {G P base:Nat} {ws:List Int} {l:List It} (h:HostIs g M G P base ws (z8n l)) (hl:AllIt l) (hb0:base%4=0) (hb1:256*(G+1)≤base) (hb2:base+4*l.length≤256*P) {k:Nat} {it:It} (hk:l[k]?=some it):z0z M.fet (pcE (base:Int) k)=some it.i:=by
 obtain ⟨hv,hok⟩:=hl it (List.mem_of_getElem? hk);obtain ⟨hd,hw⟩:=zif hv hok.imm
 have hkl:k<l.length:=by
  rcases Nat.lt_or_ge k l.length with h|h
  ·exact h
  ·rw [List.getElem?_eq_none h] at hk;cases hk
 have hbyte:∀ b:Nat,b<4→M.fet (pcE (base:Int) k+(b:Int))=some (zei (yas it.i) b):=fun b hb=>by
  have ha:(pcE (base:Int) k+(b:Int)).toNat=base+(4*k+b):=by unfold pcE;omega
  have hr:M.right (pcE (base:Int) k+(b:Int)) 4=true:=by
   unfold MemP.right;rw [h.ok.ld,show ((pcE (base:Int) k+(b:Int))/256).toNat=(base+(4*k+b))/256 by unfold pcE;omega,h.rest _ zO zO];simp;unfold pcE;omega
  have hc:M.code (pcE (base:Int) k+(b:Int))=zei (yas it.i) b:=by
   unfold MemP.code;rw [ha,h.code (4*k+b) (by rw [z8o];omega)];unfold z8n;rw [yay (k:=k) (x:=yas it.i) (by rw [List.getElem?_map,hk];rfl) b hb];rfl
  unfold MemP.fet;rw [if_pos hr,hc]
 unfold z0z;rw [if_pos (by unfold pcE;omega),z0w hw hbyte];exact hd
theorem zqx {g M:MemP} {G P base:Nat} {ws:List Int} {l:List It} (h:HostIs g M G P base ws (z8n l)) (hl:AllIt l) (hb0:base%4=0) (hb1:256*(G+1)≤base) (hb2:base+4*l.length≤256*P) (hn:l.length≤60000):Cd (z0z M.fet) (base:Int) 0 l:=
 ⟨by omega,fun j it hj=>by rw [Nat.zero_add];exact zqz h hl hb0 hb1 hb2 hj⟩
section
variable {W:World} {g:Nat} {vC vS:Value} {X1:EmX}
theorem zr3 {fid:FuncId} {args:List AV} {us:List Value} (v:Value) {K:Value→(World→Prop)→Prop} (hu:avals args=some us) (hok:fnOk Tryz.prog fid=true)
  (hc:∀ w vC1 vS1,EmAt w g vC1 vS1 X1→Calls Tryz.prog fid (pV g::us).toArray w fun e w'=>e= .returned v∧Below w.heap.size w w') (hK:K v fun w=>EmTo W w g vC vS X1):JmpJ Tryz.prog W ⟨[],emG g vC vS⟩ (fun w=>EmTo W w g vC vS X1) fid (one (pV g)::args) K:=by
 refine .one hok v _ (fun w us' hh hj hd=>?_) hK;obtain ⟨u1,l1,rfl,d1,d2⟩:=hd;obtain rfl:=zi6 d1;obtain rfl:=zcs hu d2;obtain ⟨vC1,vS1,k1,_⟩:=hj.now
 exact (hc w vC1 vS1 k1).mono fun e w' ⟨he,hB⟩=>⟨he,(hj.later hB).held,hj.later hB⟩
theorem zry {fid:FuncId} {args:List AV} {us:List Value} (v:Value) (X2:EmX) {K:Value→(World→Prop)→Prop} (hu:avals args=some us) (hok:fnOk Tryz.prog fid=true)
  (hc:∀ w vC1 vS1,EmAt w g vC1 vS1 X1→Calls Tryz.prog fid (pV g::us).toArray w fun e w'=>e= .returned v∧EmTo w w' g vC1 vS1 X2) (hK:K v fun w=>EmTo W w g vC vS X2):JmpJ Tryz.prog W ⟨[],emG g vC vS⟩ (fun w=>EmTo W w g vC vS X1) fid (one (pV g)::args) K:=by
 refine .one hok v _ (fun w us' hh hj hd=>?_) hK;obtain ⟨u1,l1,rfl,d1,d2⟩:=hd;obtain rfl:=zi6 d1;obtain rfl:=zcs hu d2;obtain ⟨vC1,vS1,k1,k2⟩:=hj.now
 exact (hc w vC1 vS1 k1).mono fun e w' ⟨he,hl⟩=>⟨he,(k2 _ _ hl).held,k2 _ _ hl⟩
end
theorem zp3 {W:World} {gs:List Nat} {pb:Nat} {us:List Value} {t:TypeId} (h:W.heap[pb]?=some (.cells us.toArray t (0,0))) (hn:pb∉gs) {k:Nat} {x:Value} (hx:us[k]?=some x):zac W (Gs.flat ⟨[],gs⟩) pb k [x]:=
 zfu (zpz h) (fun hm=>by
  rcases hm with hm|hm
  ·cases hm
  ·exact hn hm) (by simp [World.cell?,h,hx])
section
variable {w:World} {g:Nat} {vC vS:Value} {X:EmX}
structure OpF (o:BOp):Prop where
 n:word o.n
 d:0≤o.d∧o.d<28
 a:0≤o.a∧o.a<28
 b:0≤o.b∧o.b<28
structure EmP (E:Em) (k:Int) (n:Nat) (X:EmX):Prop where
 ok:EmOk E k X
 code:X.code.length≤90000000+n
 sites:X.sites.length≤90000000+n
theorem z5u:∀ (n:Nat) (l:List It),(z5q n l).length≤l.length
 |_,[]=>Nat.le_refl _
 |n,it::l=>by
  have:=z5u (n+1) l;unfold z5q
  split<;>simp only [List.length_cons]<;>omega
theorem EmP.app {E:Em} {k:Int} {n m:Nat} (h:EmP E k n X) (l:List It) (hl:l.length≤m):EmP E k (n+m) (X.app l):=by
 refine ⟨h.ok.app l,?_,?_⟩
 ·show (X.code++l.map (·.i)).length≤_
  have:=h.code;rw [List.length_append,List.length_map];omega
 ·show (X.sites++z5q X.code.length l).length≤_
  have:=h.sites;have:=z5u X.code.length l;rw [List.length_append];omega
theorem EmP.c8 {E:Em} {k:Int} {n:Nat} (h:EmP E k n X) (hn:n≤1000):X.code.length≤100000000:=by
 have:=h.code;omega
theorem EmP.s8 {E:Em} {k:Int} {n:Nat} (h:EmP E k n X) (hn:n≤1000):X.sites.length≤100000000:=by
 have:=h.sites;omega
theorem zoh (h:EmAt w g vC vS X) {pb:Nat} (hn:w.heap.size≤pb):pb∉emG g vC vS:=fun hm=>by
 have:=h.lts pb hm;omega
end
section
variable {W:World} {g:Nat} {vC vS:Value} {X1:EmX} {E:Em} {k:Int} {n:Nat} {K:Value→(World→Prop)→Prop}
theorem zr4 (hp:EmP E k n X1) (hn:n≤1000) (v s:Int) (hv:0≤v∧v<28) (hK:EmP E k (n+1) (X1.app (rdE E v s))→K (.int .i64 (rrE E v s)) fun w=>EmTo W w g vC vS (X1.app (rdE E v s))):JmpJ Tryz.prog W ⟨[],emG g vC vS⟩ (fun w=>EmTo W w g vC vS X1) 71 [one (pV g),one (.int .i64 v),one (.int .i64 s)] K:=
 zry _ _ (us:=[.int .i64 v,.int .i64 s]) rfl zK (fun w vC1 vS1 k1=>z04 E k1 hp.ok.a hp.ok.al v s hv (hp.c8 hn)) (hK (hp.app _ (z0s v s)))
theorem zr5 (hp:EmP E k n X1) (v:Int) (hv:0≤v∧v<28) (hK:K (.int .i64 (tgE E v)) fun w=>EmTo W w g vC vS X1):JmpJ Tryz.prog W ⟨[],emG g vC vS⟩ (fun w=>EmTo W w g vC vS X1) 73 [one (pV g),one (.int .i64 v)] K:=
 zr3 _ (us:=[.int .i64 v]) rfl zK (fun w vC1 vS1 k1=>z8m E k1 hp.ok.a hp.ok.al v hv) hK
theorem zr6 (hp:EmP E k n X1) (hn:n≤1000) (op d a b:Int) (hK:EmP E k (n+1) (X1.app [i3 op d a b])→K (.tuple #[]) fun w=>EmTo W w g vC vS (X1.app [i3 op d a b])):JmpJ Tryz.prog W ⟨[],emG g vC vS⟩ (fun w=>EmTo W w g vC vS X1) 72 [one (pV g),one (.int .i64 op),one (.int .i64 d),one (.int .i64 a),one (.int .i64 b)] K:=
 zry _ _ (us:=[.int .i64 op,.int .i64 d,.int .i64 a,.int .i64 b]) rfl zK (fun w vC1 vS1 k1=>z8t k1 op d a b (hp.c8 hn)) (hK (hp.app _ (Nat.le_refl 1)))
theorem zrz (hp:EmP E k n X1) (hn:n≤1000) (op d a x:Int) (hK:EmP E k (n+1) (X1.app [iI op d a x])→K (.tuple #[]) fun w=>EmTo W w g vC vS (X1.app [iI op d a x])):JmpJ Tryz.prog W ⟨[],emG g vC vS⟩ (fun w=>EmTo W w g vC vS X1) 116 [one (pV g),one (.int .i64 op),one (.int .i64 d),one (.int .i64 a),one (.int .u32 x)] K:=
 zry _ _ (us:=[.int .i64 op,.int .i64 d,.int .i64 a,.int .u32 x]) rfl zK (fun w vC1 vS1 k1=>zq5 k1 op d a x (hp.c8 hn)) (hK (hp.app _ (Nat.le_refl 1)))
theorem zrx (hp:EmP E k n X1) (hn:n≤1000) (d x:Int) (hx:word x) (hK:EmP E k (n+2) (X1.app (conE d x))→K (.tuple #[]) fun w=>EmTo W w g vC vS (X1.app (conE d x))):JmpJ Tryz.prog W ⟨[],emG g vC vS⟩ (fun w=>EmTo W w g vC vS X1) 169 [one (pV g),one (.int .i64 d),one (.int .u32 x)] K:=
 zry _ _ (us:=[.int .i64 d,.int .u32 x]) rfl zK (fun w vC1 vS1 k1=>zg5 k1 d x hx (hp.c8 hn)) (hK (hp.app _ (zg1 d x)))
end
section
variable {w0 w:World} {g:Nat} {vC vS:Value} {X1:EmX} {E:Em} {k:Int} {n:Nat} {S:List Ow} {K:Value→World→Prop}
theorem zsh (h:EmTo w0 w g vC vS X1) (hp:EmP E k n X1) (hn:n≤1000) (v s:Int) (hv:0≤v∧v<28) (hK:EmP E k (n+1) (X1.app (rdE E v s))→∀ w',EmTo w0 w' g vC vS (X1.app (rdE E v s))→K (.int .i64 (rrE E v s)) w'):Jmp Tryz.prog w Gs.nil 71 [one (pV g),one (.int .i64 v),one (.int .i64 s)] S K:=
 zsd _ h (us:=[.int .i64 v,.int .i64 s]) rfl zK (fun w vC1 vS1 k1=>z04 E k1 hp.ok.a hp.ok.al v s hv (hp.c8 hn)) (hK (hp.app _ (z0s v s)))
theorem zsn (h:EmTo w0 w g vC vS X1) (hp:EmP E k n X1) (hn:n≤1000) (op d a b:Int) (hK:EmP E k (n+1) (X1.app [i3 op d a b])→∀ w',EmTo w0 w' g vC vS (X1.app [i3 op d a b])→K (.tuple #[]) w'):Jmp Tryz.prog w Gs.nil 72 [one (pV g),one (.int .i64 op),one (.int .i64 d),one (.int .i64 a),one (.int .i64 b)] S K:=
 zsd _ h (us:=[.int .i64 op,.int .i64 d,.int .i64 a,.int .i64 b]) rfl zK (fun w vC1 vS1 k1=>z8t k1 op d a b (hp.c8 hn)) (hK (hp.app _ (Nat.le_refl 1)))
theorem zsf (h:EmTo w0 w g vC vS X1) (hp:EmP E k n X1) (hn:n≤1000) (op d a x:Int) (hK:EmP E k (n+1) (X1.app [iI op d a x])→∀ w',EmTo w0 w' g vC vS (X1.app [iI op d a x])→K (.tuple #[]) w'):Jmp Tryz.prog w Gs.nil 116 [one (pV g),one (.int .i64 op),one (.int .i64 d),one (.int .i64 a),one (.int .u32 x)] S K:=
 zsd _ h (us:=[.int .i64 op,.int .i64 d,.int .i64 a,.int .u32 x]) rfl zK (fun w vC1 vS1 k1=>zq5 k1 op d a x (hp.c8 hn)) (hK (hp.app _ (Nat.le_refl 1)))
theorem zsb (h:EmTo w0 w g vC vS X1) (hp:EmP E k n X1) (hn:n≤1000) (d x:Int) (hx:word x) (hK:EmP E k (n+2) (X1.app (conE d x))→∀ w',EmTo w0 w' g vC vS (X1.app (conE d x))→K (.tuple #[]) w'):Jmp Tryz.prog w Gs.nil 169 [one (pV g),one (.int .i64 d),one (.int .u32 x)] S K:=
 zsd _ h (us:=[.int .i64 d,.int .u32 x]) rfl zK (fun w vC1 vS1 k1=>zg5 k1 d x hx (hp.c8 hn)) (hK (hp.app _ (zg1 d x)))
theorem zsc (h:EmTo w0 w g vC vS X1) (hp:EmP E k n X1) (hn:n≤1000) (v:Int) (hv:0≤v∧v<28) (hK:EmP E k (n+1) (X1.app (dnE E v))→∀ w',EmTo w0 w' g vC vS (X1.app (dnE E v))→K (.tuple #[]) w'):Jmp Tryz.prog w Gs.nil 74 [one (pV g),one (.int .i64 v)] S K:=
 zsd _ h (us:=[.int .i64 v]) rfl zK (fun w vC1 vS1 k1=>zja E k1 hp.ok.a v hv (hp.c8 hn)) (hK (hp.app _ (zi8 v)))
theorem zsk (h:EmTo w0 w g vC vS X1) (hp:EmP E k n X1) (hn:n≤1000) (kind:Int) (hk:1≤kind∧kind≤6) (s:Sk) (hs:z5h X1 kind=z5l X1.code.length s) (hK:EmP E k (n+1) (X1.app [zq1 s])→∀ w',EmTo w0 w' g vC vS (X1.app [zq1 s])→K (.tuple #[]) w'):Jmp Tryz.prog w Gs.nil 117 [one (pV g),one (.int .i64 kind),one .nilFunc] S K:=
 zsd _ h (us:=[.int .i64 kind,.nilFunc]) rfl zK (fun w vC1 vS1 k1=>z7f k1 kind hk (hp.c8 hn) (hp.s8 hn) s hs) (hK (hp.app _ (Nat.le_refl 1)))
end
section
variable {w:World} {g:Nat} {vC vS:Value} {X:EmX} {E:Em} {k:Int}
theorem EmTo.blkO {w1:World} {X1:EmX} (h:EmTo w w1 g vC vS X1) {b:Nat} {o} (e:w.heap[b]?=some o) (hn:b∉emG g vC vS):w1.heap[b]?=some o:=(h.blk (zpz e) hn).trans e
theorem EmTo.now2 {w1:World} {X1:EmX} (h:EmTo w w1 g vC vS X1):∃ vC1 vS1,EmAt w1 g vC1 vS1 X1∧(∀ b,b<w.heap.size→b∉emG g vC vS→b∉emG g vC1 vS1)∧∀ w2 X2,EmTo w1 w2 g vC1 vS1 X2→EmTo w w2 g vC vS X2:=by
 obtain ⟨vC1,vS1,k1,k2⟩:=h.out;refine ⟨vC1,vS1,k1,fun b hb hn hm=>?_,fun w2 X2 k=>h.then k2 k⟩;rcases k2 b hm with h3|h3
 ·exact hn h3
 ·omega
theorem z4j (h:EmAt w g vC vS X) (hp:EmP E k 0 X) (o:BOp) (ho:OpF o):
  Calls Tryz.prog 119 #[pV g,opV o] w fun e w'=>e= .returned (.tuple #[])∧EmTo w w' g vC vS (X.app (conE (tgE E o.d) o.n++dnE E o.d)):=by
 refine zfh [pV g,opV o] Tryz.func119 Tryz.ntmps119 rfl zS ?_;refine z3i ?_;(conv=>whnf);refine z3f fun r w1 hR=>?_;obtain ⟨pb,us,e1,e2,e3⟩:=hR.own 0 _ rfl;obtain rfl:=ziw (us:=opC o) e3;have hB1:=hR.toBelow;have hpb:=zoh h (zoi hR e1);have h1:=h.later hB1;refine ⟨z6d [(0,pV g),(3,pV pb)],fun a' hf=>z6m ⟨z6k hf rfl,z6i hf 3 rfl e1,trivial⟩,?_⟩;clear hR e3;refine z25 (z3k (emG g vC vS) (.q 0 (.q 1 (.q 2 (.q 3 (.q 5 (.q 6 (.alt 4 (.alt 7 .done .no) .no))))))) (fun w=>EmTo w1 w g vC vS X) (fun w hB=>EmTo.refl h1 hB) mixed zK zK ?_);(conv=>whnf);refine ⟨_,zp3 e2 hpb (k:=0+1) (x:= .int .i64 o.d) rfl,?_⟩;(conv=>whnf);refine ⟨_,zp3 e2 hpb (k:=0+4) (x:= .int .u32 o.n) rfl,?_⟩;(conv=>whnf);refine ⟨?_,trivial⟩;refine zr5 hp o.d ho.d ?_;(conv=>whnf);refine ⟨?_,trivial⟩;refine zrx hp (by decide) (tgE E o.d) o.n ho.n fun hp=>?_;(conv=>whnf);intro w2 _ hl;refine zcd ?_;refine z26 3 rfl rfl rfl ?_;(conv=>whnf);refine ⟨_,zd1 (off:=0+1) (hl.blkO e2 hpb) rfl,?_⟩;(conv=>whnf);refine zsc hl hp (by decide) o.d ho.d fun hp w2 hl=>?_;(conv=>whnf);refine zb5 ?_;(conv=>whnf)
 exact zmp rfl fun w4 hB=>⟨rfl,by simp only [zbj] at hl;exact (hl.early hB1).later hB⟩
theorem zuy (h:EmAt w g vC vS X) (hp:EmP E k 0 X) (o:BOp) (ho:OpF o):
  Calls Tryz.prog 120 #[pV g,opV o] w fun e w'=>e= .returned (.tuple #[])∧EmTo w w' g vC vS (X.app (rdE E o.a 10++([i3 1 (tgE E o.d) (rrE E o.a 10) 0]++dnE E o.d))):=by
 refine zfh [pV g,opV o] Tryz.func120 Tryz.ntmps120 rfl zS ?_;refine z3i ?_;(conv=>whnf);refine z3f fun r w1 hR=>?_;obtain ⟨pb,us,e1,e2,e3⟩:=hR.own 0 _ rfl;obtain rfl:=ziw (us:=opC o) e3;have hB1:=hR.toBelow;have hpb:=zoh h (zoi hR e1);have h1:=h.later hB1;refine ⟨z6d [(0,pV g),(3,pV pb)],fun a' hf=>z6m ⟨z6k hf rfl,z6i hf 3 rfl e1,trivial⟩,?_⟩;clear hR e3;refine z25 (z3k (emG g vC vS) (.q 0 (.q 1 (.q 2 (.q 3 (.q 5 (.q 6 (.q 7 (.alt 4 (.alt 8 (.alt 9 .done .no) .no) .no)))))))) (fun w=>EmTo w1 w g vC vS X) (fun w hB=>EmTo.refl h1 hB) mixed zK zK ?_);(conv=>whnf);refine ⟨_,zp3 e2 hpb (k:=0+1) (x:= .int .i64 o.d) rfl,?_⟩;(conv=>whnf);refine ⟨_,zp3 e2 hpb (k:=0+2) (x:= .int .i64 o.a) rfl,?_⟩;(conv=>whnf);refine ⟨?_,trivial⟩;refine zr5 hp o.d ho.d ?_;(conv=>whnf);refine ⟨?_,trivial⟩;refine zr4 hp (by decide) o.a 10 ho.a fun hp=>?_;(conv=>whnf);refine ⟨?_,trivial⟩;refine zr6 hp (by decide) 1 (tgE E o.d) (rrE E o.a 10) 0 fun hp=>?_;(conv=>whnf);intro w2 _ hl;refine zcd ?_;refine z26 3 rfl rfl rfl ?_;(conv=>whnf);refine ⟨_,zd1 (off:=0+1) (hl.blkO e2 hpb) rfl,?_⟩;(conv=>whnf);refine zsc hl hp (by decide) o.d ho.d fun hp w2 hl=>?_;(conv=>whnf);refine zb5 ?_;(conv=>whnf)
 exact zmp rfl fun w4 hB=>⟨rfl,by simp only [zbj,List.append_assoc,List.cons_append,List.nil_append] at hl;exact (hl.early hB1).later hB⟩
theorem zi7 (h:EmAt w g vC vS X) (hp:EmP E k 0 X) (o:BOp) (ho:OpF o):
  Calls Tryz.prog 121 #[pV g,opV o] w fun e w'=>e= .returned (.tuple #[])∧EmTo w w' g vC vS (X.app (rdE E o.a 10++(rdE E o.b 11++([i3 1 12 0 0,iI 32 (rrE E o.b 11) 0 2,i3 10 12 (rrE E o.a 10) (rrE E o.b 11),i3 1 (tgE E o.d) 12 0]++dnE E o.d)))):=by
 refine zfh [pV g,opV o] Tryz.func121 Tryz.ntmps121 rfl zS ?_;refine z3i ?_;(conv=>whnf);refine z3f fun r w1 hR=>?_;obtain ⟨pb,us,e1,e2,e3⟩:=hR.own 0 _ rfl;obtain rfl:=ziw (us:=opC o) e3;have hB1:=hR.toBelow;have hpb:=zoh h (zoi hR e1);have h1:=h.later hB1;refine ⟨z6d [(0,pV g),(3,pV pb)],fun a' hf=>z6m ⟨z6k hf rfl,z6i hf 3 rfl e1,trivial⟩,?_⟩;clear hR e3;refine z25 (z3k (emG g vC vS) (.q 0 (.q 1 (.q 2 (.q 4 (.q 5 (.q 6 (.alt 3 (.alt 7 (.q 8 (.q 9 .done)) .no) .no))))))) (fun w=>EmTo w1 w g vC vS X) (fun w hB=>EmTo.refl h1 hB) mixed zK zK ?_);(conv=>whnf);refine ⟨_,zp3 e2 hpb (k:=0+2) (x:= .int .i64 o.a) rfl,?_⟩;(conv=>whnf);refine ⟨_,zp3 e2 hpb (k:=0+3) (x:= .int .i64 o.b) rfl,?_⟩;(conv=>whnf);refine ⟨?_,trivial⟩;refine zr4 hp (by decide) o.a 10 ho.a fun hp=>?_;(conv=>whnf);refine ⟨?_,trivial⟩;refine zr4 hp (by decide) o.b 11 ho.b fun hp=>?_;(conv=>whnf);intro w2 _ hl;refine zcd ?_;refine z25 (z26 1 rfl rfl rfl ?_);(conv=>whnf);refine zsn hl hp (by decide) 1 12 0 0 fun hp w2 hl=>?_;(conv=>whnf);refine zcd ?_;refine z25 (z26 2 rfl rfl rfl ?_);(conv=>whnf);refine zsf hl hp (by decide) 32 (rrE E o.b 11) 0 2 fun hp w2 hl=>?_;(conv=>whnf);refine zcd ?_;refine z25 (z26 3 rfl rfl rfl ?_);(conv=>whnf);refine zsn hl hp (by decide) 10 12 (rrE E o.a 10) (rrE E o.b 11) fun hp w2 hl=>?_;(conv=>whnf);refine zcd ?_;refine z25 ?_;obtain ⟨vC1,vS1,h2,hn2,k2⟩:=hl.now2;have hb2:=hl.blkO e2 hpb
 replace hn2:=hn2 pb (zpz e2) hpb
 refine z3h (emG g vC1 vS1) (fun w=>EmTo w2 w g vC1 vS1 _) (fun w hB=>EmTo.refl h2 hB) ?_
 conv=>whnf
 refine ⟨_,zp3 hb2 hn2 (k:=0+1) (x:= .int .i64 o.d) rfl,?_⟩
 conv=>whnf
 refine zr5 hp o.d ho.d ?_
 conv=>whnf
 refine zr6 hp (by decide) 1 (tgE E o.d) 12 0 fun hp=>?_
 conv=>whnf
 intro w3 _ hl3
 replace hl:=k2 _ _ hl3
 clear hl3 h2 k2 hb2 hn2;refine zcd ?_;refine z26 3 rfl rfl rfl ?_;(conv=>whnf);refine ⟨_,zd1 (off:=0+1) (hl.blkO e2 hpb) rfl,?_⟩;(conv=>whnf);refine zsc hl hp (by decide) o.d ho.d fun hp w2 hl=>?_;(conv=>whnf);refine zb5 ?_;(conv=>whnf)
 exact zmp rfl fun w4 hB=>⟨rfl,by simp only [zbj,List.append_assoc,List.cons_append,List.nil_append] at hl;exact (hl.early hB1).later hB⟩
theorem zkq (h:EmAt w g vC vS X) (hp:EmP E k 0 X) (o:BOp) (ho:OpF o):
  Calls Tryz.prog 122 #[pV g,opV o] w fun e w'=>e= .returned (.tuple #[])∧EmTo w w' g vC vS (X.app (rdE E o.a 10++(rdE E o.b 11++([i3 5 12 (rrE E o.a 10) (rrE E o.b 11),iI 16 13 0 1,i3 11 (tgE E o.d) 12 13]++dnE E o.d)))):=by
 refine zfh [pV g,opV o] Tryz.func122 Tryz.ntmps122 rfl zS ?_;refine z3i ?_;(conv=>whnf);refine z3f fun r w1 hR=>?_;obtain ⟨pb,us,e1,e2,e3⟩:=hR.own 0 _ rfl;obtain rfl:=ziw (us:=opC o) e3;have hB1:=hR.toBelow;have hpb:=zoh h (zoi hR e1);have h1:=h.later hB1;refine ⟨z6d [(0,pV g),(3,pV pb)],fun a' hf=>z6m ⟨z6k hf rfl,z6i hf 3 rfl e1,trivial⟩,?_⟩;clear hR e3;refine z25 (z3k (emG g vC vS) (.q 0 (.q 1 (.q 2 (.q 4 (.q 5 (.q 6 (.alt 3 (.alt 7 (.q 8 (.q 9 .done)) .no) .no))))))) (fun w=>EmTo w1 w g vC vS X) (fun w hB=>EmTo.refl h1 hB) mixed zK zK ?_);(conv=>whnf);refine ⟨_,zp3 e2 hpb (k:=0+2) (x:= .int .i64 o.a) rfl,?_⟩;(conv=>whnf);refine ⟨_,zp3 e2 hpb (k:=0+3) (x:= .int .i64 o.b) rfl,?_⟩;(conv=>whnf);refine ⟨?_,trivial⟩;refine zr4 hp (by decide) o.a 10 ho.a fun hp=>?_;(conv=>whnf);refine ⟨?_,trivial⟩;refine zr4 hp (by decide) o.b 11 ho.b fun hp=>?_;(conv=>whnf);intro w2 _ hl;refine zcd ?_;refine z25 (z26 3 rfl rfl rfl ?_);(conv=>whnf);refine zsn hl hp (by decide) 5 12 (rrE E o.a 10) (rrE E o.b 11) fun hp w2 hl=>?_;(conv=>whnf);refine zcd ?_;refine z25 (z26 1 rfl rfl rfl ?_);(conv=>whnf);refine zsf hl hp (by decide) 16 13 0 1 fun hp w2 hl=>?_;(conv=>whnf);refine zcd ?_;refine z25 ?_;obtain ⟨vC1,vS1,h2,hn2,k2⟩:=hl.now2;have hb2:=hl.blkO e2 hpb
 replace hn2:=hn2 pb (zpz e2) hpb
 refine z3h (emG g vC1 vS1) (fun w=>EmTo w2 w g vC1 vS1 _) (fun w hB=>EmTo.refl h2 hB) ?_
 conv=>whnf
 refine ⟨_,zp3 hb2 hn2 (k:=0+1) (x:= .int .i64 o.d) rfl,?_⟩
 conv=>whnf
 refine zr5 hp o.d ho.d ?_
 conv=>whnf
 refine zr6 hp (by decide) 11 (tgE E o.d) 12 13 fun hp=>?_
 conv=>whnf
 intro w3 _ hl3
 replace hl:=k2 _ _ hl3
 clear hl3 h2 k2 hb2 hn2;refine zcd ?_;refine z26 3 rfl rfl rfl ?_;(conv=>whnf);refine ⟨_,zd1 (off:=0+1) (hl.blkO e2 hpb) rfl,?_⟩;(conv=>whnf);refine zsc hl hp (by decide) o.d ho.d fun hp w2 hl=>?_;(conv=>whnf);refine zb5 ?_;(conv=>whnf)
 exact zmp rfl fun w4 hB=>⟨rfl,by simp only [zbj,List.append_assoc,List.cons_append,List.nil_append] at hl;exact (hl.early hB1).later hB⟩
end
end Go.Proofs.YtocafomnnkmjfaaGreat
