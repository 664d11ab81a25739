import Derived.Test.YtocafomnnkmjfaaGreatK21
namespace Go.Proofs.YtocafomnnkmjfaaGreat
open Go.RowKit
def pcE (B:Int) (k:Nat):Int:=B+4*(k:Int)
def Cd (F:Int→Option QI) (B:Int) (k:Nat) (l:List It):Prop:=k+l.length≤60000∧∀ j it,l[j]?=some it→F (pcE B (k+j))=some it.i
section
variable {F:Int→Option QI} {B:Int} {k:Nat}
theorem Cd.left {l m:List It} (h:Cd F B k (l++m)):Cd F B k l:=⟨by have:=h.1;rw [List.length_append] at this;omega,fun j it hj=>by
 have hl:j<l.length:=by
  rcases Nat.lt_or_ge j l.length with h1|h1
  ·exact h1
  ·rw [List.getElem?_eq_none h1] at hj;cases hj
 exact h.2 j it (by rw [List.getElem?_append_left hl];exact hj)⟩
theorem Cd.right {l m:List It} (h:Cd F B k (l++m)):Cd F B (k+l.length) m:=⟨by have:=h.1;rw [List.length_append] at this;omega,fun j it hj=>by
 have:=h.2 (l.length+j) it (by rw [List.getElem?_append_right zO,Nat.add_sub_cancel_left];exact hj)
 rw [← Nat.add_assoc] at this;exact this⟩
theorem Cd.head {it:It} {l:List It} (h:Cd F B k (it::l)):F (pcE B k)=some it.i:=h.2 0 it rfl
theorem Cd.tail {it:It} {l:List It} (h:Cd F B k (it::l)):Cd F B (k+1) l:=⟨by have:=h.1;rw [List.length_cons] at this;omega,fun j x hj=>by
 have:=h.2 (j+1) x hj
 rwa [show k+(j+1)=k+1+j by omega] at this⟩
theorem Cd.lt {it:It} {l:List It} (h:Cd F B k (it::l)):k<60000:=by have:=h.1;rw [List.length_cons] at this;omega
theorem zrs (F:Int→Option QI):∀ (m n:Nat) (R:Int→Int) (a:Int) (M:MemP),zrq F (m+n) R a M=(zrq F m R a M).bind fun y=>zrq F n y.1 y.2.1 y.2.2
 |0,n,R,a,M=>by rw [Nat.zero_add];rfl
 |m+1,n,R,a,M=>by
  rw [show m+1+n=m+n+1 by omega,zrr,zrr]
  cases z65 (qAt F a) a R M with
  |none=>rfl
  |some z=>exact zrs F m n z.1 z.2.1 z.2.2
def Ex (F:Int→Option QI) (B:Int) (k:Nat) (R:Int→Int) (M:MemP) (k':Nat) (R':Int→Int) (M':MemP) (N:Nat):Prop:=∃ n,n≤N∧zrq F n R (pcE B k) M=some (R',pcE B k',M')
theorem Ex.refl {R:Int→Int} {M:MemP}:Ex F B k R M k R M 0:=⟨0,Nat.le_refl _,rfl⟩
theorem Ex.trans {k1 k2:Nat} {R R1 R2:Int→Int} {M M1 M2:MemP} {N1 N2:Nat} (h1:Ex F B k R M k1 R1 M1 N1) (h2:Ex F B k1 R1 M1 k2 R2 M2 N2):Ex F B k R M k2 R2 M2 (N1+N2):=by
 obtain ⟨n1,l1,e1⟩:=h1;obtain ⟨n2,l2,e2⟩:=h2;exact ⟨n1+n2,by omega,by rw [zrs,e1];exact e2⟩
theorem Ex.mono {k1:Nat} {R R1:Int→Int} {M M1:MemP} {N N':Nat} (h:Ex F B k R M k1 R1 M1 N) (hN:N≤N'):Ex F B k R M k1 R1 M1 N':=by
 obtain ⟨n,l,e⟩:=h;exact ⟨n,by omega,e⟩
theorem Ex.one {i:QI} {k':Nat} {R R':Int→Int} {M M':MemP} (h:F (pcE B k)=some i) (hs:z65 i (pcE B k) R M=some (R',pcE B k',M')):Ex F B k R M k' R' M' 1:=by
 refine ⟨1,Nat.le_refl _,?_⟩
 have hq:qAt F (pcE B k)=i:=by unfold qAt;rw [h];rfl
 rw [zrr,hq,hs]
 rfl
variable {R:Int→Int} {M:MemP}
theorem zyc (hB:0≤B∧B≤4000000000) (hk:k<60000):zhz (pcE B k+4)=pcE B (k+1):=by unfold zhz pcE;push_cast;omega
theorem zyb (hB:0≤B∧B≤4000000000) {d:Nat} (hk:k+d≤60000):zhz (pcE B k+4*(d:Int))=pcE B (k+d):=by unfold zhz pcE;push_cast;omega
theorem z87 {R:Int→Int} {d x j:Int} (h:j≠d):updR R d x j=R j:=by unfold updR;split;rfl;exact if_neg h
theorem z86 {R:Int→Int} {d x:Int} (h:d≠0):updR R d x d=x:=by unfold updR;rw [if_neg h];exact if_pos rfl
theorem zli (hB:0≤B∧B≤4000000000) {op d a b:Int} {l:List It} (h:Cd F B k (i3 op d a b::l)) (hop:1≤op∧op≤12) (hz:op=10→R b≠0):Ex F B k R M (k+1) (updR R d (yaq (zzu op) (R a) (R b))) M 1:=by
 refine Ex.one (i:=⟨op,d,a,b,0⟩) h.head ?_;unfold z65;dsimp only;have hc:zzu op≠0:=(by unfold zzu;split;omega;split;omega;split;omega;omega);rw [if_neg (by show ¬(op=10∧R b=0);exact fun h=>hz h.1 h.2),if_pos hc];show some (updR R d (yaq (zzu op) (R a) (if 16≤op then 0 else R b)),zhz (pcE B k+4),M)=_;rw [if_neg zO,zyc hB h.lt]
theorem zk7 (hB:0≤B∧B≤4000000000) {d a n:Int} {l:List It} (h:Cd F B k (iI 16 d a n::l)):Ex F B k R M (k+1) (updR R d ((R a+n)%4294967296)) M 1:=by
 refine Ex.one h.head ?_;show some (updR R d ((R a+n)%4294967296),zhz (pcE B k+4),M)=_;rw [zyc hB h.lt]
theorem zle (hB:0≤B∧B≤4000000000) {d a n:Int} {l:List It} (h:Cd F B k (iI 18 d a n::l)):Ex F B k R M (k+1) (updR R d (orI (R a) n)) M 1:=by
 refine Ex.one h.head ?_;show some (updR R d (orI (R a) n),zhz (pcE B k+4),M)=_;rw [zyc hB h.lt]
theorem zld (hB:0≤B∧B≤4000000000) {d n:Int} {l:List It} (h:Cd F B k (iI 41 d 0 n::l)):Ex F B k R M (k+1) (updR R d (n*1024%4294967296)) M 1:=by
 refine Ex.one h.head ?_;show some (updR R d (n*1024%4294967296),zhz (pcE B k+4),M)=_;rw [zyc hB h.lt]
theorem z89 {R:Int→Int} {d x y:Int}:updR (updR R d x) d y=updR R d y:=by
 funext j
 unfold updR;by_cases h:d=0
 ·rw [if_pos h,if_pos h,if_pos h]
 ·rw [if_neg h,if_neg h,if_neg h]
  by_cases hj:j=d
  ·rw [if_pos hj,if_pos hj]
  ·rw [if_neg hj,if_neg hj,if_neg hj]
theorem zla (hB:0≤B∧B≤4000000000) {d n:Int} (h:Cd F B k (con2 d n)) (hd:d≠0) (hn:word n):Ex F B k R M (k+2) (updR R d n) M 2:=by
 have h1:=zld (R:=R) (M:=M) hB h;have h2:=zle (R:=updR R d (n/1024*1024%4294967296)) (M:=M) hB h.tail
 have e:orI (updR R d (n/1024*1024%4294967296) d) (n%1024)=n:=by
  rw [z86 hd];unfold word at hn;rw [zw9 10 zO (by show _%1024=0;omega) ⟨by omega,by show _<1024;omega⟩];omega
 rw [e,z89] at h2;exact h1.trans h2
theorem zk9 (hB:0≤B∧B≤4000000000) {d n:Int} (h:Cd F B k (conE d n)) (hd:d≠0) (hn:word n) (h0:R 0=0):Ex F B k R M (k+(conE d n).length) (updR R d n) M (conE d n).length:=by
 unfold conE at h⊢;by_cases hf:zm1 n=true
 ·rw [if_pos hf] at h⊢
  have h1:=zk7 (R:=R) (M:=M) hB h;rw [h0,show (0+n)%4294967296=n by unfold word at hn;omega] at h1;exact h1
 ·rw [if_neg hf] at h⊢
  exact zla hB h hd hn
theorem zlc (hB:0≤B∧B≤4000000000) {d a n:Int} {s:Option Sk} {l:List It} (h:Cd F B k (⟨⟨23,d,a,0,n⟩,s⟩::l)) (hb:M.bad ((R a+n)%4294967296) 1 0 4=none):Ex F B k R M (k+1) (updR R d (M.load ((R a+n)%4294967296) 0 4)) M 1:=by
 refine Ex.one h.head ?_;show (match M.bad ((R a+n)%4294967296) 1 0 4 with|none=>some (updR R d (M.load ((R a+n)%4294967296) 0 4),zhz (pcE B k+4),M)|some _=>none)=_;rw [hb,zyc hB h.lt]
theorem zlb (hB:0≤B∧B≤4000000000) {d a n:Int} {s:Option Sk} {l:List It} (h:Cd F B k (⟨⟨24,d,a,0,n⟩,s⟩::l)) (hb:M.bad ((R a+n)%4294967296) 1 0 1=none):Ex F B k R M (k+1) (updR R d (M.load ((R a+n)%4294967296) 0 1)) M 1:=by
 refine Ex.one h.head ?_;show (match M.bad ((R a+n)%4294967296) 1 0 1 with|none=>some (updR R d (M.load ((R a+n)%4294967296) 0 1),zhz (pcE B k+4),M)|some _=>none)=_;rw [hb,zyc hB h.lt]
theorem zlh (hB:0≤B∧B≤4000000000) {d a n:Int} {s:Option Sk} {l:List It} (h:Cd F B k (⟨⟨25,d,a,0,n⟩,s⟩::l)) (hb:M.bad ((R a+n)%4294967296) 2 0 4=none):Ex F B k R M (k+1) R (MemP.store ((R a+n)%4294967296) 0 4 (R d) M) 1:=by
 refine Ex.one h.head ?_;show (match M.bad ((R a+n)%4294967296) 2 0 4 with|none=>some (R,zhz (pcE B k+4),M.storeM ((R a+n)%4294967296) 4 (R d))|some _=>none)=_;unfold MemP.storeM;rw [hb,zyc hB h.lt]
theorem zlg (hB:0≤B∧B≤4000000000) {d a n:Int} {s:Option Sk} {l:List It} (h:Cd F B k (⟨⟨26,d,a,0,n⟩,s⟩::l)) (hb:M.bad ((R a+n)%4294967296) 2 0 1=none):Ex F B k R M (k+1) R (MemP.store ((R a+n)%4294967296) 0 1 (R d) M) 1:=by
 refine Ex.one h.head ?_;show (match M.bad ((R a+n)%4294967296) 2 0 1 with|none=>some (R,zhz (pcE B k+4),M.storeM ((R a+n)%4294967296) 1 (R d))|some _=>none)=_;unfold MemP.storeM;rw [hb,zyc hB h.lt]
def brE (op x y:Int):Bool:=if op=32 then decide (x=y) else if op=33 then decide (x≠y) else decide (¬x<y)
theorem zk8 (hB:0≤B∧B≤4000000000) {op d a:Int} {e:Nat} {l:List It} (h:Cd F B k (iI op d a (e:Int)::l)) (hop:op=32∨op=33∨op=35) (he:k+e≤60000):Ex F B k R M (if brE op (R d) (R a)=true then k+e else k+1) R M 1:=by
 refine Ex.one h.head ?_
 have ht:z8k op (R d) (R a)=brE op (R d) (R a):=by
  unfold z8k brE
  rcases hop with rfl|rfl|rfl<;>rfl
 have hs:z65 ⟨op,d,a,0,(e:Int)⟩ (pcE B k) R M=some (R,if z8k op (R d) (R a)=true then zhz (pcE B k+4*(e:Int)) else zhz (pcE B k+4),M):=by
  rcases hop with rfl|rfl|rfl<;>rfl
 show z65 ⟨op,d,a,0,(e:Int)⟩ (pcE B k) R M=_;rw [hs,ht]
 split
 ·rw [zyb hB he]
 ·rw [zyc hB h.lt]
end
end Go.Proofs.YtocafomnnkmjfaaGreat
